/- slices.Insert of one number into a row of the call's own: whatever road it takes. -/
import Derived.Test.YtbnjffhcpkfnhaaHI
import Derived.Test.YtbnjffhcpkfnhaaHB
namespace Go.Proofs.Ytbnjffhcpkfnhaa.H
open Go.RowKit Go.Shelf Go.Proofs.YtbnjffhcpkfnhaaW.PrintWords Go.Proofs.YtbnjffhcpkfnhaaW.PrintLast Go.Proofs.YtbnjffhcpkfnhaaW.PrintMore
set_option linter.unusedVariables false

def writes (cs : Array Value) (i : Nat) : List Value → Array Value
  | [] => cs
  | v :: r => writes (cs.setIfInBounds i v) (i + 1) r
theorem blk_puts {g : Nat} {t : TypeId} : ∀ (vs : List Value) {w : World} {cs : Array Value} (h : w.heap[g]? = some (.cells cs t (0, 0))) (i : Nat), (w.setCells g i vs).heap[g]? = some (.cells (writes cs i vs) t (0, 0))
  | [], _, _, h, _ => h
  | v :: r, w, cs, h, i => by
    rw [World.setCells]
    exact blk_puts r (blk_put h i v rfl) (i + 1)
theorem writes_list : ∀ (vs : List Value) (cs : Array Value) (i : Nat), i + vs.length ≤ cs.size → (writes cs i vs).toList = cs.toList.take i ++ vs ++ cs.toList.drop (i + vs.length)
  | [], cs, i, _ => by simp [writes]
  | v :: r, cs, i, h => by
    simp only [List.length_cons] at h
    rw [writes, writes_list r _ (i + 1) (by rw [Array.size_setIfInBounds]; omega), Array.toList_setIfInBounds]
    have hlt : i < cs.toList.length := by simp; omega
    have h1 : (cs.toList.set i v).take (i + 1) = cs.toList.take i ++ [v] := by
      rw [List.take_add_one, List.take_set_of_le (Nat.le_refl _), List.getElem?_set_self hlt]
      rfl
    have h2 : (cs.toList.set i v).drop (i + 1 + r.length) = cs.toList.drop (i + 1 + r.length) := by
      rw [List.drop_set_of_lt (by omega)]
    rw [h1, h2, List.length_cons, show i + (r.length + 1) = i + 1 + r.length by omega]
    simp
theorem writes_size : ∀ (vs : List Value) (cs : Array Value) (i : Nat), (writes cs i vs).size = cs.size
  | [], cs, i => rfl
  | v :: r, cs, i => by rw [writes, writes_size r]; simp
theorem Below.setCells {B g : Nat} (hg : B ≤ g) : ∀ (vs : List Value) {a w : World} (h : Below B a w) (i : Nat), Below B a (w.setCells g i vs)
  | [], _, _, h, _ => h
  | v :: r, _, _, h, i => by rw [World.setCells]; exact Below.setCells hg r (h.setCell hg _) (i + 1)
/-- The list with x at place i. -/
def insL (l : List Int) (i : Nat) (x : Int) : List Int := l.take i ++ x :: l.drop i
theorem nums_oneCell (l : List Int) : ∀ v ∈ nums .i64 l, v.oneCell' = true := by
  intro v hv
  obtain ⟨_, _, rfl⟩ := List.mem_map.1 hv
  rfl
theorem nums_insL (l : List Int) (i : Nat) (x : Int) : nums .i64 (insL l i x) = (nums .i64 l).take i ++ [.int .i64 x] ++ (nums .i64 l).drop i := by
  simp [nums, insL, List.map_take, List.map_drop]
theorem insL_len (l : List Int) (i : Nat) (x : Int) (hi : i ≤ l.length) : (insL l i x).length = l.length + 1 := by
  unfold insL
  rw [List.length_append, List.length_cons, List.length_take, List.length_drop]
  omega

theorem shape_of {w : World} {g : Nat} {cs : Array Value} {t : TypeId} (h : w.heap[g]? = some (.cells cs t (0, 0))) : w.shape? g = some (t, cs.size) := by
  simp [World.shape?, h]
theorem zero_size (n : Nat) : (Builtin.zeroCells (Value.int .i64 0).cells n).size = n := by
  simp [Builtin.zeroCells, Value.cells]
set_option maxHeartbeats 2000000 in
theorem insert_one (base : Nat) (v : Value) (l : List Int) (i : Nat) (x : Int) (w : World) (hown : w.ownsRow base 3 1 v l.length (nums .i64 l)) (hb : base ≤ w.heap.size) (hi : i ≤ l.length) (hl : l.length ≤ 1000) :
    Calls Try.prog 94 #[v, .int .i64 i, .slice (some ⟨w.heap.size, 0, none⟩) 1 1] (w.alloc (.cells #[.int .i64 x] 3)) fun e w' => ∃ v', e = .returned v' ∧ w'.ownsRow base 3 1 v' (insL l i x).length (nums .i64 (insL l i x)) ∧ Below base w w' := by
  have hw1 : Below base w (w.alloc (.cells #[.int .i64 x] 3)) := (Below.refl _ _).alloc hb _
  have hvb := blk_new w (.cells #[.int .i64 x] 3)
  have hlen := insL_len l i x hi
  have hnl : (nums .i64 l).length = l.length := by simp [nums]
  have hvs : ∀ j u, ([Value.int .i64 x] : List Value)[j]? = some u → (w.alloc (.cells #[.int .i64 x] 3)).cell? ⟨w.heap.size, 0 + j, none⟩ = some u := by
    intro j u hu
    rw [blk_cell hvb]
    cases j with
    | zero => simpa using hu
    | succ j => simp at hu
  have h1v : ∀ u ∈ ([Value.int .i64 x] : List Value), u.oneCell' = true := by intro u hu; obtain rfl := List.mem_singleton.1 hu; rfl
  have hB1 : w.heap.size ≤ (w.alloc (.cells #[.int .i64 x] 3)).heap.size := hw1.size
  obtain ⟨hxl, hv⟩ := hown
  have hmax : maxLen = 9223372036854775807 := rfl
  have hold : ∀ g o, w.heap[g]? = some o → (w.alloc (.cells #[.int .i64 x] 3)).heap[g]? = some o := fun g o h => blk_alloc h _
  generalize hW : w.alloc (.cells #[.int .i64 x] 3) = W at *
  clear hW
  have hins := nums_insL l i x
  -- what a new row of c cells that begins with the list is
  have done : ∀ (W' : World) (g c : Nat) (cur : Array Value), base ≤ g → W'.heap[g]? = some (.cells cur 3 (0, 0)) → l.length + 1 ≤ c → c ≤ maxLen → cur.size = c → cur.toList.take (l.length + 1) = nums .i64 (insL l i x) →
      W'.ownsRow base 3 1 (.slice (some ⟨g, 0, none⟩) (l.length + 1) c) (insL l i x).length (nums .i64 (insL l i x)) := by
    intro W' g c cur h1 h2 h3 h4 h5 h6
    rw [hlen]
    exact ⟨by simp [nums, hlen], .inr ⟨g, c, cur, rfl, h1, h2, h3, h4, by omega, by rw [Nat.mul_one]; exact h6⟩⟩
  rcases hv with ⟨rfl, h0⟩ | ⟨g, cap, cur, rfl, hg, hh, hnc, hcm, hcs, htk⟩
  · have hl0 : l = [] := List.length_eq_zero_iff.1 h0
    subst hl0
    obtain rfl : i = 0 := by simpa using hi
    have hc := Any2.slices_Insert_int_end_grow ins_lays none 0 0 w.heap.size 0 1 1 [] [.int .i64 x] W (by omega) (by omega) (by omega) (by omega) rfl rfl (fun _ => rfl) (fun _ h => by cases h) hvs h1v
    refine Calls.mono hc ?_
    rintro e w' ⟨rfl, rfl⟩
    have hge := grownCap_ge W (0 + 1) 0 (insR.t 3)
    have hle := grownCap_le_maxLen W (0 + 1) 0 (insR.t 3) (by omega)
    generalize grownCap W (0 + 1) 0 (insR.t 3) = C at *
    refine ⟨_, rfl, done _ _ _ _ (by omega) (blk_new W.drew _) hge hle ?_ ?_, below_drew hw1 |>.alloc (by show base ≤ W.heap.size; omega) _⟩
    · rw [Array.size_append, zero_size]
      simp only [List.nil_append, List.size_toArray, List.length_singleton]
      omega
    · simp [nums, insL]
  · have hcur : ∀ j u, (nums .i64 l)[j]? = some u → W.cell? ⟨g, 0 + j, none⟩ = some u := by
      intro j u hu
      rw [blk_cell (hold _ _ hh), Nat.zero_add, ← Array.getElem?_toList]
      have hj : j < l.length := by rw [← hnl]; exact (List.getElem?_eq_some_iff.1 hu).1
      rw [← htk, List.getElem?_take, if_pos (by omega)] at hu
      exact hu
    have hgw := blk_lt hh
    have hne : w.heap.size ≠ g := by omega
    have hhW := hold _ _ hh
    have hcl : (nums .i64 l).length = l.length := hnl
    have h1c := nums_oneCell l
    have hcurl : cur.toList.length = cap := by simpa using hcs
    have htk2 : cur.toList.take l.length = nums .i64 l := by rw [← htk, Nat.mul_one]
    by_cases hroom : l.length + 1 ≤ cap
    · by_cases hlt : i < l.length
      · have hc := Any2.slices_Insert_int_shift ins_lays g 0 l.length cap i w.heap.size 0 1 1 (nums .i64 l) [.int .i64 x] W hlt (by omega) hroom (by omega) hne hcl rfl hcur
          (fun j hj => by rw [blk_cell hhW, Nat.zero_add, Array.getElem?_eq_getElem (by omega)]; rfl) (fun j hj => blk_frozen hhW _) hvs h1c h1v 3 3 _ _ (shape_of hvb) (shape_of hhW) (by omega) (blk_frozen hvb _) (blk_frozen hvb _)
        refine Calls.mono hc ?_
        rintro e w' ⟨rfl, rfl⟩
        simp only [Nat.zero_add]
        refine ⟨_, rfl, done _ _ _ _ hg (blk_puts _ (blk_puts _ (blk_drew hhW) _) _) hroom hcm (by rw [writes_size, writes_size, hcs, Nat.mul_one]) ?_, Below.setCells hg _ (Below.setCells hg _ (below_drew hw1) _) _⟩
        have hd : ((nums .i64 l).drop i).length = l.length - i := by rw [List.length_drop, hnl]
        have hP : (cur.toList.take (i + 1)).length = i + 1 := by rw [List.length_take]; omega
        have hti : ((nums .i64 l).take i).length = i := by rw [List.length_take, hnl]; omega
        have e1 : ∀ R : List Value, (cur.toList.take (i + 1) ++ (nums .i64 l).drop i ++ R).take i = (nums .i64 l).take i := fun R => by
          rw [List.append_assoc, List.take_append_of_le_length (by omega), List.take_take, Nat.min_eq_left (by omega), ← htk2, List.take_take, Nat.min_eq_left (by omega)]
        have e2 : ∀ R : List Value, (cur.toList.take (i + 1) ++ (nums .i64 l).drop i ++ R).drop (i + 1) = (nums .i64 l).drop i ++ R := fun R => by
          rw [List.append_assoc, List.drop_left' hP]
        rw [writes_list _ _ _ (by rw [writes_size]; simp; omega), writes_list _ _ _ (by rw [hd]; omega), hins, e1, List.length_singleton, e2, ← List.append_assoc, List.take_left' (by rw [List.length_append, List.length_append, hti, hd, List.length_singleton]; omega)]
      · obtain rfl : i = l.length := by omega
        have hc := Any2.slices_Insert_int_end_room ins_lays g 0 l.length cap w.heap.size 0 1 1 [.int .i64 x] W (by omega) hroom (by omega) rfl
          (fun j hj => by rw [blk_cell hhW, Array.getElem?_eq_getElem (by omega)]; rfl) (fun j hj => blk_frozen hhW _) hvs h1v
        refine Calls.mono hc ?_
        rintro e w' ⟨rfl, rfl⟩
        simp only [Nat.zero_add]
        refine ⟨_, rfl, done _ _ _ _ hg (blk_puts _ hhW _) hroom hcm (by rw [writes_size, hcs, Nat.mul_one]) ?_, Below.setCells hg _ hw1 _⟩
        rw [writes_list _ _ _ (by simp; omega), hins, htk2]
        have t1 : (nums .i64 l).take l.length = nums .i64 l := List.take_of_length_le (by omega)
        have d1 : (nums .i64 l).drop l.length = [] := List.drop_of_length_le (by omega)
        rw [t1, d1, List.append_nil, List.take_append_of_le_length (by rw [List.length_append, hnl]; exact Nat.le_refl _), List.take_of_length_le (by rw [List.length_append, hnl]; exact Nat.le_refl _)]
    · have hge := grownCap_ge W (l.length + 1) cap (insR.t 3)
      have hle := grownCap_le_maxLen W (l.length + 1) cap (insR.t 3) (by omega)
      by_cases hlt : i < l.length
      · have hc := Any2.slices_Insert_int_grow ins_lays g 0 l.length cap i w.heap.size 0 1 1 (nums .i64 l) [.int .i64 x] W hlt (by omega) (by omega) (by omega) (by omega) hcl rfl hcur hvs h1c h1v
        refine Calls.mono hc ?_
        rintro e w' ⟨rfl, rfl⟩
        generalize grownCap W (l.length + 1) cap (insR.t 3) = C at *
        have hd : ((nums .i64 l).drop i).length = l.length - i := by rw [List.length_drop, hnl]
        have hti : ((nums .i64 l).take i).length = i := by rw [List.length_take, hnl]; omega
        generalize hZ : ((nums .i64 l).take i).toArray ++ Builtin.zeroCells (Value.int .i64 0).cells (l.length + 1 - i) ++ Builtin.zeroCells (Value.int .i64 0).cells (C - (l.length + 1)) = Z at *
        have hZs : Z.size = C := by
          rw [← hZ, Array.size_append, Array.size_append, zero_size, zero_size, List.size_toArray, hti]
          omega
        have hZt : Z.toList.take i = (nums .i64 l).take i := by
          rw [← hZ, Array.toList_append, Array.toList_append, List.append_assoc, List.take_left' (by simpa using hti)]
        have hZl : Z.toList.length = C := by simpa using hZs
        have hY : ∀ R : List Value, ((nums .i64 l).take i ++ [Value.int .i64 x] ++ R).take (i + 1) = (nums .i64 l).take i ++ [Value.int .i64 x] := fun R => List.take_left' (by rw [List.length_append, hti, List.length_singleton])
        refine ⟨_, rfl, done _ _ _ _ (by omega) (blk_puts _ (blk_drew (blk_puts _ (blk_drew (blk_new W _)) _)) _) hge hle (by rw [writes_size, writes_size, hZs]) ?_,
          Below.setCells (by omega) _ (below_drew (Below.setCells (by omega) _ (below_drew (hw1.alloc (by omega) _)) _)) _⟩
        rw [writes_list _ _ _ (by rw [writes_size, hd]; omega), writes_list _ _ _ (by simp; omega), hins, hZt, hY, List.take_left' (by rw [List.length_append, List.length_append, hti, hd, List.length_singleton]; omega)]
      · obtain rfl : i = l.length := by omega
        have hc := Any2.slices_Insert_int_end_grow ins_lays (some ⟨g, 0, none⟩) l.length cap w.heap.size 0 1 1 (nums .i64 l) [.int .i64 x] W (by omega) (by omega) (by omega) (by omega) hcl rfl (fun e => by cases e)
          (fun a e j u hu => by cases e; rw [add_at]; exact hcur j u hu) hvs h1v
        refine Calls.mono hc ?_
        rintro e w' ⟨rfl, rfl⟩
        generalize grownCap W (l.length + 1) cap (insR.t 3) = C at *
        refine ⟨_, rfl, done _ _ _ _ (by omega) (blk_new W.drew _) hge hle ?_ ?_, below_drew hw1 |>.alloc (by show base ≤ W.heap.size; omega) _⟩
        · rw [Array.size_append, zero_size, List.size_toArray, List.length_append, hnl]
          simp only [List.length_singleton]
          omega
        · have t1 : (nums .i64 l).take l.length = nums .i64 l := List.take_of_length_le (by omega)
          have d1 : (nums .i64 l).drop l.length = [] := List.drop_of_length_le (by omega)
          rw [hins, t1, d1, List.append_nil, Array.toList_append, List.take_append_of_le_length (by simp [hnl]), List.take_of_length_le (by simp [hnl])]
end Go.Proofs.Ytbnjffhcpkfnhaa.H
