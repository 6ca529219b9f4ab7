/- sun.Kings: the strips that reach all others in at most two steps, for every table. -/
import Derived.Test.YtbnjffhcpkfnhaaHC
import Derived.Test.YtbnjffhcpkfnhaaHW
import Derived.Test.YtbnjffhcpkfnhaaHE
namespace Go.Proofs.Ytbnjffhcpkfnhaa.H
open Go.RowKit Go.Shelf Go.Proofs.YtbnjffhcpkfnhaaW.PrintWords Go.Proofs.YtbnjffhcpkfnhaaW.PrintLast Go.Proofs.YtbnjffhcpkfnhaaW.PrintMore
set_option linter.unusedVariables false
attribute [local go_sem] Oper.semAt_some

abbrev markD (D : Nat) : Deferred := { target := .collected D, args := #[] }
theorem leaves_marks {F : Fence} {n : Nat} {P : Program} {fn : Func} {tmps : Array Value} {R : Ending → World → Prop} (Inv : World → Prop) : ∀ (Ds : List Nat) (w : World), (∀ D, D ∈ Ds → w.heap[D]? = some (.deferred (some []))) → Ds.Nodup → Inv w →
    (∀ W D, D ∈ Ds → Inv W → W.heap[D]? = some (.deferred (some [])) → Inv (W.putObj D (.deferred none))) → (∀ W, Inv W → ∃ v, (results fn tmps).run P W = .ok v W ∧ R (.returned v) W) →
    LeavesInM F n P fn tmps R (Ds.map markD) .returning w := by
  intro Ds
  induction Ds with
  | nil => intro w _ _ hi _ hR; exact hR w hi
  | cons D Ds ih =>
    intro w hD hnd hi hstep hR
    have h0 := hD D List.mem_cons_self
    have hnd' := List.nodup_cons.1 hnd
    refine ⟨by simp, .inl ⟨D, _, rfl, run_takeDeferred h0, ?_⟩⟩
    refine ih _ (fun E hE => ?_) hnd'.2 (hstep w D List.mem_cons_self hi h0) (fun W E hE => hstep W E (List.mem_cons_of_mem _ hE)) hR
    exact (World.putObj_heap_other (fun e => hnd'.1 (by rw [← e]; exact hE))).trans (hD E (List.mem_cons_of_mem _ hE))

def markK (s : List Bool) (k : Int) : List Bool := s.set k.toNat true
def stepK (t : List (List Int)) (s : List Bool) (k : Int) : List Bool := (ones (t.getD k.toNat [])).foldl markK (markK s k)
def seenK (t : List (List Int)) (i : Nat) : List Bool := (ones (t.getD i [])).foldl (stepK t) (markK (List.replicate t.length false) i)
def kingB (t : List (List Int)) (i : Nat) : Bool := decide (false ∉ seenK t i)
def kingsTo (t : List (List Int)) (k : Nat) : List Int := ((List.range k).filter (kingB t)).map Int.ofNat
def kingsL (t : List (List Int)) : List Int := kingsTo t t.length
def sun_Kings.f (l0 : List (List Int)) : Option (List Int × Int) := some (if errV l0 = 0 then (kingsL l0, 0) else ([], errV l0))

theorem info4 : (Try.prog.info? 4).map (fun i => (i.zero, i.size, i.bytes)) = some (some (.bool false), 1, 1) := by kernel_rfl

set_option maxRecDepth 100000 in
set_option maxHeartbeats 4000000 in
theorem sun_Kings.calls_no (A0 : Option Addr) (c0 : Nat) (l0 : List (List Int)) (w : World) (hr0 : Kd.C (Kd.slice 3 (Kd.int .i64)) w A0 l0.length l0) (hc0 : l0.length ≤ c0) (he : errV l0 ≠ 0) :
    Calls Try.prog 43 #[.slice A0 l0.length c0] w fun e w' => ∃ v0_ : Value, e = .returned (.tuple #[v0_, .int .i64 (errV l0)]) ∧ Kd.R (Kd.int .i64) 3 w' w.heap.size (fun _ => True) v0_ [] ∧ Below w.heap.size w w' := by
  have hV := fun W (hW : Below w.heap.size w W) => sun_Validate.calls A0 c0 l0 (errV l0) W (Kd.C_below hr0 hW) hc0 rfl
  have hne : (errV l0 != 0) = true := bne_iff_ne.2 he
  clear he hr0
  generalize errV l0 = e0 at *
  go_enter Try.func43, Try.ntmps43
  go_wp2_with (go_at_call 39; refine (hV _ ((Below.refl _ w).alloc (Nat.le_refl _) _)).mono ?_; rintro e w' ⟨rfl, ⟨nd, rfl⟩⟩)
  go_ret2
  exact ⟨_, rfl, Kd.R_nil _ _ _ _ _, pw_below_drewN ((Below.refl _ w).alloc (Nat.le_refl _) _) _⟩

def bcells (s : List Bool) : Array Value := (s.map Value.bool).toArray
theorem bcells_size (s : List Bool) : (bcells s).size = s.length := by simp [bcells]
theorem bcells_get (s : List Bool) (k : Nat) (h : k < s.length) : (bcells s)[k]? = some (.bool (s.getD k false)) := by simp [bcells, h]
theorem bcells_set (s : List Bool) (k : Nat) : (bcells s).setIfInBounds k (.bool true) = bcells (s.set k true) := by
  apply Array.ext'
  simp [bcells, List.map_set]
theorem made_bcells (n : Nat) : madeCells #[.bool false] n = bcells (List.replicate n false) := by
  apply Array.ext'
  rw [toList_madeCells_one]
  simp [bcells]
/-- A block of bools, and a store into it. -/
def BRow (W : World) (g : Nat) (s : List Bool) : Prop := W.heap[g]? = some (.cells (bcells s) 4 (0, 0))
theorem BRow.cell {W : World} {g : Nat} {s : List Bool} (h : BRow W g s) (k : Nat) (hk : k < s.length) : W.cell? ⟨g, k, none⟩ = some (.bool (s.getD k false)) := (blk_cell h k).trans (bcells_get s k hk)
theorem BRow.frozen {W : World} {g : Nat} {s : List Bool} (h : BRow W g s) (k : Nat) : W.frozen? ⟨g, k, none⟩ = false := blk_frozen h k
theorem BRow.set {W : World} {g : Nat} {s : List Bool} (h : BRow W g s) (k : Nat) : BRow (W.setCell ⟨g, k, none⟩ (.bool true)) g (s.set k true) := blk_put h k _ (bcells_set s k)
theorem BRow.own {β : Type} (g : Nat) (f : β → List Bool) : Own (fun s W => BRow W g (f s)) := fun s X Y row hs hg hrow => by
  refine (hg.block g (blk_lt hs) (fun e' => ?_)).trans hs
  obtain ⟨o, ho, hc⟩ := hrow g e'.symm
  rw [show X.heap[g]? = _ from hs] at ho
  cases ho
  cases hc
theorem BRow.alloc {W : World} {g : Nat} {s : List Bool} (h : BRow W g s) (o : Obj) : BRow (W.alloc o) g s := blk_alloc h o
theorem BRow.reads {W : World} {g : Nat} {s : List Bool} (h : BRow W g s) (hl : s.length ≤ 7) : Kd.C Kd.bool W (some ⟨g, 0, none⟩) s.length s :=
  ⟨rfl, by omega, fun _ => ⟨_, rfl, fun j p hj => ⟨[.bool p], rfl, rfl, fun i u hu => by
    obtain ⟨hjl, hjp⟩ := List.getElem?_eq_some_iff.1 hj
    cases i with
    | zero =>
      have : u = .bool p := by simpa using hu.symm
      subst this
      have hc := h.cell j hjl
      rw [add_plain]
      have hp : s.getD j false = p := by rw [List.getD_eq_getElem?_getD, hj]; rfl
      rw [hp] at hc
      have e1 : (Kd.bool).sz = 1 := rfl
      rw [e1, Nat.mul_one, Nat.add_zero]
      exact hc
    | succ i => simp at hu⟩⟩⟩
theorem kingsTo_hit {t : List (List Int)} {k : Nat} (h : kingB t k = true) : kingsTo t (k + 1) = kingsTo t k ++ [(k : Int)] := by
  unfold kingsTo
  rw [List.range_succ, List.filter_append, List.map_append, List.filter_cons, if_pos h]
  rfl
theorem kingsTo_miss {t : List (List Int)} {k : Nat} (h : kingB t k = false) : kingsTo t (k + 1) = kingsTo t k := by
  unfold kingsTo
  rw [List.range_succ, List.filter_append, List.map_append, List.filter_cons, if_neg (by simp [h])]
  simp
theorem kingsTo_length (t : List (List Int)) (k : Nat) : (kingsTo t k).length ≤ k := by
  unfold kingsTo
  rw [List.length_map]
  exact Nat.le_trans (List.length_filter_le _ _) (by simp)
theorem markK_length (s : List Bool) (k : Int) : (markK s k).length = s.length := by simp [markK]
theorem foldMark_length (l : List Int) (s : List Bool) : (l.foldl markK s).length = s.length := by
  induction l generalizing s with
  | nil => rfl
  | cons x l ih => rw [List.foldl_cons, ih, markK_length]
theorem stepK_length (t : List (List Int)) (s : List Bool) (k : Int) : (stepK t s k).length = s.length := by unfold stepK; rw [foldMark_length, markK_length]
theorem foldStep_length (t : List (List Int)) (l : List Int) (s : List Bool) : (l.foldl (stepK t) s).length = s.length := by
  induction l generalizing s with
  | nil => rfl
  | cons x l ih => rw [List.foldl_cons, ih, stepK_length]

theorem mark_kept {W W' : World} {D base e size n : Nat} {v : Value} {xs : List Value} (h : W.heap[D]? = some (.deferred (some []))) (ho : W.ownsRow base e size v n xs) (hg : W.grownBy W' v.ownBlock) : W'.heap[D]? = some (.deferred (some [])) := by
  refine (hg.block D (Array.getElem?_eq_some_iff.1 h).1 (fun e' => ?_)).trans h
  obtain ⟨cells, hc⟩ := own_typed ho D e'.symm
  rw [h] at hc
  cases hc
/-- The frame at the head of the loop over the strips. -/
def kingFrame (A0 : Option Addr) (c0 len : Nat) (B : Nat) (v : Value) (k : Nat) (s6 s7 s18 s19 s20 s21 s22 s23 s24 s25 s26 s27 s28 s40 s41 s42 s43 s44 s45 s46 s47 : Value) (Ds : List Nat) : Act :=
  { tmps := #[.slice A0 len c0, .pointer (some ⟨B, 0, none⟩), .slice none 0 0, .int .i64 0, .int .i64 0, v, s6, s7, undef, undef, .slice A0 len c0, .int .i64 0, .int .i64 0, .bool false, undef, .slice A0 len c0, .int .i64 len, .int .i64 k,
      s18, s19, s20, s21, s22, s23, s24, s25, s26, s27, s28, undef, undef, undef, undef, undef, undef, undef, undef, undef, undef, undef, s40, s41, s42, s43, s44, s45, s46, s47, undef], defers := Ds.map markD }
structure KingInv (A0 : Option Addr) (c0 : Nat) (l0 : List (List Int)) (w : World) (a : Act) (wr : World) : Prop where
  out : ∃ (k : Nat) (v s6 s7 s18 s19 s20 s21 s22 s23 s24 s25 s26 s27 s28 s40 s41 s42 s43 s44 s45 s46 s47 : Value) (Ds : List Nat),
    a = kingFrame A0 c0 l0.length w.heap.size v k s6 s7 s18 s19 s20 s21 s22 s23 s24 s25 s26 s27 s28 s40 s41 s42 s43 s44 s45 s46 s47 Ds ∧
    k ≤ l0.length ∧ wr.ownsRow w.heap.size 3 1 v (kingsTo l0 k).length (nums .i64 (kingsTo l0 k)) ∧ Boxed wr w.heap.size 22 (.slice A0 l0.length c0) ∧
    (∀ D, D ∈ Ds → w.heap.size ≤ D ∧ wr.heap[D]? = some (.deferred (some []))) ∧ Ds.Nodup ∧ Below w.heap.size w wr

set_option maxRecDepth 100000 in
set_option maxHeartbeats 4000000 in
theorem sun_Kings.calls_yes (A0 : Option Addr) (c0 : Nat) (l0 : List (List Int)) (w : World) (hr0 : Kd.C (Kd.slice 3 (Kd.int .i64)) w A0 l0.length l0) (hc0 : l0.length ≤ c0) (he : errV l0 = 0) :
    Calls Try.prog 43 #[.slice A0 l0.length c0] w fun e w' => ∃ v0_ : Value, e = .returned (.tuple #[v0_, .int .i64 0]) ∧ Kd.R (Kd.int .i64) 3 w' w.heap.size (fun _ => True) v0_ (kingsL l0) ∧ Below w.heap.size w w' := by
  have hV := fun W (hW : Below w.heap.size w W) => sun_Validate.calls A0 c0 l0 0 W (Kd.C_below hr0 hW) hc0 (by unfold sun_Validate.f; rw [he])
  refine (callsIn_wide (n := 20)).1 ?_
  have hV' := fun W (hW : Below w.heap.size w W) => (callsIn_wide (n := 19)).2 (hV W hW)
  refine callsIn_of_wp_marks Try.func43 rfl trivial ?_ rfl
  simp only [Try.ntmps43, List.size_toArray, List.length_cons, List.length_nil, Nat.reduceAdd, Nat.reduceSub, Array.replicate_succ, Array.replicate_zero, List.push_toArray, List.append_toArray, List.nil_append, List.cons_append]
  have HE := Aside0.mk he
  clear he hV
  have hF39 : Fence.wide.fn 39 := trivial
  have h7 : l0.length ≤ 7 := errV_len HE.out
  have hrowl : ∀ j, j < l0.length → (l0.getD j []).length ≤ l0.length := fun j hj => by
    have := ((bitRow_iff l0 j).1 (((okV_iff l0).1 (errV_ok HE.out)).1 j hj)).1
    omega
  have Hrow := Aside0.mk hrowl
  clear hrowl
  gi_wp2_with (gi_at_call 39; refine (hV' _ ((Below.refl _ w).alloc (Nat.le_refl _) _)).mono ?_; rintro e w' ⟨rfl, ⟨nd, rfl⟩⟩)
  refine wpIn_loop (KingInv A0 c0 l0 w) (fun a _ => l0.length - (intOf (a.tmps.getD 17 undef)).toNat) ?_ ?_
  · exact ⟨0, .slice none 0 0, undef, undef, undef, undef, undef, undef, undef, undef, undef, undef, undef, undef, undef, undef, undef, undef, undef, undef, undef, undef, undef, [], rfl, Nat.zero_le _, own_nil _ _ _ _, Boxed.new w 22 _, fun D h => absurd h (by simp), List.nodup_nil, pw_below_drewN ((Below.refl _ w).alloc (Nat.le_refl _) _) _⟩
  · intro a wr hinv
    obtain ⟨k, v, s6, s7, s18, s19, s20, s21, s22, s23, s24, s25, s26, s27, s28, s40, s41, s42, s43, s44, s45, s46, s47, Ds, rfl, hk, hown, hbox, hDs, hnd, hB⟩ := hinv
    unfold kingFrame
    by_cases hlt : k < l0.length
    · have hltz : (k : Int) < (l0.length : Int) := by omega
      have hcT := hbox.cell
      have hmk := print_make_of (P := Try.prog) 61 4 (.bool false) 1 Try.underlying61 info4 rfl (by decide) l0.length (by omega)
      simp only [made_bcells] at hmk
      have hbc := bcells_get (List.replicate l0.length false) k (by simpa using hlt)
      have hcT2 := ((hbox.alloc (.cells ((bcells (List.replicate l0.length false)).setIfInBounds k (.bool true)) 4)).alloc (.cells #[.slice (some ⟨wr.heap.size, 0, none⟩) l0.length l0.length] 61)).cell
      have hC79 : ∀ (W : World) (j : Int), CallsIn Fence.wide 19 Try.prog 79 #[.slice A0 l0.length c0, .int .i64 j] W fun e w' => e = .returned (.func (.func 109) #[] #[.pointer (some ⟨W.heap.size, 0, none⟩), .pointer (some ⟨W.heap.size + 1, 0, none⟩)]) ∧ w' = (W.alloc (.cells #[.slice A0 l0.length c0] 22)).alloc (.cells #[.int .i64 j] 3) := fun W j => beaten.calls Fence.wide 19 trivial rfl _ _ _ _ _
      have hF79 : Fence.wide.fn 79 := trivial
      gi_wp2_with (gi_at_call 79; refine (hC79 _ _).mono ?_; rintro e w' ⟨rfl, rfl⟩)
      obtain ⟨W0, hW0⟩ : ∃ W0, ((((wr.alloc (.cells ((bcells (List.replicate l0.length false)).setIfInBounds k (.bool true)) 4)).alloc (.cells #[.slice (some ⟨wr.heap.size, 0, none⟩) l0.length l0.length] 61)).alloc (.cells #[.slice A0 l0.length c0] 22)).alloc (.cells #[.int .i64 (k : Int)] 3)) = W0 := ⟨_, rfl⟩
      have bRow : BRow W0 wr.heap.size (markK (List.replicate l0.length false) k) := by
        rw [← hW0, bcells_set]
        exact blk_alloc (blk_alloc (blk_alloc (blk_new _ _) _) _) _
      have bBox : Boxed W0 (wr.heap.size + 1) 61 (.slice (some ⟨wr.heap.size, 0, none⟩) l0.length l0.length) := by
        rw [← hW0]
        have := ((Boxed.new (wr.alloc (.cells ((bcells (List.replicate l0.length false)).setIfInBounds k (.bool true)) 4)) 61 (.slice (some ⟨wr.heap.size, 0, none⟩) l0.length l0.length)).alloc (.cells #[.slice A0 l0.length c0] 22)).alloc (.cells #[.int .i64 (k : Int)] 3)
        rwa [World.size_alloc] at this
      have bI1 : Boxed W0 (wr.heap.size + 1 + 1) 22 (.slice A0 l0.length c0) := by
        rw [← hW0]
        have := (Boxed.new ((wr.alloc (.cells ((bcells (List.replicate l0.length false)).setIfInBounds k (.bool true)) 4)).alloc (.cells #[.slice (some ⟨wr.heap.size, 0, none⟩) l0.length l0.length] 61)) 22 (.slice A0 l0.length c0)).alloc (.cells #[.int .i64 (k : Int)] 3)
        rwa [World.size_alloc, World.size_alloc] at this
      have bI2 : Boxed W0 (wr.heap.size + 1 + 1 + 1) 3 (.int .i64 (k : Int)) := by
        rw [← hW0]
        have := Boxed.new (((wr.alloc (.cells ((bcells (List.replicate l0.length false)).setIfInBounds k (.bool true)) 4)).alloc (.cells #[.slice (some ⟨wr.heap.size, 0, none⟩) l0.length l0.length] 61)).alloc (.cells #[.slice A0 l0.length c0] 22)) 3 (.int .i64 (k : Int))
        rwa [World.size_alloc, World.size_alloc, World.size_alloc] at this
      have hsz : W0.heap.size = wr.heap.size + 4 := by rw [← hW0]; simp
      have hBr : Below wr.heap.size wr W0 := by
        rw [← hW0]
        exact ((((Below.refl _ wr).alloc (Nat.le_refl _) _).alloc (by simp) _).alloc (by simp; omega) _).alloc (by simp; omega) _
      rw [hW0]
      clear hW0 hcT2 hmk hbc
      have hsB := hB.size
      refine wpIn_rangeFunc_ownH rfl (by omega) (gf := 109) (lb := #[.pointer (some ⟨wr.heap.size + 1 + 1, 0, none⟩), .pointer (some ⟨wr.heap.size + 1 + 1 + 1, 0, none⟩)]) rfl trivial (enters_of Try.func109 (by kernel_rfl) rfl)
        (beaten.stopsX Fence.wide 19 trivial rfl (by omega) (wr.heap.size + 1 + 1) (wr.heap.size + 1 + 1 + 1) A0 c0 l0 k w W0 hr0 hlt (hB.trans (hBr.mono hsB)) bI1.cell bI2.cell l0.length (Hrow.out k hlt)) belowK_t (belowK_b (by omega)) (Below.refl _ _) (fun _ => rfl)
        (fun (pre : List (Ix l0.length)) W => (BRow W wr.heap.size ((pre.map (·.1)).foldl (stepK l0) (markK (List.replicate l0.length false) k)) ∧ Boxed W (wr.heap.size + 1) 61 (.slice (some ⟨wr.heap.size, 0, none⟩) l0.length l0.length)) ∧ Below wr.heap.size wr W)
        (fun _ _ _ => False)
        (OwnFrom.and (OwnFrom.and (Own.from (BRow.own _ _) _) (Own.from (boxed_own _ _ _) _)) (ownFrom_below (Nat.le_refl _) (by omega)))
        (fun _ _ _ _ _ hs _ _ => hs)
        ⟨⟨bRow, bBox⟩, hBr⟩
        (fun (x : Ix l0.length) a' W => a' = { tmps := #[.slice A0 l0.length c0, .pointer (some ⟨w.heap.size, 0, none⟩), .slice none 0 0, .int .i64 0, .int .i64 0, v, .int .i64 k, .pointer (some ⟨wr.heap.size + 1, 0, none⟩), .int .i64 x.1, undef, .slice A0 l0.length c0, .int .i64 0, .int .i64 0, .bool false, undef, .slice A0 l0.length c0, .int .i64 l0.length, .int .i64 k, .bool true, .int .i64 k, .slice A0 l0.length c0, .int .i64 l0.length, .slice (some ⟨wr.heap.size, 0, none⟩) l0.length l0.length, .slice (some ⟨wr.heap.size, 0, none⟩) l0.length l0.length, .int .i64 k, .pointer (some ⟨wr.heap.size, k, none⟩), .slice A0 l0.length c0, .int .i64 k, .func (.func 109) #[] #[.pointer (some ⟨wr.heap.size + 1 + 1, 0, none⟩), .pointer (some ⟨wr.heap.size + 1 + 1 + 1, 0, none⟩)], .int .i64 x.1, undef, undef, undef, undef, undef, undef, undef, undef, undef, undef, s40, s41, s42, s43, s44, s45, s46, s47, undef], defers := [] })
        (fun _ _ _ _ _ _ hs _ _ => hs)
        ?assign ?body ?done ?stop
      case assign =>
        rintro l pre x W K hi hK
        gi_wp2
        exact hK _ _ (KeepsFrom.refl _ _) (Below.refl _ _) hi rfl
      case body =>
        rintro l pre ⟨x, hx0, hx1⟩ a' W hl ⟨r, hr⟩ ⟨⟨bR, bX⟩, hBW⟩ rfl hlt2
        obtain ⟨m, rfl⟩ := Int.eq_ofNat_of_zero_le hx0
        rw [show pre ++ [⟨(m : Int), hx0, hx1⟩] = pre ++ [(⟨(m : Int), hx0, hx1⟩ : Ix l0.length)] from rfl]
        have hsl : ((pre.map (·.1)).foldl (stepK l0) (markK (List.replicate l0.length false) k)).length = l0.length := by rw [foldStep_length, markK_length, List.length_replicate]
        have hstep : ((pre ++ [(⟨(m : Int), hx0, hx1⟩ : Ix l0.length)]).map (·.1)).foldl (stepK l0) (markK (List.replicate l0.length false) k) = stepK l0 ((pre.map (·.1)).foldl (stepK l0) (markK (List.replicate l0.length false) k)) m := by simp
        have Hstep := Aside0.mk hstep
        clear hstep
        generalize (pre.map (·.1)).foldl (stepK l0) (markK (List.replicate l0.length false) k) = sq at *
        have hm : m < sq.length := by omega
        have hmn : m < l0.length := by omega
        have cX := bX.cell
        obtain ⟨bq, hbq⟩ : ∃ bq, sq.getD m false = bq := ⟨_, rfl⟩
        have cS := bR.cell m hm
        rw [hbq] at cS
        have fS := bR.frozen m
        have bT : Boxed W w.heap.size 22 (.slice A0 l0.length c0) := (hBW.block _ hbox.lt).trans hbox
        have bT2 : Boxed (W.setCell ⟨wr.heap.size, m, none⟩ (.bool true)) w.heap.size 22 (.slice A0 l0.length c0) := blk_far bT (by simp; have := hbox.lt; omega) _
        have cT2 := bT2.cell
        have hsW := hBW.size
        have hmz : (m : Int) < (l0.length : Int) := by omega
        clear hbq
        gi_wp2_with (gi_at_call 79; refine (CallsIn.inRound l (beaten.calls Fence.wide 17 trivial rfl _ _ _ _ _)).mono ?_; rintro e w' ⟨rfl, rfl⟩)
        have bR2 := bR.set m
        have bX2 : Boxed (W.setCell ⟨wr.heap.size, m, none⟩ (.bool true)) (wr.heap.size + 1) 61 (.slice (some ⟨wr.heap.size, 0, none⟩) l0.length l0.length) := blk_far bX (by simp) _
        have hKF : KeepsFrom W0.heap.size W (W.setCell ⟨wr.heap.size, m, none⟩ (.bool true)) := (KeepsOthers.setCell _ _ _).from _
        have hBW2 : Below wr.heap.size wr (W.setCell ⟨wr.heap.size, m, none⟩ (.bool true)) := hBW.setCell (p := ⟨wr.heap.size, m, none⟩) (Nat.le_refl _) _
        have hBn : Below w.heap.size W (W.setCell ⟨wr.heap.size, m, none⟩ (.bool true)) := (Below.refl _ W).setCell (p := ⟨wr.heap.size, m, none⟩) hsB _
        have hr2 : (W.setCell ⟨wr.heap.size, m, none⟩ (.bool true)).heap[l]? = some (.loop r) := (Below.heap_setCell _ _ _ l (fun e => by simp at e; omega)).trans hr
        have hz2 : (W.setCell ⟨wr.heap.size, m, none⟩ (.bool true)).heap.size = W.heap.size := by simp
        obtain ⟨W2, hW2⟩ : ∃ W2, W.setCell ⟨wr.heap.size, m, none⟩ (.bool true) = W2 := ⟨_, rfl⟩
        rw [hW2] at bR2 bX2 hKF hBW2 hBn hr2 hz2 bT2 ⊢
        clear hW2 cT2
        have bJ1 : Boxed ((W2.alloc (.cells #[.slice A0 l0.length c0] 22)).alloc (.cells #[.int .i64 (m : Int)] 3)) W.heap.size 22 (.slice A0 l0.length c0) := by
          rw [← hz2]; exact (Boxed.new W2 22 _).alloc _
        have bJ2 : Boxed ((W2.alloc (.cells #[.slice A0 l0.length c0] 22)).alloc (.cells #[.int .i64 (m : Int)] 3)) (W.heap.size + 1) 3 (.int .i64 (m : Int)) := by
          have := Boxed.new (W2.alloc (.cells #[.slice A0 l0.length c0] 22)) 3 (.int .i64 (m : Int))
          rwa [World.size_alloc, hz2] at this
        have bR3 := (bR2.alloc (.cells #[.slice A0 l0.length c0] 22)).alloc (.cells #[.int .i64 (m : Int)] 3)
        have bX3 := (bX2.alloc (.cells #[.slice A0 l0.length c0] 22)).alloc (.cells #[.int .i64 (m : Int)] 3)
        have hBW3 : Below wr.heap.size wr ((W2.alloc (.cells #[.slice A0 l0.length c0] 22)).alloc (.cells #[.int .i64 (m : Int)] 3)) := (hBW2.alloc (by omega) _).alloc (by simp; omega) _
        have hBn3 : Below w.heap.size W ((W2.alloc (.cells #[.slice A0 l0.length c0] 22)).alloc (.cells #[.int .i64 (m : Int)] 3)) := (hBn.alloc (by omega) _).alloc (by simp; omega) _
        have hKF3 : KeepsFrom W0.heap.size W ((W2.alloc (.cells #[.slice A0 l0.length c0] 22)).alloc (.cells #[.int .i64 (m : Int)] 3)) := (hKF.trans ((KeepsOthers.alloc _ _).from _)).trans ((KeepsOthers.alloc _ _).from _)
        have hr3 : ((W2.alloc (.cells #[.slice A0 l0.length c0] 22)).alloc (.cells #[.int .i64 (m : Int)] 3)).heap[l]? = some (.loop r) := blk_alloc (blk_alloc hr2 _) _
        have hz3 : ((W2.alloc (.cells #[.slice A0 l0.length c0] 22)).alloc (.cells #[.int .i64 (m : Int)] 3)).heap.size = W.heap.size + 2 := by simp; omega
        obtain ⟨W3, hW3⟩ : ∃ W3, (W2.alloc (.cells #[.slice A0 l0.length c0] 22)).alloc (.cells #[.int .i64 (m : Int)] 3) = W3 := ⟨_, rfl⟩
        rw [hW3] at bJ1 bJ2 bR3 bX3 hBW3 hBn3 hKF3 hr3 hz3 ⊢
        clear hW3 bR2 bX2 hKF hBW2 hBn hr2 hz2 bT2
        have hW0 := hBr.size
        refine wpIn_rangeFunc_ownN (l₀ := l) (r₀ := r) rfl hr3 (by omega) (gf := 109) (lb := #[.pointer (some ⟨W.heap.size, 0, none⟩), .pointer (some ⟨W.heap.size + 1, 0, none⟩)]) rfl trivial (enters_of Try.func109 (by kernel_rfl) rfl)
          ((beaten.stopsX Fence.wide 17 trivial rfl (by omega) W.heap.size (W.heap.size + 1) A0 c0 l0 m w W3 hr0 hmn ((hB.trans (hBW.mono hsB)).trans hBn3) bJ1.cell bJ2.cell l0.length (Hrow.out m hmn)).inRound l) belowK_t (belowK_b (by omega)) (Below.refl _ _) (fun _ => rfl)
          (fun (pre' : List (Ix l0.length)) W' => ((BRow W' wr.heap.size ((pre'.map (·.1)).foldl markK (markK sq m)) ∧ Boxed W' (wr.heap.size + 1) 61 (.slice (some ⟨wr.heap.size, 0, none⟩) l0.length l0.length)) ∧ Below wr.heap.size wr W') ∧ (Below w.heap.size W W' ∧ KeepsFrom W0.heap.size W W'))
          (fun _ _ _ => False)
          (OwnFrom.and (OwnFrom.and (OwnFrom.and (Own.from (BRow.own _ _) _) (Own.from (boxed_own _ _ _) _)) (ownFrom_below (Nat.le_refl _) (by omega))) (OwnFrom.and (ownFrom_below (by omega) (by omega)) (ownFrom_keepsFrom (by omega))))
          (fun _ _ _ _ _ hs _ _ => hs)
          ⟨⟨⟨bR3, bX3⟩, hBW3⟩, hBn3, hKF3⟩
          (fun (y : Ix l0.length) a'' _ => a'' = { tmps := #[.slice A0 l0.length c0, .pointer (some ⟨w.heap.size, 0, none⟩), .slice none 0 0, .int .i64 0, .int .i64 0, v, .int .i64 k, .pointer (some ⟨wr.heap.size + 1, 0, none⟩), .int .i64 (m : Int), .int .i64 y.1, .slice A0 l0.length c0, .int .i64 0, .int .i64 0, .bool false, undef, .slice A0 l0.length c0, .int .i64 l0.length, .int .i64 k, .bool true, .int .i64 k, .slice A0 l0.length c0, .int .i64 l0.length, .slice (some ⟨wr.heap.size, 0, none⟩) l0.length l0.length, .slice (some ⟨wr.heap.size, 0, none⟩) l0.length l0.length, .int .i64 k, .pointer (some ⟨wr.heap.size, k, none⟩), .slice A0 l0.length c0, .int .i64 k, .func (.func 109) #[] #[.pointer (some ⟨wr.heap.size + 1 + 1, 0, none⟩), .pointer (some ⟨wr.heap.size + 1 + 1 + 1, 0, none⟩)], .int .i64 (m : Int), .slice (some ⟨wr.heap.size, 0, none⟩) l0.length l0.length, .int .i64 (m : Int), .pointer (some ⟨wr.heap.size, m, none⟩), .slice A0 l0.length c0, .int .i64 (m : Int), .func (.func 109) #[] #[.pointer (some ⟨W.heap.size, 0, none⟩), .pointer (some ⟨W.heap.size + 1, 0, none⟩)], .int .i64 y.1, undef, undef, undef, s40, s41, s42, s43, s44, s45, s46, s47, undef], defers := [] })
          (fun _ _ _ _ _ _ hs _ _ => hs)
          ?assign2 ?body2 ?done2 ?stop2
        case assign2 =>
          rintro l2 pre' y W' K hi hK
          gi_wp2
          exact hK _ _ (KeepsFrom.refl _ _) (Below.refl _ _) hi rfl
        case body2 =>
          rintro l2 pre' ⟨y, hy0, hy1⟩ a'' W' _ _ ⟨⟨⟨bR4, bX4⟩, hBW4⟩, hBn4, hKF4⟩ rfl _
          obtain ⟨q, rfl⟩ := Int.eq_ofNat_of_zero_le hy0
          have hsl4 : ((pre'.map (·.1)).foldl markK (markK sq m)).length = l0.length := by rw [foldMark_length, markK_length]; exact hsl
          have Hst4 : Aside0 (((pre' ++ [(⟨(q : Int), hy0, hy1⟩ : Ix l0.length)]).map (·.1)).foldl markK (markK sq m) = ((pre'.map (·.1)).foldl markK (markK sq m)).set q true) := ⟨by simp [markK]⟩
          generalize (pre'.map (·.1)).foldl markK (markK sq m) = s4 at *
          have hq4 : q < s4.length := by omega
          have hqz : (q : Int) < (l0.length : Int) := by omega
          have cX4 := bX4.cell
          obtain ⟨b4, hb4⟩ : ∃ b4, s4.getD q false = b4 := ⟨_, rfl⟩
          have cS4 := bR4.cell q hq4
          rw [hb4] at cS4
          have fS4 := bR4.frozen q
          clear hb4
          gi_wp2
          refine ⟨(KeepsOthers.setCell _ _ _).from _, (Below.refl _ W').setCell (p := ⟨wr.heap.size, q, none⟩) hsB _, ⟨⟨?_, blk_far bX4 (by simp) _⟩, hBW4.setCell (p := ⟨wr.heap.size, q, none⟩) (Nat.le_refl _) _⟩, hBn4.setCell (p := ⟨wr.heap.size, q, none⟩) hsB _, hKF4.trans ((KeepsOthers.setCell _ _ _).from _)⟩
          rw [Hst4.out]
          exact bR4.set q
        case done2 =>
          rintro ys' W' hys ⟨⟨⟨bR4, bX4⟩, hBW4⟩, hBn4, hKF4⟩
          gi_wp2
          refine ⟨hKF4, hBn4, ⟨?_, bX4⟩, hBW4⟩
          rw [Hstep.out]
          unfold stepK
          rw [Int.toNat_natCast, ← hys]
          exact bR4
        case stop2 =>
          rintro c pre' W' _ h
          exact h.elim
      case done =>
        rintro D ys W hD hys ⟨⟨bR, bX⟩, hBW⟩ hK
        have hseen : (ys.map (·.1)).foldl (stepK l0) (markK (List.replicate l0.length false) k) = seenK l0 k := by unfold seenK; rw [hys]
        rw [hseen] at bR
        have hsl : (seenK l0 k).length = l0.length := by unfold seenK; rw [foldStep_length, markK_length, List.length_replicate]
        have HKB : Aside0 (kingB l0 k = decide (false ∉ seenK l0 k)) := ⟨rfl⟩
        clear hseen hys
        generalize seenK l0 k = sq at *
        have hrd := bR.reads (by omega)
        have hC80 := (callsIn_wide (n := 19)).2 (slices_Contains_bool_bool.calls (some ⟨wr.heap.size, 0, none⟩) l0.length sq false _ W hrd (by omega) rfl)
        rw [hsl] at hC80
        have cX := bX.cell
        have hF80 : Fence.wide.fn 80 := trivial
        have hsW := hBW.size
        have hown2 := pw_own_below hown hBW
        have hB2 := hB.trans (hBW.mono hsB)
        have hkl := kingsTo_length l0 k
        have HO2 := Aside0.mk hown2
        have bT : Boxed W w.heap.size 22 (.slice A0 l0.length c0) := (hBW.block _ hbox.lt).trans hbox
        have HT := Aside0.mk bT
        have HW0 := Aside0.mk hBr.size
        have hDs2 : ∀ E, E ∈ D :: Ds → w.heap.size ≤ E ∧ W.heap[E]? = some (.deferred (some [])) := fun E hE => by
          rcases List.mem_cons.1 hE with rfl | hE
          · exact ⟨by have := hBr.size; omega, hK⟩
          · obtain ⟨h1, h2⟩ := hDs E hE
            exact ⟨h1, (hBW.block E (Array.getElem?_eq_some_iff.1 h2).1).trans h2⟩
        have hnd2 : (D :: Ds).Nodup := List.nodup_cons.2 ⟨fun hE => by
          have h2 := (Array.getElem?_eq_some_iff.1 (hDs D hE).2).1
          have := hBr.size
          omega, hnd⟩
        clear hown2 bT bR hrd bX
        cases hmem : (decide (false ∈ sq)) with
        | true =>
          rw [hmem] at hC80
          have hkb : Aside0 (kingB l0 k = false) := ⟨by rw [HKB.out]; simpa using hmem⟩
          clear hmem HKB
          gi_wp2_with (gi_at_call 80; refine hC80.mono ?_; rintro e w' ⟨rfl, ⟨nd2, rfl⟩⟩)
          refine ⟨⟨k + 1, v, _, _, _, _, _, _, _, _, _, _, _, _, _, _, _, _, _, _, _, _, _, D :: Ds, rfl, by omega, by rw [kingsTo_miss hkb.out]; exact HO2.out, HT.out, ?_, ?_, pw_below_drewN hB2 _⟩, ?_⟩
          · exact hDs2
          · exact hnd2
          · simp [intOf]; omega
        | false =>
          rw [hmem] at hC80
          have hkb : Aside0 (kingB l0 k = true) := ⟨by rw [HKB.out]; simpa using hmem⟩
          clear hmem HKB
          obtain ⟨i0, hi, hz0, hz1, hz2⟩ := info_parts info3
          gi_wp2_with (first
            | (gi_at_call 80; refine hC80.mono ?_; rintro e w' ⟨rfl, ⟨nd2, rfl⟩⟩)
            | (gi_at_builtin; refine wpListIn_append_own _ rfl _ _ 27 rfl w.heap.size 3 i0 (.int .i64 0) 1 8 Try.underlying27 hi hz0 hz1 hz2 rfl (by decide) _ _ _ rfl ((pw_own_below HO2.out (pw_below_drewN (Below.refl _ _) nd2)).alloc _) ⟨W.heap.size, 0, none⟩ 1 1 [.int .i64 (k : Int)] rfl rfl (cell_one_new _ _ _) (by simp [Value.oneCell']) (by simp only [maxLen]; omega) (by omega) (by have := hB2.size; simp; omega) ?_; intro v' w1 hown' hgrow _))
          have hgW : (W.alloc (.cells #[.int .i64 (k : Int)] 3)).grownBy w1 v.ownBlock := ⟨hgrow.os, hgrow.tape, hgrow.output, hgrow.size, hgrow.block⟩
          refine ⟨⟨k + 1, v', _, _, _, _, _, _, _, _, _, _, _, _, _, _, _, _, _, _, _, _, _, D :: Ds, rfl, by omega, ?_, ?_, ?_, hnd2, ?_⟩, ?_⟩
          · rw [kingsTo_hit hkb.out, List.length_append, nums_append]
            exact hown'
          · exact (HT.out.alloc _).kept hgW (HT.out.not_row (by decide) HO2.out)
          · intro E hE
            obtain ⟨h1, h2⟩ := hDs2 E hE
            exact ⟨h1, mark_kept (blk_alloc h2 _) (HO2.out.alloc _) hgW⟩
          · exact (hB2.alloc hB2.size _).grown hgW (by have := hB2.size; simp; omega) (own_base HO2.out)
          · simp [intOf]; omega
      case stop =>
        rintro D c pre W _ _ h _
        exact h.elim
    · obtain rfl : k = l0.length := by omega
      have HO := Aside0.mk hown
      clear hown
      gi_wp2
      refine leaves_marks (fun W => W.ownsRow w.heap.size 3 1 v (kingsTo l0 l0.length).length (nums .i64 (kingsTo l0 l0.length)) ∧ Below w.heap.size w W) Ds wr (fun D hD => (hDs D hD).2) hnd ⟨HO.out, hB⟩ ?_ ?_
      · rintro W D hD ⟨h1, h2⟩ h3
        exact ⟨ownsRow_putObj h1 _ h3 rfl, h2.trans (belowK_b (w := w) (Nat.le_refl _) W D _ _ (hDs D hD).1 h3 rfl rfl)⟩
      · rintro W ⟨h1, h2⟩
        exact ⟨_, results_tmp2 rfl _ _ _, v, rfl, Kd.R_of_own h1 (fun _ _ => trivial), h2⟩

theorem sun_Kings.calls (A0 : Option Addr) (c0 : Nat) (l0 : List (List Int)) (r1 : List Int) (r2 : Int) (w : World) (hr0 : Kd.C (Kd.slice 3 (Kd.int .i64)) w A0 l0.length l0) (hc0 : l0.length ≤ c0) (h : sun_Kings.f l0 = some (r1, r2)) :
    Calls Try.prog 43 #[.slice A0 l0.length c0] w fun e w' => ∃ v0_ : Value, e = .returned (.tuple #[v0_, .int .i64 r2]) ∧ Kd.R (Kd.int .i64) 3 w' w.heap.size (fun _ => True) v0_ r1 ∧ Below w.heap.size w w' := by
  unfold sun_Kings.f at h
  by_cases he : errV l0 = 0
  · rw [if_pos he] at h
    obtain ⟨rfl, rfl⟩ := Prod.mk.inj (Option.some.inj h)
    exact sun_Kings.calls_yes A0 c0 l0 w hr0 hc0 he
  · rw [if_neg he] at h
    obtain ⟨rfl, rfl⟩ := Prod.mk.inj (Option.some.inj h)
    exact sun_Kings.calls_no A0 c0 l0 w hr0 hc0 he

end Go.Proofs.Ytbnjffhcpkfnhaa.H
