/- slices.SortStableFunc at fewer than twenty ints that are numbers below a bound: an own row, sorted in place. -/
import Derived.Test.YtbnjffhcpkfnhaaHSo
namespace Go.Proofs.Ytbnjffhcpkfnhaa.H
open Go.RowKit Go.Shelf Go.Proofs.YtbnjffhcpkfnhaaW.PrintWords Go.Proofs.YtbnjffhcpkfnhaaW.PrintLast Go.Proofs.YtbnjffhcpkfnhaaW.PrintMore
set_option linter.unusedVariables false
set_option linter.unusedSimpArgs false
/-- A number below a bound, as a value. -/
def encF {m : Nat} (x : Fin (m + 1)) : Value := .int .i64 (x.val : Int)
theorem encF_one {m : Nat} : OneCell (encF (m := m)) := fun _ => rfl
def intF {m : Nat} (x : Fin (m + 1)) : Int := (x.val : Int)
theorem putRow_encF {m : Nat} (W : World) (g off : Nat) (d : Array (Fin (m + 1))) : Go.Sort.putRow encF W g off d = Go.Sort.putRow (Value.int .i64) W g off (d.map intF) := by
  unfold Go.Sort.putRow
  congr 1
  funext c
  unfold Go.Sort.putCells
  congr 1
  funext k x
  simp only [Array.size_map]
  split
  · rename_i h
    have h1 : k - off < d.size := by omega
    simp [encF, intF, h1]
  · rfl
theorem grownBy_sortF {m : Nat} {w : World} {g n : Nat} {os : Array Obj} (d : Array (Fin (m + 1))) : w.grownBy (sortWorld encF w g 0 n d os) (some g) := by
  unfold sortWorld
  rw [putRow_encF]
  exact grownBy_sortedI _
def sortF {m : Nat} (cf : Fin (m + 1) → Fin (m + 1) → Int) (l : List (Fin (m + 1))) : List (Fin (m + 1)) := (Go.Sort.insertionSort (ltOf cf) l.toArray 0 l.length).toList
theorem sortF_perm {m : Nat} {cf : Fin (m + 1) → Fin (m + 1) → Int} (hS : Go.Sort.SWO (ltOf cf)) (l : List (Fin (m + 1))) : (sortF cf l).Perm l := by
  obtain ⟨⟨h1, h2, h3⟩, _⟩ := Go.Sort.insertionSort_holds hS l.toArray 0 l.length (Nat.zero_le _) (by simp)
  unfold sortF
  have e1 : (l.toArray.extract 0 l.length).toList = l := by simp
  have e2 : ((Go.Sort.insertionSort (ltOf cf) l.toArray 0 l.length).extract 0 l.length).toList = (Go.Sort.insertionSort (ltOf cf) l.toArray 0 l.length).toList := by
    rw [Array.toList_extract, List.extract_eq_take_drop, List.drop_zero, Nat.sub_zero, List.take_of_length_le (by rw [Array.length_toList, h1]; simp)]
  rw [e1, e2] at h3
  exact h3
theorem sortF_sorted {m : Nat} {cf : Fin (m + 1) → Fin (m + 1) → Int} (hS : Go.Sort.SWO (ltOf cf)) (l : List (Fin (m + 1))) : (sortF cf l).Pairwise fun x y => ¬ cf y x < 0 := by
  obtain ⟨⟨h1, _⟩, h4⟩ := Go.Sort.insertionSort_holds hS l.toArray 0 l.length (Nat.zero_le _) (by simp)
  unfold sortF
  have hs : (Go.Sort.insertionSort (ltOf cf) l.toArray 0 l.length).size = l.length := by rw [h1]; simp
  generalize Go.Sort.insertionSort (ltOf cf) l.toArray 0 l.length = A at *
  rw [List.pairwise_iff_getElem]
  intro i j hi hj hij
  rw [Array.length_toList] at hi hj
  have := of_decide_eq_false (h4 i j (Nat.zero_le _) hij (by omega))
  rw [getElem!_pos A j hj, getElem!_pos A i hi] at this
  simpa using this
theorem sortF_len {m : Nat} {cf : Fin (m + 1) → Fin (m + 1) → Int} (hS : Go.Sort.SWO (ltOf cf)) (l : List (Fin (m + 1))) : (sortF cf l).length = l.length := (sortF_perm hS l).length_eq

set_option maxRecDepth 100000 in
set_option maxHeartbeats 2000000 in
theorem stable_cmp.calls (m : Nat) (cf : Fin (m + 1) → Fin (m + 1) → Int) (hS : Go.Sort.SWO (ltOf cf)) (g : Nat) (cb : Array Value) (eg : ∀ args w, (callFunc g args).run Try.prog w = .ok (.enter g args) w) (l : List (Fin (m + 1))) (h0 : l ≠ []) (h19 : l.length ≤ 19) (base : Nat) (v : Value) (w : World) (hb : base ≤ w.heap.size)
    (hown : w.ownsRow base 3 1 v l.length (nums .i64 (l.map intF)))
    (hcmp : ∀ W, Below base w W → ∀ x y : Fin (m + 1), Calls Try.prog g (#[.int .i64 x.val, .int .i64 y.val] ++ cb) W fun e w' => e = .returned (.int .i64 (cf x y)) ∧ ∃ q, w' = W.drewN q) :
    Calls Try.prog 120 #[v, .int .i64 l.length, .func (.func g) #[] cb] w fun e w' => e = .returned (.tuple #[]) ∧ w'.ownsRow base 3 1 v l.length (nums .i64 ((sortF cf l).map intF)) ∧ Below base w w' := by
  rcases hown.2 with ⟨rfl, hz0⟩ | ⟨gb, cap, cur, rfl, hbase, hgb, r1, r2, r3, r4⟩
  · exact absurd (List.eq_nil_of_length_eq_zero hz0) h0
  have hgl : gb < w.heap.size := (Array.getElem?_eq_some_iff.1 hgb).1
  have hBW : ∀ (q : Nat) (os : Array Obj) (dk : Array (Fin (m + 1))), Below base w (sortWorld encF w gb 0 q dk os) := fun q os dk => (Below.refl _ w).grown (grownBy_sortF dk) hb (fun j hj => by cases hj; exact hbase)
  have hH : Go.Sort.Holds (Value.int .i64) w gb 0 (l.map intF).toArray := holds_of_blockI hgb (by simpa [nums] using r4)
  have hH2 : Go.Sort.Holds encF w gb 0 l.toArray := fun j hj => by
    have hj' : j < l.length := by simpa using hj
    have := hH j (by simpa using hj')
    simpa [encF, intF, hj'] using this
  have hC := Any.insertionSortCmpFunc_one icf_lays encF encF_one cf g cb gb 0 cap 0 l.length l.toArray w eg (fun q os dk _ x y => hcmp _ (hBW q os dk) x y) hH2 (Nat.zero_le _) (by simp) (by simp; omega)
  change Calls Try.prog 127 _ w _ at hC
  rw [show l.toArray.size = l.length from by simp] at hC
  have hlz : (l.length : Int) < 20 := by omega
  have hl20 : decide ((20 : Int) ≤ (l.length : Int)) = false := decide_eq_false (by omega)
  have hl21 : decide ((20 : Int) < (l.length : Int)) = false := decide_eq_false (by omega)
  have HR := Aside0.mk (fun n => show ((Go.Sort.putRow encF w gb 0 (Go.Sort.insertionSort (ltOf cf) l.toArray 0 l.length)).drewN n).ownsRow base 3 1 (.slice (some ⟨gb, 0, none⟩) l.length cap) l.length (nums .i64 ((sortF cf l).map intF)) ∧ Below base w ((Go.Sort.putRow encF w gb 0 (Go.Sort.insertionSort (ltOf cf) l.toArray 0 l.length)).drewN n) from by
    have e : (Go.Sort.putRow encF w gb 0 (Go.Sort.insertionSort (ltOf cf) l.toArray 0 l.length)).drewN n = sortWorld encF w gb 0 n (Go.Sort.insertionSort (ltOf cf) l.toArray 0 l.length) #[] := (sortWorld_none encF w gb 0 n _).symm
    refine ⟨?_, by rw [e]; exact hBW _ _ _⟩
    rw [e]
    unfold sortWorld
    rw [putRow_encF]
    have h1 : ((sortF cf l).map intF).length = (l.map intF).length := by simp [sortF_len hS]
    have := ownsRow_sortedI (base := base) (cap := cap) (n := n) (os := #[]) (ts := (sortF cf l).map intF) (ss := l.map intF) h1 hbase hgb (by simpa using r1) r2 r3
    rw [List.length_map] at this
    rw [show ((sortF cf l).map intF).toArray = (Go.Sort.insertionSort (ltOf cf) l.toArray 0 l.length).map intF from by apply Array.ext'; simp [sortF]] at this
    exact this)
  clear hcmp hown hH hH2 hBW hgb r4 r3
  go_enter Try.func120, Try.ntmps120
  go_wp2
  go_loopw [7, 8] (fun a b wr => a = .int .i64 0 ∧ b = .int .i64 20 ∧ wr = w) (fun _ _ _ => 0)
  case atStart => exact ⟨rfl, rfl, rfl⟩
  case round =>
    obtain ⟨rfl, rfl, rfl⟩ := hrel
    go_wp2_with (go_at_call 127; refine hC.mono ?_; rintro e w' ⟨rfl, n, hw'⟩; have hfin := HR.out n; rw [← hw'] at hfin; clear hw' HR hC; have HFin := Aside0.mk hfin; clear hfin)
    go_loopw [6, 7, 8] (fun s a b wr2 => s = .int .i64 20 ∧ a = .int .i64 0 ∧ b = .int .i64 20 ∧ wr2 = w') (fun _ _ _ _ => 0)
    case atStart => exact ⟨rfl, rfl, rfl, rfl⟩
    case round =>
      obtain ⟨rfl, rfl, rfl, rfl⟩ := hrel
      go_wp2
      go_end0
      exact ⟨rfl, HFin.out.1, HFin.out.2⟩

/-- slices.SortStableFunc at fewer than twenty numbers below a bound. -/
theorem stable.calls (m : Nat) (cf : Fin (m + 1) → Fin (m + 1) → Int) (hS : Go.Sort.SWO (ltOf cf)) (g : Nat) (cb : Array Value) (eg : ∀ args w, (callFunc g args).run Try.prog w = .ok (.enter g args) w) (l : List (Fin (m + 1))) (h0 : l ≠ []) (h19 : l.length ≤ 19) (base : Nat) (v : Value) (w : World) (hb : base ≤ w.heap.size)
    (hown : w.ownsRow base 3 1 v l.length (nums .i64 (l.map intF)))
    (hcmp : ∀ W, Below base w W → ∀ x y : Fin (m + 1), Calls Try.prog g (#[.int .i64 x.val, .int .i64 y.val] ++ cb) W fun e w' => e = .returned (.int .i64 (cf x y)) ∧ ∃ q, w' = W.drewN q) :
    Calls Try.prog 101 #[v, .func (.func g) #[] cb] w fun e w' => e = .returned (.tuple #[]) ∧ w'.ownsRow base 3 1 v l.length (nums .i64 ((sortF cf l).map intF)) ∧ Below base w w' := by
  have hC := stable_cmp.calls m cf hS g cb eg l h0 h19 base v w hb hown hcmp
  obtain ⟨A, c, rfl⟩ := own_slice hown
  clear hcmp hown
  go_enter Try.func101, Try.ntmps101
  go_wp2_with (go_at_call 120; refine hC.mono ?_; rintro e w' ⟨rfl, hO, hB⟩)
  go_end0
  exact ⟨rfl, hO, hB⟩
end Go.Proofs.Ytbnjffhcpkfnhaa.H
