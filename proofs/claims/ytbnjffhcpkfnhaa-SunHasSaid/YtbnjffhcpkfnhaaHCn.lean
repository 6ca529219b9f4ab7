/- canWin tells whether all of them can be won: any of them need as many as there are pairs among them. -/
import Derived.Test.YtbnjffhcpkfnhaaHCv
namespace Go.Proofs.Ytbnjffhcpkfnhaa.H
open Go.RowKit Go.Proofs.YtbnjffhcpkfnhaaW.PrintWords Go.Proofs.YtbnjffhcpkfnhaaW.PrintLast Go.Proofs.YtbnjffhcpkfnhaaW.PrintMore
set_option linter.unusedVariables false
set_option linter.unusedSimpArgs false
/-- The first of a list that goes up are the least of so many. -/
theorem take_least : ∀ {L s : List Int}, L.Pairwise (fun x y => x ≤ y) → s.Sublist L → (L.take s.length).sum ≤ s.sum
  | [], s, _, h => by
    have : s = [] := List.sublist_nil.1 h
    rw [this]; simp
  | y :: L, s, hp, h => by
    obtain ⟨hy, hp2⟩ := List.pairwise_cons.1 hp
    cases h with
    | cons _ h2 =>
      have ih := take_least hp2 h2
      cases hs : s.length with
      | zero =>
        have : s = [] := List.length_eq_zero_iff.1 hs
        rw [this]; simp
      | succ k =>
        rw [hs] at ih
        have hk : k < L.length := by have := h2.length_le; omega
        rw [List.take_succ_eq_append_getElem hk, List.sum_append] at ih
        have hz := hy L[k] (List.getElem_mem hk)
        rw [List.take_succ_cons, List.sum_cons]
        simp only [List.sum_cons, List.sum_nil] at ih
        omega
    | cons_cons _ h2 =>
      have ih := take_least hp2 h2
      rw [List.length_cons, List.take_succ_cons, List.sum_cons, List.sum_cons]
      omega
theorem asc_up (l : List Int) : (ascL l).Pairwise fun x y => x ≤ y := by
  have := List.pairwise_mergeSort (le := fun x y : Int => decide (x ≤ y)) (fun a b c h1 h2 => by have := of_decide_eq_true h1; have := of_decide_eq_true h2; exact decide_eq_true (by omega)) (fun a b => by
    rw [Bool.or_eq_true, decide_eq_true_eq, decide_eq_true_eq]; omega) l
  exact this.imp fun h => of_decide_eq_true h
theorem few_num : ∀ k : Nat, k < 7 → 2 * wrap64 (Int.tdiv (wrap64 ((k : Int) * ((k : Int) + 1))) 2) = (k : Int) * ((k : Int) + 1) := by decide +kernel
theorem all_num : ∀ k : Nat, k ≤ 7 → 2 * wrap64 (Int.tdiv (wrap64 ((k : Int) * ((k : Int) - 1))) 2) = (k : Int) * ((k : Int) - 1) := by decide +kernel
theorem canWinB_iff {l : List Int} (h : winsV l = 0) : canWinB l = true ↔ (∀ k, k < l.length → (k : Int) * ((k : Int) + 1) ≤ 2 * preS l (k + 1)) ∧ 2 * l.sum = (l.length : Int) * ((l.length : Int) - 1) := by
  obtain ⟨h1, h7, _⟩ := winsV_ok h
  have hs : preS l l.length = l.sum := by
    unfold preS
    rw [List.take_of_length_le (by rw [ascL_len]; omega)]
    exact sum_perm (List.mergeSort_perm l _)
  have ha := all_num l.length h7
  unfold canWinB
  rw [Bool.and_eq_true, List.all_eq_true, beq_iff_eq, hs]
  constructor
  · rintro ⟨h2, h3⟩
    refine ⟨fun k hk => ?_, by rw [h3]; exact ha⟩
    have h4 := h2 k (List.mem_range.2 hk)
    have h5 := few_num k (by omega)
    simp only [Bool.not_eq_true', decide_eq_false_iff_not] at h4
    unfold tooFew at h4
    omega
  · rintro ⟨h2, h3⟩
    refine ⟨fun k hk => ?_, by omega⟩
    have hk := List.mem_range.1 hk
    have h4 := h2 k hk
    have h5 := few_num k (by omega)
    simp only [Bool.not_eq_true', decide_eq_false_iff_not]
    unfold tooFew
    omega
/-- What each needs. -/
def ofL (l : List Int) (x : Int) : Int := l.getD x.toNat 0
theorem sum_ofL (l : List Int) : sumD (ofL l) (nums0 l.length) = l.sum := by
  unfold sumD
  congr 1
  apply List.ext_getElem
  · simp [nums0]
  · intro i h1 h2
    simp [nums0, ofL, List.getD_eq_getElem?_getD, List.getElem?_eq_getElem h2]
theorem pick_sub {l : List Int} {s : List Int} (hs : s.Nodup) (hm : ∀ x ∈ s, x ∈ nums0 l.length) : ∃ s2 : List Int, s2.Sublist (ascL l) ∧ s2.length = s.length ∧ s2.sum = sumD (ofL l) s := by
  -- as many of the numbers, in their own order
  have hp : s.Perm ((nums0 l.length).filter fun x => decide (x ∈ s)) := perm_mem hs ((nums0_nodup _).filter _) (fun x => by
    rw [List.mem_filter, decide_eq_true_eq]
    exact ⟨fun h => ⟨hm x h, h⟩, fun h => h.2⟩)
  have h1 : ((nums0 l.length).filter fun x => decide (x ∈ s)).Sublist (nums0 l.length) := List.filter_sublist
  have h2 := h1.map (ofL l)
  have h3 : (nums0 l.length).map (ofL l) = l := by
    apply List.ext_getElem
    · simp [nums0]
    · intro i a b
      simp [nums0, ofL, List.getD_eq_getElem?_getD, List.getElem?_eq_getElem b]
  rw [h3] at h2
  have h4 : (s.map (ofL l)).Perm (((nums0 l.length).filter fun x => decide (x ∈ s)).map (ofL l)) := hp.map _
  obtain ⟨s2, h5, h6⟩ := List.exists_perm_sublist h2 (List.mergeSort_perm l (fun x y => decide (x ≤ y))).symm
  exact ⟨s2, h6, by rw [h5.length_eq, ← h4.length_eq, List.length_map], by rw [sum_perm h5, ← sum_perm h4]; rfl⟩
theorem canNeed_of {l : List Int} (h : winsV l = 0) (hc : canWinB l = true) : CanNeed (nums0 l.length) (ofL l) := by
  obtain ⟨h1, h2⟩ := (canWinB_iff h).1 hc
  refine ⟨fun s hs hm => ?_, ?_⟩
  · obtain ⟨s2, h3, h4, h5⟩ := pick_sub hs hm
    have h6 := take_least (asc_up l) h3
    rw [h4, h5] at h6
    have hlen := nodup_in_len hs hm
    rw [nums0_len] at hlen
    cases e : s.length with
    | zero =>
      have : s = [] := List.length_eq_zero_iff.1 e
      rw [this]; simp [sumD]
    | succ k =>
      have h7 := h1 k (by omega)
      unfold preS at h7
      rw [e] at h6
      have e2 : ((k + 1 : Nat) : Int) * (((k + 1 : Nat) : Int) - 1) = (k : Int) * ((k : Int) + 1) := by
        rw [show ((k + 1 : Nat) : Int) - 1 = (k : Int) by omega, Int.mul_comm]
        rfl
      rw [e2]
      omega
  · rw [sum_ofL, nums0_len, h2]
end Go.Proofs.Ytbnjffhcpkfnhaa.H
