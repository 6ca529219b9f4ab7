/- Feuds as pairs of numbers: drop and merge. -/
import Derived.Test.YtpmjmhdofjbcbaaFM
import Derived.Test.YtpmjmhdofjbcbaaFPb
namespace Go.Proofs.Ytpmjmhdofjbcbaa.H
open Go.RowKit Go.Proofs.Ytpmjmhdofjbcbaa.QA Go.Proofs.YtpmjmhdofjbcbaaW.PrintWords Go.Proofs.YtpmjmhdofjbcbaaW.PrintLast Go.Proofs.YtpmjmhdofjbcbaaW.PrintMore
set_option linter.unusedVariables false
set_option linter.unusedSimpArgs false
def toP (f : S43) : Nat × Nat := (f.f0.toNat, f.f1.toNat)
def ofP (e : Nat × Nat) : S43 := ⟨e.1, e.2⟩
def toE (l : List S43) : List (Nat × Nat) := l.map toP
def Vd (n : Nat) (l : List S43) : Prop := (∀ f ∈ l, 0 ≤ f.f0 ∧ f.f0 < f.f1 ∧ f.f1 < n) ∧ l.Nodup
theorem toP_ofP (e : Nat × Nat) : toP (ofP e) = e := by simp [toP, ofP]
theorem ofP_toP {f : S43} (h0 : 0 ≤ f.f0) (h1 : 0 ≤ f.f1) : ofP (toP f) = f := by
  cases f
  simp only [toP, ofP, S43.mk.injEq]
  simp only at h0 h1
  omega
theorem ofP_inj {e e' : Nat × Nat} (h : ofP e = ofP e') : e = e' := by rw [← toP_ofP e, h, toP_ofP]
theorem vd_good {n : Nat} {l : List S43} (h : Vd n l) : Good n (toE l) := by
  refine ⟨fun e he => ?_, ?_⟩
  · obtain ⟨f, hf, rfl⟩ := List.mem_map.1 he
    have := h.1 f hf
    simp only [toP]
    omega
  · have := h.2
    unfold List.Nodup at this ⊢
    unfold toE
    rw [List.pairwise_map]
    refine List.Pairwise.imp_of_mem (fun {a b} ha hb hne e => hne ?_) this
    have h1 := h.1 a ha
    have h2 := h.1 b hb
    rw [← ofP_toP (f := a) (by omega) (by omega), e, ofP_toP (by omega) (by omega)]
theorem vd_back {n : Nat} {l : List S43} (h : Vd n l) : (toE l).map ofP = l := by
  unfold toE
  rw [List.map_map]
  exact (List.map_congr_left fun f hf => by have := h.1 f hf; exact ofP_toP (by omega) (by omega)).trans (List.map_id _)
theorem toE_of (E : List (Nat × Nat)) : toE (E.map ofP) = E := by
  unfold toE
  rw [List.map_map]
  exact (List.map_congr_left fun e _ => toP_ofP e).trans (List.map_id _)
theorem vd_of {n : Nat} {E : List (Nat × Nat)} (h : Good n E) : Vd n (E.map ofP) := by
  refine ⟨fun f hf => ?_, ?_⟩
  · obtain ⟨e, he, rfl⟩ := List.mem_map.1 hf
    have := h.1 e he
    simp only [ofP]
    omega
  · have := h.2
    unfold List.Nodup at this ⊢
    rw [List.pairwise_map]
    exact this.imp fun hne e => hne (ofP_inj e)
theorem toE_len (l : List S43) : (toE l).length = l.length := by unfold toE; simp
theorem toE_getD {l : List S43} {k : Nat} (hk : k < l.length) : (toE l).getD k (0, 0) = toP (l.getD k z43) := by
  unfold toE
  rw [List.getD_eq_getElem?_getD, List.getD_eq_getElem?_getD, List.getElem?_map, List.getElem?_eq_getElem hk]
  rfl
/-! slices.Compact at a sorted list -/
theorem arr_getN {l : List S43} {j : Nat} (hl : j < l.length) : l.toArray[j]! = l.getD j z43 := arr_get hl
theorem mem_compact {l : List S43} {x : S43} : x ∈ Lib.compact l ↔ x ∈ l := by
  unfold Lib.compact Lib.compactUpTo
  rw [List.mem_map]
  constructor
  · rintro ⟨j, hj, rfl⟩
    have hj2 := List.mem_range.1 (List.mem_filter.1 hj).1
    rw [arr_get hj2]
    exact getD_memF hj2
  · intro hx
    obtain ⟨j, hj, rfl⟩ := List.getElem_of_mem hx
    have key : ∀ j, j < l.length → ∃ i, i ∈ (List.range l.length).filter (Lib.keeps l.toArray) ∧ l.toArray[i]! = l.toArray[j]! := by
      intro j
      induction j with
      | zero => intro h0; exact ⟨0, List.mem_filter.2 ⟨List.mem_range.2 h0, Lib.keeps_lt_one _ 0 (by omega)⟩, rfl⟩
      | succ j ih =>
        intro h1
        by_cases hk : Lib.keeps l.toArray (j + 1) = true
        · exact ⟨j + 1, List.mem_filter.2 ⟨List.mem_range.2 h1, hk⟩, rfl⟩
        · obtain ⟨i, hi, e⟩ := ih (by omega)
          refine ⟨i, hi, e.trans ?_⟩
          have : ¬ (l.toArray[j + 1]! ≠ l.toArray[j + 1 - 1]!) := fun h => hk (Lib.keeps_pos h)
          exact (Decidable.not_not.1 this).symm
    obtain ⟨i, hi, e⟩ := key j hj
    refine ⟨i, hi, e.trans ?_⟩
    rw [arr_get hj, List.getD_eq_getElem?_getD, List.getElem?_eq_getElem hj]
    rfl
theorem compact_sorted {l : List S43} (h : l.Pairwise fun x y => ltF y x = false) : (Lib.compact l).Pairwise fun x y => ltF x y = true := by
  have hle : ∀ i j, i ≤ j → j < l.length → ltF (l.getD j z43) (l.getD i z43) = false := by
    intro i j hij hj
    rcases Nat.lt_or_ge i j with hlt | hge
    · have := (List.pairwise_iff_getElem.1 h) i j (by omega) hj hlt
      rw [List.getD_eq_getElem?_getD, List.getD_eq_getElem?_getD, List.getElem?_eq_getElem hj, List.getElem?_eq_getElem (by omega)]
      exact this
    · have : i = j := by omega
      subst this
      exact ltF_swo.irrefl _
  unfold Lib.compact Lib.compactUpTo
  rw [List.pairwise_map]
  refine List.Pairwise.imp_of_mem (R := fun a b => a < b) (fun {i j} hi hj hij => ?_) (List.Pairwise.filter _ List.pairwise_lt_range)
  have hj1 := List.mem_range.1 (List.mem_filter.1 hj).1
  have hk := (List.mem_filter.1 hj).2
  unfold Lib.keeps at hk
  have hk2 := of_decide_eq_true hk
  rcases hk2 with h0 | hne
  · omega
  rw [arr_get hj1, arr_get (by omega)] at hne
  rw [arr_get hj1, arr_get (by omega)]
  have a1 := hle i (j - 1) (by omega) (by omega)
  have a2 := hle (j - 1) j (by omega) hj1
  have a3 : ltF (l.getD (j - 1) z43) (l.getD j z43) = true := by
    rcases Bool.eq_false_or_eq_true (ltF (l.getD (j - 1) z43) (l.getD j z43)) with q | q
    · exact q
    · exact absurd (ltF_parts _ _ a2 q) hne
  rw [ltF_true] at a3 ⊢
  rw [ltF_false] at a1
  omega
end Go.Proofs.Ytpmjmhdofjbcbaa.H
