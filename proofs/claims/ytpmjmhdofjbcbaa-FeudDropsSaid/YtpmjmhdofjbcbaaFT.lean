/- slices.SortFunc at an own row of feuds. -/
import Derived.Test.YtpmjmhdofjbcbaaFR
import Derived.Shelf.SlSortCmp.NoneTotal
namespace Go.Proofs.Ytpmjmhdofjbcbaa.H
open Go.Shelf Go.RowKit Go.Proofs.Ytpmjmhdofjbcbaa.QA Go.Proofs.YtpmjmhdofjbcbaaW.PrintWords Go.Proofs.YtpmjmhdofjbcbaaW.PrintLast Go.Proofs.YtpmjmhdofjbcbaaW.PrintMore
set_option linter.unusedVariables false
set_option linter.unusedSimpArgs false
theorem cmpI_lt {a b : Int} : cmpI a b < 0 ↔ a < b := by
  unfold cmpI
  split
  · simp; assumption
  · split <;> simp <;> omega
theorem cmpI_zero {a b : Int} : cmpI a b = 0 ↔ a = b := by
  unfold cmpI
  split
  · simp; omega
  · split <;> simp <;> omega
theorem cmpF_lt {x y : S43} : cmpF x y < 0 ↔ x.f0 < y.f0 ∨ x.f0 = y.f0 ∧ x.f1 < y.f1 := by
  unfold cmpF
  by_cases h : cmpI x.f0 y.f0 = 0
  · rw [if_neg (by simpa using h), cmpI_lt]
    have := cmpI_zero.1 h
    constructor
    · intro q; exact .inr ⟨this, q⟩
    · rintro (q | q)
      · omega
      · exact q.2
  · rw [if_pos h, cmpI_lt]
    constructor
    · exact .inl
    · rintro (q | q)
      · exact q
      · exact absurd (cmpI_zero.2 q.1) h
def ltF (x y : S43) : Bool := decide (cmpF x y < 0)
theorem ltF_true {x y : S43} : ltF x y = true ↔ x.f0 < y.f0 ∨ x.f0 = y.f0 ∧ x.f1 < y.f1 := by unfold ltF; rw [decide_eq_true_iff, cmpF_lt]
theorem ltF_false {x y : S43} : ltF x y = false ↔ ¬ (x.f0 < y.f0 ∨ x.f0 = y.f0 ∧ x.f1 < y.f1) := by unfold ltF; rw [decide_eq_false_iff_not, cmpF_lt]
theorem ltF_swo : Go.Sort.SWO ltF := ⟨fun x => by rw [ltF_false]; omega, fun x y z h1 h2 => by rw [ltF_true] at *; omega, fun x y z h1 h2 => by rw [ltF_false] at *; omega⟩
theorem ltF_parts (x y : S43) (h1 : ltF x y = false) (h2 : ltF y x = false) : x = y := by
  rw [ltF_false] at h1 h2
  cases x; cases y
  simp only at h1 h2
  rw [S43.mk.injEq]
  omega
def sortFd (l : List S43) : List S43 := l.mergeSort fun x y => !(ltF y x)
theorem sortFd_perm (l : List S43) : (sortFd l).Perm l := List.mergeSort_perm _ _
theorem sortFd_len (l : List S43) : (sortFd l).length = l.length := (sortFd_perm l).length_eq
theorem sortFd_sorted (l : List S43) : (sortFd l).Pairwise fun x y => ltF y x = false := by
  have := List.pairwise_mergeSort (le := fun x y => !(ltF y x)) (fun a b c h1 h2 => by simp only [Bool.not_eq_true'] at *; exact ltF_swo.ntrans _ _ _ h2 h1) (fun a b => by
    rcases Bool.eq_false_or_eq_true (ltF b a) with h | h
    · have : ltF a b = false := by rw [ltF_true] at h; rw [ltF_false]; omega
      rw [h, this]; rfl
    · rw [h]; rfl) l
  exact this.imp (fun h => by simpa using h)
theorem sort_own.calls (w : World) (base : Nat) (ok : Nat → Prop) (v : Value) (l : List S43) (h : Kd.R k43 43 w base ok v l) (hl : l.length ≤ 1000) :
    Calls Try.prog 105 #[v, .func (.func 106) #[] #[]] w fun e w' => e = .returned (.tuple #[]) ∧ Kd.R k43 43 w' base ok v (sortFd l) ∧ w.grownBy w' v.ownBlock := by
  by_cases h0 : l.length = 0
  · have hl0 : l = [] := List.eq_nil_of_length_eq_zero h0
    subst hl0
    have hv : ∃ p c, v = .slice p 0 c := by
      obtain ⟨_, inner, ho, _⟩ := h
      rcases ho.2 with ⟨e, _⟩ | ⟨g1, cap1, cur, e, _⟩
      · exact ⟨_, _, e⟩
      · exact ⟨_, _, e⟩
    obtain ⟨p, c, rfl⟩ := hv
    refine (AnyF.slices_SortFunc_none srf_lays p c _ w).mono ?_
    rintro e w' ⟨he, rfl⟩
    refine ⟨he, ?_, World.grownBy.refl _ _⟩
    rw [show sortFd [] = [] from List.eq_nil_of_length_eq_zero (sortFd_len [])]
    exact h
  · obtain ⟨g, cap, rfl, hb, hlt, _⟩ := Kd.R_form h (by omega)
    obtain ⟨_, hok, hbg, hF⟩ := rowF_of h
    refine (AnyQ.slices_SortFunc srf_lays 2 (by intro w; kernel_rfl) (by intro w; kernel_rfl) encK encK_len encK_one cmpF ltF_swo 106 #[] g 0 cap l.toArray w (by intro args w; kernel_rfl) ?_ (rowF_holds hF) hlt (by simp; omega)).mono ?_
    · intro m os dk hd x y
      exact order.calls x y _
    · rintro e w' ⟨he, d', n, os, hp, hs, rfl⟩
      have hsd := Go.Sort.sorted_unique_holds (lt := ltF) ltF_swo ltF_parts _ _ hp hs
      have e1 : d' = (sortFd l).toArray := by
        rw [show sortFd l = d'.toList from hsd.symm]
      rw [e1]
      refine ⟨he, ?_, grownBy_sortK _⟩
      have := rowF_to (rowF_sort hF (sortFd_len l) n os) hok hbg
      rwa [sortFd_len] at this
end Go.Proofs.Ytpmjmhdofjbcbaa.H
