/- FeudLess: the shelvings of a shop are those without a feud but for those of its paints made one. -/
import Derived.Test.YtpmjmhdofjbcbaaFN4
namespace Go.Proofs.Ytpmjmhdofjbcbaa.H
open Go.RowKit Go.Proofs.Ytpmjmhdofjbcbaa.QA Go.Proofs.Ytpmjmhdofjbcbaa.QE Go.Proofs.Ytpmjmhdofjbcbaa.QF Go.Proofs.YtpmjmhdofjbcbaaW.PrintWords Go.Proofs.YtpmjmhdofjbcbaaW.PrintLast Go.Proofs.YtpmjmhdofjbcbaaW.PrintMore
set_option linter.unusedVariables false
set_option linter.unusedSimpArgs false
def dropL (l : List S43) (k : Nat) : List S43 := l.take k ++ l.drop (k + 1)
def mergedL (p : Int) (l : List S43) (k : Nat) : List S43 := (mergeE p.toNat (toE l) k).map ofP
theorem dropL_vld {p : Int} {l : List S43} (h : vldF p l = 0) (k : Nat) : vldF p (dropL l k) = 0 := by
  obtain ⟨h1, h7, hv⟩ := vld_iff.1 h
  exact vld_iff.2 ⟨h1, h7, vd_drop hv k⟩
theorem two_le {p : Int} {l : List S43} (h : vldF p l = 0) {k : Nat} (hk : k < l.length) : 2 ≤ p := by
  obtain ⟨h1, h7, hv⟩ := vld_iff.1 h
  have := hv.1 _ (getD_memF hk)
  omega
theorem mergedL_vld {p : Int} {l : List S43} (h : vldF p l = 0) {k : Nat} (hk : k < l.length) : vldF (p - 1) (mergedL p l k) = 0 := by
  have h2 := two_le h hk
  obtain ⟨h1, h7, hv⟩ := vld_iff.1 h
  refine vld_iff.2 ⟨by omega, by omega, ?_⟩
  rw [show (p - 1).toNat = p.toNat - 1 by omega]
  exact vd_of (mergeE_good p.toNat _ _)
theorem ev_cnt {p : Int} {l : List S43} (h : vldF p l = 0) (q : Nat) : ev (termsV p l) q = cntE q p.toNat (toE l) := by
  obtain ⟨h1, h7, hv⟩ := vld_iff.1 h
  exact ev_terms q l.length p.toNat (toE l) (vd_good hv) (by rw [toE_len]; omega)
theorem ev_less {p : Int} {l : List S43} (h : vldF p l = 0) {k : Nat} (hk : k < l.length) (x : Int) : ev (termsV p l) x = ev (termsV p (dropL l k)) x - ev (termsV (p - 1) (mergedL p l k)) x := by
  obtain ⟨h1, h7, hv⟩ := vld_iff.1 h
  have hP : Poly (fun x => ev (termsV p (dropL l k)) x + (-1) * ev (termsV (p - 1) (mergedL p l k)) x) := Poly.add ⟨_, fun _ => rfl⟩ (Poly.smul (-1) ⟨_, fun _ => rfl⟩)
  have := Poly.ext (f := fun x => ev (termsV p l) x) ⟨_, fun _ => rfl⟩ hP 0 (fun q _ => by
    show ev (termsV p l) q = ev (termsV p (dropL l k)) q + (-1) * ev (termsV (p - 1) (mergedL p l k)) q
    rw [ev_cnt h, ev_cnt (dropL_vld h k), ev_cnt (mergedL_vld h hk), cnt_drop (vd_good hv) (show k < (toE l).length by rw [toE_len]; exact hk)]
    unfold dropL mergedL
    rw [toE_drop, toE_of, show (p - 1).toNat = p.toNat - 1 by omega]
    omega) x
  have e : ev (termsV p l) x = ev (termsV p (dropL l k)) x + (-1) * ev (termsV (p - 1) (mergedL p l k)) x := this
  omega
theorem sgn_pow (n : Nat) : (-1 : Int) ^ n = 1 ∨ (-1 : Int) ^ n = -1 := by
  induction n with
  | zero => left; rfl
  | succ n ih => rw [Int.pow_succ]; rcases ih with e | e <;> rw [e] <;> decide
theorem sgn_terms : ∀ (f n : Nat) (E : List (Nat × Nat)), Good n E → E.length ≤ f → 0 ≤ (-1 : Int) ^ n * ev (termsF f n E) (-1)
  | 0, n, E, h, hf => by
    show 0 ≤ (-1 : Int) ^ n * ev (xpow n) (-1)
    rw [ev_xpow]
    rcases sgn_pow n with e | e <;> rw [e] <;> decide
  | f + 1, n, E, h, hf => by
    unfold termsF
    by_cases e : E.length = 0
    · rw [if_pos e, ev_xpow]
      rcases sgn_pow n with e | e <;> rw [e] <;> decide
    · have hk : E.length - 1 < E.length := by omega
      have hn : 1 ≤ n := by
        have := h.1 _ (getD_memE hk)
        omega
      rw [if_neg e, ev_off _ (by rw [termsF_len, termsF_len]; omega)]
      have a := sgn_terms f n _ (dropE_good h hk) (by rw [dropE_len hk]; omega)
      have b := sgn_terms f (n - 1) _ (mergeE_good n E (E.length - 1)) (by have := mergeE_len h hk; omega)
      have hp : (-1 : Int) ^ n = (-1 : Int) ^ (n - 1) * (-1) := by rw [← Int.pow_succ]; congr 1; omega
      generalize ev (termsF f n (dropE E (E.length - 1))) (-1) = X at *
      generalize ev (termsF f (n - 1) (mergeE n E (E.length - 1))) (-1) = Y at *
      rcases sgn_pow (n - 1) with q | q <;> rw [q] at hp b <;> rw [hp] at a ⊢ <;> omega
theorem ordV_eq {p : Int} {l : List S43} (h : vldF p l = 0) : ordV p l = (-1 : Int) ^ p.toNat * ev (termsV p l) (-1) := by
  obtain ⟨h1, h7, hv⟩ := vld_iff.1 h
  have hs := sgn_terms l.length p.toNat (toE l) (vd_good hv) (by rw [toE_len]; omega)
  unfold ordV
  show _ = _ * ev (termsF l.length p.toNat (toE l)) (-1)
  unfold termsV
  generalize ev (termsF l.length p.toNat (toE l)) (-1) = X at *
  rcases sgn_pow p.toNat with q | q <;> rw [q] at hs ⊢ <;> omega
theorem ordV_less {p : Int} {l : List S43} (h : vldF p l = 0) {k : Nat} (hk : k < l.length) : ordV p l = ordV p (dropL l k) + ordV (p - 1) (mergedL p l k) := by
  have h2 := two_le h hk
  rw [ordV_eq h, ordV_eq (dropL_vld h k), ordV_eq (mergedL_vld h hk), ev_less h hk]
  have hp : (-1 : Int) ^ p.toNat = (-1 : Int) ^ (p - 1).toNat * (-1) := by rw [← Int.pow_succ]; congr 1; omega
  generalize ev (termsV p (dropL l k)) (-1) = X at *
  generalize ev (termsV (p - 1) (mergedL p l k)) (-1) = Y at *
  rcases sgn_pow (p - 1).toNat with q | q <;> rw [q] at hp ⊢ <;> rw [hp] <;> omega
theorem drop_f {p : Int} {l : List S43} (hl : l.length ≤ 1000) (k : Int) : feud_Drop.f p l k = some (if vldF p l = 0 then (if 0 ≤ k ∧ k < l.length then (p, dropL l k.toNat, 0) else (0, [], 4)) else (0, [], vldF p l)) := by
  unfold feud_Drop.f feud_Validate.f
  rw [if_pos hl, Option.bind_some]
  by_cases h : vldF p l = 0
  · rw [if_pos h, if_pos h]
    by_cases h0 : k < 0
    · rw [if_pos h0, if_neg (by omega)]
    · rw [if_neg h0]
      by_cases h1 : k ≥ (l.length : Int)
      · rw [if_pos h1, if_neg (by omega)]
      · rw [if_neg h1, if_pos (by omega)]
        obtain ⟨j, rfl⟩ : ∃ j : Nat, k = j := ⟨k.toNat, by omega⟩
        rw [drop_eq hl (by omega) p]
        rfl
  · rw [if_neg h, if_neg h]
theorem merge_f {p : Int} {l : List S43} (hl : l.length ≤ 1000) (k : Int) : feud_Merge.f p l k = some (if vldF p l = 0 then (if 0 ≤ k ∧ k < l.length then (p - 1, mergedL p l k.toNat, 0) else (0, [], 4)) else (0, [], vldF p l)) := by
  unfold feud_Merge.f feud_Validate.f
  rw [if_pos hl, Option.bind_some]
  by_cases h : vldF p l = 0
  · rw [if_pos h, if_pos h]
    by_cases h0 : k < 0
    · rw [if_pos h0, if_neg (by omega)]
    · rw [if_neg h0]
      by_cases h1 : k ≥ (l.length : Int)
      · rw [if_pos h1, if_neg (by omega)]
      · rw [if_neg h1, if_pos (by omega)]
        obtain ⟨j, rfl⟩ : ∃ j : Nat, k = j := ⟨k.toNat, by omega⟩
        obtain ⟨h1, h7, hv⟩ := vld_iff.1 h
        have := merge_eq hv (by omega) hl (show j < l.length by omega)
        rw [Int.toNat_of_nonneg (by omega)] at this
        rw [this]
        rfl
  · rw [if_neg h, if_neg h]
theorem j0_known (a b c d e : Int) (l1 l2 l3 : List S43) (f : Int) : Ev (fun k => verditerlaw03_feudLess.j0 k a b true c l1 d l2 e l3) true := by
  refine Ev.step (f := fun k => (verditerlaw03_known.f k).bind fun t => some t) (fun k => ?_) (Ev.bind Ev_known (Ev.now _))
  rw [verditerlaw03_feudLess.j0, if_pos rfl]
theorem feudLess_true (p : Int) (l : List S43) (x k0 : Int) : Ev (fun k => verditerlaw03_feudLess.f k p l x k0) true := by
  by_cases hlong : (l.length : Int) > 60
  · refine Ev.congr (f := fun k => (verditerlaw03_known.f k).bind fun t => some t) (fun k => ?_) (Ev.bind Ev_known (Ev.now _))
    unfold verditerlaw03_feudLess.f verditerlaw03_Long.f
    rw [Option.bind_some, if_pos (decide_eq_true hlong)]
  have hl : l.length ≤ 1000 := by omega
  have hC := Ev_Count (p := p) hl x
  have start : ∀ {r : Int × Int}, Ev (fun k => feud_Count.f k p l x) r → ∀ dv mv, feud_Drop.f p l k0 = some dv → feud_Merge.f p l k0 = some mv →
      Ev (fun k => if dv.2.2 = 0 then (if mv.2.2 = 0 then verditerlaw03_feudLess.j0 k x r.1 (r.2 != 0) p l dv.1 dv.2.1 mv.1 mv.2.1 else verditerlaw03_feudLess.j0 k x r.1 true p l dv.1 dv.2.1 mv.1 mv.2.1) else verditerlaw03_feudLess.j0 k x r.1 true p l dv.1 dv.2.1 mv.1 mv.2.1) true → Ev (fun k => verditerlaw03_feudLess.f k p l x k0) true := by
    intro r hr dv mv hd hm hj
    refine Ev.congr (f := fun k => (feud_Count.f k p l x).bind fun bt140 => (if dv.2.2 = 0 then (if mv.2.2 = 0 then verditerlaw03_feudLess.j0 k x bt140.1 (bt140.2 != 0) p l dv.1 dv.2.1 mv.1 mv.2.1 else verditerlaw03_feudLess.j0 k x bt140.1 true p l dv.1 dv.2.1 mv.1 mv.2.1) else verditerlaw03_feudLess.j0 k x bt140.1 true p l dv.1 dv.2.1 mv.1 mv.2.1)) (fun k => ?_) (Ev.bind hr hj)
    unfold verditerlaw03_feudLess.f verditerlaw03_Long.f
    rw [Option.bind_some, if_neg (by rw [decide_eq_true_eq]; exact hlong), hd, hm]
    rfl
  have hd := drop_f (p := p) hl k0
  have hm := merge_f (p := p) hl k0
  by_cases hv : vldF p l = 0
  · rw [if_pos hv] at hd hm hC
    by_cases hk : 0 ≤ k0 ∧ k0 < l.length
    · rw [if_pos hk] at hd hm
      obtain ⟨j, rfl⟩ : ∃ j : Nat, k0 = j := ⟨k0.toNat, by omega⟩
      have hj : j < l.length := by omega
      rw [Int.toNat_natCast] at hd hm
      refine start hC _ _ hd hm ?_
      by_cases hx : 1 ≤ x ∧ x ≤ 9
      · rw [if_pos hx]
        have hdv := dropL_vld hv j
        have hmv := mergedL_vld hv hj
        have ld : (dropL l j).length ≤ 1000 := by unfold dropL; rw [List.length_append, List.length_take, List.length_drop]; omega
        have lm : (mergedL p l j).length ≤ 1000 := by have := vd_len (vld_iff.1 hmv).2.2 (by have := (vld_iff.1 hmv); omega); omega
        have c1 := Ev_Count (p := p) ld x
        have c2 := Ev_Count (p := p - 1) lm x
        have o1 := Ev_Orders (p := p) hl
        have o2 := Ev_Orders (p := p) ld
        have o3 := Ev_Orders (p := p - 1) lm
        rw [if_pos hdv, if_pos hx] at c1
        rw [if_pos hmv, if_pos hx] at c2
        rw [if_pos hv] at o1
        rw [if_pos hdv] at o2
        rw [if_pos hmv] at o3
        have e1 := ev_less hv hj x
        have e2 := ordV_less hv hj
        have b1 := ev_small hv (x := x) (by omega)
        have b2 := ev_small hv (x := -1) (by omega)
        have b3 : -(2 ^ 62 : Int) ≤ ordV p l ∧ ordV p l ≤ 2 ^ 62 := by unfold ordV; omega
        refine Ev.step (f := fun k => (feud_Count.f k p (dropL l j) x).bind fun bt143 => (feud_Count.f k (p - 1) (mergedL p l j) x).bind fun bt145 => (feud_Orders.f k p l).bind fun bt147 => (feud_Orders.f k p (dropL l j)).bind fun bt149 => (feud_Orders.f k (p - 1) (mergedL p l j)).bind fun bt151 => (if bt143.2 = 0 then (if bt145.2 = 0 then (if ev (termsV p l) x = (wrap64 (bt143.1 - bt145.1)) then (if bt147.2 = 0 then (if bt149.2 = 0 then (if bt151.2 = 0 then (if bt147.1 = (wrap64 (bt149.1 + bt151.1)) then ((verditerlaw03_known.f k).bind fun t153 => (some t153)) else (some false)) else (some false)) else (some false)) else (some false)) else (some false)) else (some false)) else (some false))) (fun k => ?_) (Ev.bind c1 (Ev.bind c2 (Ev.bind o1 (Ev.bind o2 (Ev.bind o3 ?_)))))
        · simp only [if_pos]
          rw [verditerlaw03_feudLess.j0, if_neg (by decide)]
        · simp only [← e1, ← e2]
          rw [IntWalk.wrap64_in _ (by omega), IntWalk.wrap64_in _ (by omega)]
          simp only [if_pos]
          exact Ev.bind Ev_known (Ev.now _)
      · rw [if_neg hx]
        simp only [if_pos]
        exact j0_known _ _ _ _ _ _ _ _ 0
    · rw [if_neg hk] at hd hm
      refine start hC _ _ hd hm ?_
      simp only [show ¬ (4 : Int) = 0 by decide, if_false]
      exact j0_known _ _ _ _ _ _ _ _ 0
  · rw [if_neg hv] at hd hm hC
    refine start hC _ _ hd hm ?_
    simp only [hv, if_false]
    exact j0_known _ _ _ _ _ _ _ _ 0
theorem pureFeudLess {p : Int} {A : Option Addr} {n c : Nat} {l : List S43} {x k0 : Int} {W : World} (g : Kd.C k43 W A n l) (hw : (Lit.int .i64 p).wf = true) (hf : ∀ f ∈ l, WfF f) (hn : n ≤ c) (hx : (Lit.int .i64 x).wf = true) (hk0 : (Lit.int .i64 k0).wf = true) :
    Calls Try.prog 22 #[.agg #[.int .i64 p, .slice A n c], .int .i64 x, .int .i64 k0] W fun e w' => e = .returned (.bool true) ∧ Below W.heap.size W w' := by
  obtain rfl : l.length = n := g.1
  obtain ⟨k, hk⟩ := (feudLess_true p l x k0).rounds
  exact verditerlaw03_feudLess.calls k p A c l x k0 true W g hn hk
end Go.Proofs.Ytpmjmhdofjbcbaa.H
