/- A shop without a feud, and with its paints made one: Drop, Merge, the counts and the orders. -/
import Derived.Test.YtpmjmhdofjbcbaaFN4
namespace Go.Proofs.Ytpmjmhdofjbcbaa.H
open Go.RowKit Go.Proofs.Ytpmjmhdofjbcbaa.QA Go.Proofs.Ytpmjmhdofjbcbaa.QE Go.Proofs.Ytpmjmhdofjbcbaa.QK Go.Proofs.YtpmjmhdofjbcbaaW.PrintWords Go.Proofs.YtpmjmhdofjbcbaaW.PrintLast Go.Proofs.YtpmjmhdofjbcbaaW.PrintMore
set_option linter.unusedVariables false
set_option linter.unusedSimpArgs false
def dropL (l : List S43) (k : Nat) : List S43 := l.take k ++ l.drop (k + 1)
def mergedL (p : Int) (l : List S43) (k : Nat) : List S43 := (mergeE p.toNat (toE l) k).map ofP
theorem dropL_vld {p : Int} {l : List S43} (h : vldF p l = 0) (k : Nat) : vldF p (dropL l k) = 0 := by
  obtain ⟨h1, h7, hv⟩ := vld_iff.1 h
  exact vld_iff.2 ⟨h1, h7, vd_drop hv k⟩
theorem two_le {p : Int} {l : List S43} (h : vldF p l = 0) {k : Nat} (hk : k < l.length) : 2 ≤ p := by
  obtain ⟨h1, h7, hv⟩ := vld_iff.1 h
  have := hv.1 _ (getD_memF hk)
  omega
theorem mergedL_vld {p : Int} {l : List S43} (h : vldF p l = 0) {k : Nat} (hk : k < l.length) : vldF (p - 1) (mergedL p l k) = 0 := by
  have h2 := two_le h hk
  obtain ⟨h1, h7, hv⟩ := vld_iff.1 h
  refine vld_iff.2 ⟨by omega, by omega, ?_⟩
  rw [show (p - 1).toNat = p.toNat - 1 by omega]
  exact vd_of (mergeE_good p.toNat _ _)
theorem ev_cnt {p : Int} {l : List S43} (h : vldF p l = 0) (q : Nat) : ev (termsV p l) q = cntE q p.toNat (toE l) := by
  obtain ⟨h1, h7, hv⟩ := vld_iff.1 h
  exact ev_terms q l.length p.toNat (toE l) (vd_good hv) (by rw [toE_len]; omega)
theorem ev_less {p : Int} {l : List S43} (h : vldF p l = 0) {k : Nat} (hk : k < l.length) (x : Int) : ev (termsV p l) x = ev (termsV p (dropL l k)) x - ev (termsV (p - 1) (mergedL p l k)) x := by
  obtain ⟨h1, h7, hv⟩ := vld_iff.1 h
  have hP : Poly (fun x => ev (termsV p (dropL l k)) x + (-1) * ev (termsV (p - 1) (mergedL p l k)) x) := Poly.add ⟨_, fun _ => rfl⟩ (Poly.smul (-1) ⟨_, fun _ => rfl⟩)
  have := Poly.ext (f := fun x => ev (termsV p l) x) ⟨_, fun _ => rfl⟩ hP 0 (fun q _ => by
    show ev (termsV p l) q = ev (termsV p (dropL l k)) q + (-1) * ev (termsV (p - 1) (mergedL p l k)) q
    rw [ev_cnt h, ev_cnt (dropL_vld h k), ev_cnt (mergedL_vld h hk), cnt_drop (vd_good hv) (show k < (toE l).length by rw [toE_len]; exact hk)]
    unfold dropL mergedL
    rw [toE_drop, toE_of, show (p - 1).toNat = p.toNat - 1 by omega]
    omega) x
  have e : ev (termsV p l) x = ev (termsV p (dropL l k)) x + (-1) * ev (termsV (p - 1) (mergedL p l k)) x := this
  omega
theorem sgn_pow (n : Nat) : (-1 : Int) ^ n = 1 ∨ (-1 : Int) ^ n = -1 := by
  induction n with
  | zero => left; rfl
  | succ n ih => rw [Int.pow_succ]; rcases ih with e | e <;> rw [e] <;> decide
theorem sgn_terms : ∀ (f n : Nat) (E : List (Nat × Nat)), Good n E → E.length ≤ f → 0 ≤ (-1 : Int) ^ n * ev (termsF f n E) (-1)
  | 0, n, E, h, hf => by
    show 0 ≤ (-1 : Int) ^ n * ev (xpow n) (-1)
    rw [ev_xpow]
    rcases sgn_pow n with e | e <;> rw [e] <;> decide
  | f + 1, n, E, h, hf => by
    unfold termsF
    by_cases e : E.length = 0
    · rw [if_pos e, ev_xpow]
      rcases sgn_pow n with e | e <;> rw [e] <;> decide
    · have hk : E.length - 1 < E.length := by omega
      have hn : 1 ≤ n := by
        have := h.1 _ (getD_memE hk)
        omega
      rw [if_neg e, ev_off _ (by rw [termsF_len, termsF_len]; omega)]
      have a := sgn_terms f n _ (dropE_good h hk) (by rw [dropE_len hk]; omega)
      have b := sgn_terms f (n - 1) _ (mergeE_good n E (E.length - 1)) (by have := mergeE_len h hk; omega)
      have hp : (-1 : Int) ^ n = (-1 : Int) ^ (n - 1) * (-1) := by rw [← Int.pow_succ]; congr 1; omega
      generalize ev (termsF f n (dropE E (E.length - 1))) (-1) = X at *
      generalize ev (termsF f (n - 1) (mergeE n E (E.length - 1))) (-1) = Y at *
      rcases sgn_pow (n - 1) with q | q <;> rw [q] at hp b <;> rw [hp] at a ⊢ <;> omega
theorem ordV_eq {p : Int} {l : List S43} (h : vldF p l = 0) : ordV p l = (-1 : Int) ^ p.toNat * ev (termsV p l) (-1) := by
  obtain ⟨h1, h7, hv⟩ := vld_iff.1 h
  have hs := sgn_terms l.length p.toNat (toE l) (vd_good hv) (by rw [toE_len]; omega)
  unfold ordV
  show _ = _ * ev (termsF l.length p.toNat (toE l)) (-1)
  unfold termsV
  generalize ev (termsF l.length p.toNat (toE l)) (-1) = X at *
  rcases sgn_pow p.toNat with q | q <;> rw [q] at hs ⊢ <;> omega
theorem ordV_less {p : Int} {l : List S43} (h : vldF p l = 0) {k : Nat} (hk : k < l.length) : ordV p l = ordV p (dropL l k) + ordV (p - 1) (mergedL p l k) := by
  have h2 := two_le h hk
  rw [ordV_eq h, ordV_eq (dropL_vld h k), ordV_eq (mergedL_vld h hk), ev_less h hk]
  have hp : (-1 : Int) ^ p.toNat = (-1 : Int) ^ (p - 1).toNat * (-1) := by rw [← Int.pow_succ]; congr 1; omega
  generalize ev (termsV p (dropL l k)) (-1) = X at *
  generalize ev (termsV (p - 1) (mergedL p l k)) (-1) = Y at *
  rcases sgn_pow (p - 1).toNat with q | q <;> rw [q] at hp ⊢ <;> rw [hp] <;> omega
theorem drop_f {p : Int} {l : List S43} (hl : l.length ≤ 1000) (k : Int) : feud_Drop.f p l k = some (if vldF p l = 0 then (if 0 ≤ k ∧ k < l.length then (p, dropL l k.toNat, 0) else (0, [], 4)) else (0, [], vldF p l)) := by
  unfold feud_Drop.f feud_Validate.f
  rw [if_pos hl, Option.bind_some]
  by_cases h : vldF p l = 0
  · rw [if_pos h, if_pos h]
    by_cases h0 : k < 0
    · rw [if_pos h0, if_neg (by omega)]
    · rw [if_neg h0]
      by_cases h1 : k ≥ (l.length : Int)
      · rw [if_pos h1, if_neg (by omega)]
      · rw [if_neg h1, if_pos (by omega)]
        obtain ⟨j, rfl⟩ : ∃ j : Nat, k = j := ⟨k.toNat, by omega⟩
        rw [drop_eq hl (by omega) p]
        rfl
  · rw [if_neg h, if_neg h]
theorem merge_f {p : Int} {l : List S43} (hl : l.length ≤ 1000) (k : Int) : feud_Merge.f p l k = some (if vldF p l = 0 then (if 0 ≤ k ∧ k < l.length then (p - 1, mergedL p l k.toNat, 0) else (0, [], 4)) else (0, [], vldF p l)) := by
  unfold feud_Merge.f feud_Validate.f
  rw [if_pos hl, Option.bind_some]
  by_cases h : vldF p l = 0
  · rw [if_pos h, if_pos h]
    by_cases h0 : k < 0
    · rw [if_pos h0, if_neg (by omega)]
    · rw [if_neg h0]
      by_cases h1 : k ≥ (l.length : Int)
      · rw [if_pos h1, if_neg (by omega)]
      · rw [if_neg h1, if_pos (by omega)]
        obtain ⟨j, rfl⟩ : ∃ j : Nat, k = j := ⟨k.toNat, by omega⟩
        obtain ⟨h1, h7, hv⟩ := vld_iff.1 h
        have := merge_eq hv (by omega) hl (show j < l.length by omega)
        rw [Int.toNat_of_nonneg (by omega)] at this
        rw [this]
        rfl
  · rw [if_neg h, if_neg h]
end Go.Proofs.Ytpmjmhdofjbcbaa.H
