/- feud.terms and feud.value are the terms and their sum. -/
import Derived.Test.YtpmjmhdofjbcbaaFN2
namespace Go.Proofs.Ytpmjmhdofjbcbaa.H
open Go.RowKit Go.Proofs.Ytpmjmhdofjbcbaa.QA Go.Proofs.Ytpmjmhdofjbcbaa.QE Go.Proofs.YtpmjmhdofjbcbaaW.PrintWords Go.Proofs.YtpmjmhdofjbcbaaW.PrintLast Go.Proofs.YtpmjmhdofjbcbaaW.PrintMore
set_option linter.unusedVariables false
set_option linter.unusedSimpArgs false
theorem ev_cast {α : Type} {g h : Nat → Option α} {r s : α} (h1 : Ev g r) (e : ∀ k, h k = g k) (er : s = r) : Ev h s := by
  subst er
  exact Ev.congr e h1
def mixL (X B : List Int) (i : Nat) : List Int := (offL X B).take i ++ X.drop i
theorem mixL_get {X B : List Int} (h : B.length ≤ X.length) {i : Nat} (hi : i ≤ X.length) (j : Nat) : (mixL X B i)[j]? = if j < i then (offL X B)[j]? else X[j]? := by
  unfold mixL
  by_cases hj : j < i
  · rw [if_pos hj, List.getElem?_append_left (by rw [List.length_take, offL_len h]; omega), List.getElem?_take, if_pos hj]
  · rw [if_neg hj, List.getElem?_append_right (by rw [List.length_take, offL_len h]; omega), List.length_take, offL_len h, List.getElem?_drop]
    congr 1
    omega
theorem mixL_len {X B : List Int} (h : B.length ≤ X.length) {i : Nat} (hi : i ≤ X.length) : (mixL X B i).length = X.length := by
  unfold mixL
  rw [List.length_append, List.length_take, List.length_drop, offL_len h]
  omega
theorem offL_get {X B : List Int} (h : B.length ≤ X.length) (j : Nat) (hj : j < X.length) : (offL X B)[j]? = some (X.getD j 0 - B.getD j 0) := by
  unfold offL subL
  rw [List.getElem?_zipWith, List.getElem?_eq_getElem hj]
  have : (B ++ List.replicate (X.length - B.length) 0)[j]? = some (B.getD j 0) := by
    by_cases hb : j < B.length
    · rw [List.getElem?_append_left hb, List.getElem?_eq_getElem hb, List.getD_eq_getElem?_getD, List.getElem?_eq_getElem hb]; rfl
    · rw [List.getElem?_append_right (by omega), List.getElem?_replicate, if_pos (by omega), List.getD_eq_getElem?_getD, List.getElem?_eq_none (by omega)]; rfl
  rw [this]
  simp only [List.getD_eq_getElem?_getD, List.getElem?_eq_getElem hj, Option.getD_some]
theorem mixL_end {X B : List Int} (h : B.length ≤ X.length) : mixL X B B.length = offL X B := by
  apply List.ext_getElem?
  intro j
  rw [mixL_get h h]
  by_cases hj : j < B.length
  · rw [if_pos hj]
  · rw [if_neg hj]
    by_cases hx : j < X.length
    · rw [offL_get h j hx, List.getElem?_eq_getElem hx, List.getD_eq_getElem?_getD, List.getD_eq_getElem?_getD, List.getElem?_eq_getElem hx, List.getElem?_eq_none (by omega)]
      simp
    · rw [List.getElem?_eq_none (by omega), List.getElem?_eq_none (by rw [offL_len h]; omega)]
theorem Ev_off {X B : List Int} (h : B.length ≤ X.length) (hX : ∀ a ∈ X, -(2 ^ 61 : Int) ≤ a ∧ a ≤ 2 ^ 61) (hB : ∀ a ∈ B, -(2 ^ 61 : Int) ≤ a ∧ a ≤ 2 ^ 61) (hl : B.length ≤ 100000) : ∀ d i, i + d = B.length → Ev (fun k => feud_terms.l0 k (mixL X B i) B (B.length : Int) (i : Int)) (offL X B) := by
  intro d
  induction d with
  | zero =>
    intro i hi
    refine Ev.step (f := fun _ => some (offL X B)) (fun k => ?_) (Ev.now _)
    rw [feud_terms.l0, if_neg (by omega), show i = B.length by omega, mixL_end h]
  | succ d ih =>
    intro i hi
    refine Ev.step (f := fun k => feud_terms.l0 k (mixL X B (i + 1)) B (B.length : Int) ((i + 1 : Nat) : Int)) (fun k => ?_) (ih (i + 1) (by omega))
    rw [feud_terms.l0, if_pos (by omega), if_pos (by omega), if_pos (by omega), if_pos (by rw [mixL_len h (by omega)]; omega)]
    have hw : wrap64 ((i : Int) + 1) = ((i + 1 : Nat) : Int) := by rw [IntWalk.wrap64_in _ (by omega)]; rfl
    have e1 : rd (mixL X B i) (i : Int) = X.getD i 0 := by
      show (mixL X B i).getD (i : Int).toNat 0 = _
      rw [Int.toNat_natCast, List.getD_eq_getElem?_getD, mixL_get h (by omega), if_neg (by omega), List.getD_eq_getElem?_getD]
    have e2 : rd B (i : Int) = B.getD i 0 := by show B.getD (i : Int).toNat 0 = _; rw [Int.toNat_natCast]
    have b1 : -(2 ^ 61 : Int) ≤ X.getD i 0 ∧ X.getD i 0 ≤ 2 ^ 61 := by
      rw [List.getD_eq_getElem?_getD, List.getElem?_eq_getElem (show i < X.length by omega)]
      exact hX _ (List.getElem_mem _)
    have b2 : -(2 ^ 61 : Int) ≤ B.getD i 0 ∧ B.getD i 0 ≤ 2 ^ 61 := by
      rw [List.getD_eq_getElem?_getD, List.getElem?_eq_getElem (show i < B.length by omega)]
      exact hB _ (List.getElem_mem _)
    rw [hw, e1, e2, IntWalk.wrap64_in _ (by omega), Int.toNat_natCast]
    congr 1
    apply List.ext_getElem?
    intro j
    rw [List.getElem?_set, mixL_len h (by omega), mixL_get h (by omega), mixL_get h (by omega)]
    by_cases hj : i = j
    · subst hj
      rw [if_pos rfl, if_pos (by omega), if_pos (by omega), offL_get h i (by omega)]
    · rw [if_neg hj]
      by_cases hlt : j < i
      · rw [if_pos hlt, if_pos (by omega)]
      · rw [if_neg hlt, if_neg (by omega)]
theorem pow_le {f : Nat} (h : f ≤ 61) : (2 ^ f : Int) ≤ 2 ^ 61 := by
  have : 2 ^ f ≤ 2 ^ 61 := Nat.pow_le_pow_right (by omega) h
  exact_mod_cast this
theorem terms_nil (k : Nat) {n : Nat} (hn : n ≤ 1000) : feud_terms.f (k + 1) (n : Int) [] = some (xpow n) := by
  have hw : wrap64 ((n : Int) + 1) = ((n + 1 : Nat) : Int) := by rw [IntWalk.wrap64_in _ (by omega)]; rfl
  rw [feud_terms.f, if_pos (by rfl), hw, Int.toNat_natCast, if_pos (by omega), if_pos (by omega), Option.bind_some, if_pos (by omega), if_pos (by rw [List.length_replicate]; omega), Int.toNat_natCast]
  congr 1
  unfold xpow
  rw [List.replicate_succ', List.set_append_right _ _ (by simp), List.length_replicate, Nat.sub_self]
  rfl
theorem Ev_terms : ∀ (f n : Nat) (l : List S43), Vd n l → l.length ≤ f → f ≤ 61 → n ≤ 1000 → Ev (fun k => feud_terms.f k (n : Int) l) (termsF f n (toE l)) := by
  intro f
  induction f with
  | zero =>
    intro n l hv hl hf hn
    have e0 : l = [] := List.eq_nil_of_length_eq_zero (by omega)
    subst e0
    exact Ev.step (f := fun _ => some (xpow n)) (fun k => terms_nil k hn) (Ev.now _)
  | succ f ih =>
    intro n l hv hl hf hn
    by_cases h0 : l.length = 0
    · have e0 : l = [] := List.eq_nil_of_length_eq_zero (by omega)
      subst e0
      rw [show toE [] = [] from rfl, termsF_nil]
      exact Ev.step (f := fun _ => some (xpow n)) (fun k => terms_nil k hn) (Ev.now _)
    · have hk : l.length - 1 < l.length := by omega
      have hE : (toE l).length = l.length := toE_len l
      have hg := vd_good hv
      have hn2 : 2 ≤ n := by
        have := hv.1 _ (getD_memF hk)
        omega
      have hvd := vd_drop hv (l.length - 1)
      have hvm : Vd (n - 1) ((mergeE n (toE l) (l.length - 1)).map ofP) := vd_of (mergeE_good n _ _)
      have h1 := ih n _ hvd (by rw [List.length_append, List.length_take, List.length_drop]; omega) (by omega) hn
      have h2 := ih (n - 1) _ hvm (by rw [List.length_map]; have := mergeE_len hg (show l.length - 1 < (toE l).length by omega); omega) (by omega) (by omega)
      rw [toE_drop] at h1
      rw [toE_of] at h2
      have eT : termsF (f + 1) n (toE l) = offL (termsF f n (dropE (toE l) (l.length - 1))) (termsF f (n - 1) (mergeE n (toE l) (l.length - 1))) := by
        rw [termsF, if_neg (by omega), hE]
      rw [eT]
      have b1 := termsF_bound f n (dropE (toE l) (l.length - 1))
      have b2 := termsF_bound f (n - 1) (mergeE n (toE l) (l.length - 1))
      have l1 := termsF_len f n (dropE (toE l) (l.length - 1))
      have l2 := termsF_len f (n - 1) (mergeE n (toE l) (l.length - 1))
      generalize termsF f n (dropE (toE l) (l.length - 1)) = X at *
      generalize termsF f (n - 1) (mergeE n (toE l) (l.length - 1)) = B at *
      have hp := pow_le (show f ≤ 61 by omega)
      have h3 := Ev_off (X := X) (B := B) (by omega) (fun a ha => by have := b1 a ha; omega) (fun a ha => by have := b2 a ha; omega) (by omega) B.length 0 (by omega)
      have em : mixL X B 0 = X := by simp [mixL]
      rw [em] at h3
      refine Ev.step (f := fun k => (feud_terms.f k n (l.take (l.length - 1) ++ l.drop (l.length - 1 + 1))).bind fun t128 => (feud_terms.f k ((n - 1 : Nat) : Int) ((mergeE n (toE l) (l.length - 1)).map ofP)).bind fun t135 => feud_terms.l0 k t128 t135 (t135.length : Int) 0) (fun k => ?_) (Ev.bind h1 (Ev.bind h2 h3))
      rw [feud_terms.f, if_neg (by omega)]
      have hw : wrap64 ((l.length : Int) - 1) = ((l.length - 1 : Nat) : Int) := by rw [IntWalk.wrap64_in _ (by omega)]; omega
      rw [hw, drop_eq (by omega) hk, merge_eq hv hn (by omega) hk]
      have : ((n : Int) - 1) = ((n - 1 : Nat) : Int) := by omega
      rw [this]
      rfl
/-! the sum -/
theorem ev_drop_step (l : List Int) (x : Int) {i : Nat} (hi : i < l.length) : ev (l.drop i) x = l.getD i 0 + x * ev (l.drop (i + 1)) x := by
  rw [List.drop_eq_getElem_cons hi, List.getD_eq_getElem?_getD, List.getElem?_eq_getElem hi]
  rfl
theorem Ev_value {l : List Int} {x : Int} (hl : l.length ≤ 1000) (hb : ∀ i, i ≤ l.length → -(2 ^ 62 : Int) ≤ ev (l.drop i) x ∧ ev (l.drop i) x ≤ 2 ^ 62 ∧ -(2 ^ 62 : Int) ≤ ev (l.drop i) x * x ∧ ev (l.drop i) x * x ≤ 2 ^ 62) : Ev (fun k => feud_value.f k l x) (ev l x) := by
  have key : ∀ i, i ≤ l.length → Ev (fun k => feud_value.l0 k l x (ev (l.drop i) x) ((i : Int) - 1)) (ev l x) := by
    intro i
    induction i with
    | zero =>
      intro _
      refine Ev.step (f := fun _ => some (ev l x)) (fun k => ?_) (Ev.now _)
      rw [feud_value.l0, if_neg (by omega)]
      rfl
    | succ i ih =>
      intro hi
      refine Ev.step (f := fun k => feud_value.l0 k l x (ev (l.drop i) x) ((i : Int) - 1)) (fun k => ?_) (ih (by omega))
      have h1 := hb (i + 1) hi
      have h2 := hb i (by omega)
      have e := ev_drop_step l x (show i < l.length by omega)
      rw [feud_value.l0, show ((i + 1 : Nat) : Int) - 1 = (i : Int) by omega, if_pos (by omega), if_pos (by omega), if_pos (by omega)]
      have e2 : rd l (i : Int) = l.getD i 0 := by show l.getD (i : Int).toNat 0 = _; rw [Int.toNat_natCast]
      have e3 : ev (l.drop (i + 1)) x * x + l.getD i 0 = ev (l.drop i) x := by rw [e, Int.mul_comm]; omega
      rw [IntWalk.wrap64_in (ev (l.drop (i + 1)) x * x) (by omega), e2, e3, IntWalk.wrap64_in _ (by omega), IntWalk.wrap64_in _ (by omega)]
  have h := key l.length (Nat.le_refl _)
  rw [List.drop_length] at h
  refine ev_cast h (fun k => ?_) rfl
  unfold feud_value.f
  rw [IntWalk.wrap64_in _ (by omega)]
  rfl
end Go.Proofs.Ytpmjmhdofjbcbaa.H
