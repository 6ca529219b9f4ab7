/- feud.Terms, Count, Orders, known: what they compute. -/
import Derived.Test.YtpmjmhdofjbcbaaFN3
import Derived.Test.YtpmjmhdofjbcbaaQK1
namespace Go.Proofs.Ytpmjmhdofjbcbaa.H
open Go.RowKit Go.Proofs.Ytpmjmhdofjbcbaa.QA Go.Proofs.Ytpmjmhdofjbcbaa.QE Go.Proofs.Ytpmjmhdofjbcbaa.QK Go.Proofs.YtpmjmhdofjbcbaaW.PrintWords Go.Proofs.YtpmjmhdofjbcbaaW.PrintLast Go.Proofs.YtpmjmhdofjbcbaaW.PrintMore
set_option linter.unusedVariables false
set_option linter.unusedSimpArgs false
theorem vld_iff {p : Int} {l : List S43} : vldF p l = 0 ↔ 1 ≤ p ∧ p ≤ 7 ∧ Vd p.toNat l := by
  unfold vldF Vd
  by_cases h1 : p < 1 ∨ 7 < p
  · rw [if_pos h1]
    constructor
    · intro h; cases h
    · rintro ⟨a, b, _⟩; omega
  · rw [if_neg h1]
    by_cases h2 : ∃ f ∈ l, badF p f
    · rw [if_pos h2]
      constructor
      · intro h; cases h
      · rintro ⟨_, _, h, _⟩
        obtain ⟨f, hf, hb⟩ := h2
        have := h f hf
        unfold badF at hb
        omega
    · rw [if_neg h2]
      have h3 : ∀ f ∈ l, 0 ≤ f.f0 ∧ f.f0 < f.f1 ∧ f.f1 < (p.toNat : Int) := fun f hf => by
        have : ¬ badF p f := fun hb => h2 ⟨f, hf, hb⟩
        unfold badF at this
        omega
      by_cases h4 : l.Nodup
      · rw [if_pos h4]; exact ⟨fun _ => ⟨by omega, by omega, h3, h4⟩, fun _ => rfl⟩
      · rw [if_neg h4]
        constructor
        · intro h; cases h
        · rintro ⟨_, _, _, h⟩; exact absurd h h4
theorem vd_len {n : Nat} {l : List S43} (h : Vd n l) (hn : n ≤ 7) : l.length ≤ 21 := by
  have hg := vd_good h
  have h1 := nodup_lenE (l := toE l) (m := setE 7 fun _ _ => true) hg.2 (fun e he => mem_setE.2 (by have := hg.1 e he; exact ⟨this.1, by omega, rfl⟩))
  rw [toE_len] at h1
  have h2 : (setE 7 fun _ _ => true).length = 21 := by decide
  omega
def termsV (p : Int) (l : List S43) : List Int := termsF l.length p.toNat (toE l)
theorem ev_bnd {M : Int} (hM : 0 ≤ M) {x : Int} (hx : -9 ≤ x ∧ x ≤ 9) : ∀ l : List Int, (∀ a ∈ l, -M ≤ a ∧ a ≤ M) → -(M * 10 ^ l.length) ≤ ev l x ∧ ev l x ≤ M * 10 ^ l.length
  | [], _ => by rw [ev_nil]; simp; omega
  | a :: l, h => by
    have ih := ev_bnd hM hx l (fun b hb => h b (by simp [hb]))
    have ha := h a (by simp)
    rw [ev_cons, List.length_cons, Int.pow_succ]
    have hp : (1 : Int) ≤ 10 ^ l.length := by
      have : (0 : Int) < 10 ^ l.length := Int.pow_pos (by decide)
      omega
    have h0 : M ≤ M * 10 ^ l.length := by
      have := Int.mul_le_mul_of_nonneg_left hp hM
      omega
    rw [← Int.mul_assoc]
    generalize M * 10 ^ l.length = S at *
    generalize ev l x = e at *
    have h1 : x * e ≤ 9 * S := by
      rcases Int.le_total 0 e with q | q
      · have := Int.mul_le_mul_of_nonneg_right hx.2 q; omega
      · have := Int.mul_le_mul_of_nonpos_right hx.1 q; omega
    have h2 : -(9 * S) ≤ x * e := by
      rcases Int.le_total 0 e with q | q
      · have := Int.mul_le_mul_of_nonneg_right hx.1 q; omega
      · have := Int.mul_le_mul_of_nonpos_right hx.2 q; omega
    omega
theorem bndT {p : Int} {l : List S43} (h : vldF p l = 0) {x : Int} (hx : -9 ≤ x ∧ x ≤ 9) (i : Nat) : -(2 ^ 62 : Int) ≤ ev ((termsV p l).drop i) x ∧ ev ((termsV p l).drop i) x ≤ 2 ^ 62 ∧ -(2 ^ 62 : Int) ≤ ev ((termsV p l).drop i) x * x ∧ ev ((termsV p l).drop i) x * x ≤ 2 ^ 62 := by
  obtain ⟨h1, h7, hv⟩ := vld_iff.1 h
  have hlen := vd_len hv (by omega)
  have hT := termsF_bound l.length p.toNat (toE l)
  have hTl := termsF_len l.length p.toNat (toE l)
  have hb := ev_bnd (M := 2 ^ 21) (by decide) hx ((termsV p l).drop i) (fun a ha => by
    have h2 := hT a (List.mem_of_mem_drop ha)
    have h3 : (2 ^ l.length : Int) ≤ 2 ^ 21 := by
      have : 2 ^ l.length ≤ 2 ^ 21 := Nat.pow_le_pow_right (by omega) hlen
      exact_mod_cast this
    omega)
  have hl8 : ((termsV p l).drop i).length ≤ 8 := by rw [List.length_drop]; unfold termsV; omega
  have hp : (10 ^ ((termsV p l).drop i).length : Int) ≤ 10 ^ 8 := by
    have : 10 ^ ((termsV p l).drop i).length ≤ 10 ^ 8 := Nat.pow_le_pow_right (by omega) hl8
    exact_mod_cast this
  have hm : (2 ^ 21 * 10 ^ ((termsV p l).drop i).length : Int) ≤ 2 ^ 21 * 10 ^ 8 := Int.mul_le_mul_of_nonneg_left hp (by decide)
  generalize (2 ^ 21 * 10 ^ ((termsV p l).drop i).length : Int) = S at *
  generalize ev ((termsV p l).drop i) x = e at *
  have e1 : e * x ≤ 9 * S := by
    rcases Int.le_total 0 e with q | q
    · have := Int.mul_le_mul_of_nonneg_left hx.2 q; omega
    · have := Int.mul_le_mul_of_nonpos_left q hx.1; omega
  have e2 : -(9 * S) ≤ e * x := by
    rcases Int.le_total 0 e with q | q
    · have := Int.mul_le_mul_of_nonneg_left hx.1 q; omega
    · have := Int.mul_le_mul_of_nonpos_left q hx.2; omega
  omega
theorem Ev_valT {p : Int} {l : List S43} (h : vldF p l = 0) {x : Int} (hx : -9 ≤ x ∧ x ≤ 9) : Ev (fun k => feud_value.f k (termsV p l) x) (ev (termsV p l) x) := by
  obtain ⟨h1, h7, hv⟩ := vld_iff.1 h
  have hTl := termsF_len l.length p.toNat (toE l)
  exact Ev_value (by unfold termsV; omega) fun i hi => bndT h hx i
theorem Ev_termsV {p : Int} {l : List S43} (h : vldF p l = 0) : Ev (fun k => feud_terms.f k p l) (termsV p l) := by
  obtain ⟨h1, h7, hv⟩ := vld_iff.1 h
  have hlen := vd_len hv (by omega)
  have := Ev_terms l.length p.toNat l hv (Nat.le_refl _) (by omega) (by omega)
  rwa [Int.toNat_of_nonneg (by omega)] at this
theorem Ev_Terms {p : Int} {l : List S43} (hl : l.length ≤ 1000) : Ev (fun k => feud_Terms.f k p l) (if vldF p l = 0 then (termsV p l, 0) else ([], vldF p l)) := by
  by_cases h : vldF p l = 0
  · rw [if_pos h]
    refine Ev.congr (f := fun k => (feud_terms.f k p l).bind fun t143 => some (t143, 0)) (fun k => ?_) (Ev.bind (Ev_termsV h) (Ev.now _))
    unfold feud_Terms.f feud_Validate.f
    rw [if_pos hl, Option.bind_some, if_pos h]
  · rw [if_neg h]
    refine Ev.congr (f := fun _ => some ([], vldF p l)) (fun k => ?_) (Ev.now _)
    unfold feud_Terms.f feud_Validate.f
    rw [if_pos hl, Option.bind_some, if_neg h]
theorem Ev_Count {p : Int} {l : List S43} (hl : l.length ≤ 1000) (x : Int) : Ev (fun k => feud_Count.f k p l x) (if vldF p l = 0 then (if 1 ≤ x ∧ x ≤ 9 then (ev (termsV p l) x, 0) else (0, 1)) else (0, vldF p l)) := by
  by_cases h : vldF p l = 0
  · rw [if_pos h]
    by_cases hx : 1 ≤ x ∧ x ≤ 9
    · rw [if_pos hx]
      refine Ev.congr (f := fun k => (feud_terms.f k p l).bind fun t149 => (feud_value.f k t149 x).bind fun t152 => some (t152, 0)) (fun k => ?_) (Ev.bind (Ev_termsV h) (Ev.bind (Ev_valT h (by omega)) (Ev.now _)))
      unfold feud_Count.f feud_Validate.f feud_isShelves.f
      rw [if_pos hl, Option.bind_some, if_pos h, if_pos (by omega), Option.bind_some, if_pos (by simp; omega)]
    · rw [if_neg hx]
      refine Ev.congr (f := fun _ => some (0, 1)) (fun k => ?_) (Ev.now _)
      unfold feud_Count.f feud_Validate.f feud_isShelves.f
      rw [if_pos hl, Option.bind_some, if_pos h]
      by_cases h1 : x ≥ 1
      · rw [if_pos h1, Option.bind_some, if_neg (by simp; omega)]
      · rw [if_neg h1, Option.bind_some, if_neg (by decide)]
  · rw [if_neg h]
    refine Ev.congr (f := fun _ => some (0, vldF p l)) (fun k => ?_) (Ev.now _)
    unfold feud_Count.f feud_Validate.f
    rw [if_pos hl, Option.bind_some, if_neg h]
def ordV (p : Int) (l : List S43) : Int := max (ev (termsV p l) (-1)) (-(ev (termsV p l) (-1)))
theorem ev_small {p : Int} {l : List S43} (h : vldF p l = 0) {x : Int} (hx : -9 ≤ x ∧ x ≤ 9) : -(2 ^ 62 : Int) ≤ ev (termsV p l) x ∧ ev (termsV p l) x ≤ 2 ^ 62 := by
  have := bndT h hx 0
  rw [List.drop_zero] at this
  omega
theorem Ev_Orders {p : Int} {l : List S43} (hl : l.length ≤ 1000) : Ev (fun k => feud_Orders.f k p l) (if vldF p l = 0 then (ordV p l, 0) else (0, vldF p l)) := by
  by_cases h : vldF p l = 0
  · rw [if_pos h]
    have hs := ev_small h (x := -1) (by omega)
    refine Ev.congr (f := fun k => (feud_terms.f k p l).bind fun t149 => (feud_value.f k t149 (-1)).bind fun t158 => some (mx t158 (wrap64 (-t158)), 0)) (fun k => ?_) (Ev.bind (Ev_termsV h) (Ev.bind (Ev_valT h (by omega)) (ev_cast (Ev.now (ordV p l, (0 : Int))) (fun k => ?_) rfl)))
    · unfold feud_Orders.f feud_Validate.f
      rw [if_pos hl, Option.bind_some, if_pos h]
    · rw [IntWalk.wrap64_in _ (by omega)]
      congr 2
      unfold mx ordV
      split <;> omega
  · rw [if_neg h]
    refine Ev.congr (f := fun _ => some (0, vldF p l)) (fun k => ?_) (Ev.now _)
    unfold feud_Orders.f feud_Validate.f
    rw [if_pos hl, Option.bind_some, if_neg h]
theorem Ev_same (l m : List Int) (hl : l.length ≤ 100000) : Ev (fun k => verditerref01_SameInts.f k l m) (decide (l = m)) := by
  by_cases hlen : l.length = m.length
  · have key : ∀ d i, i + d = l.length → l.take i = m.take i → Ev (fun k => verditerref01_SameInts.l0 k l m (i : Int)) (decide (l = m)) := by
      intro d
      induction d with
      | zero =>
        intro i hi ht
        have e : l = m := by
          rw [List.take_of_length_le (by omega), List.take_of_length_le (by omega)] at ht
          exact ht
        refine Ev.step (f := fun _ => some true) (fun k => ?_) (ev_cast (Ev.now true) (fun _ => rfl) (decide_eq_true e))
        rw [verditerref01_SameInts.l0, if_neg (by omega)]
      | succ d ih =>
        intro i hi ht
        have hw : wrap64 ((i : Int) + 1) = ((i + 1 : Nat) : Int) := by rw [IntWalk.wrap64_in _ (by omega)]; rfl
        have e1 : rd l (i : Int) = l.getD i 0 := by show l.getD (i : Int).toNat 0 = _; rw [Int.toNat_natCast]
        have e2 : rd m (i : Int) = m.getD i 0 := by show m.getD (i : Int).toNat 0 = _; rw [Int.toNat_natCast]
        by_cases he : l.getD i 0 = m.getD i 0
        · refine Ev.step (fun k => ?_) (ih (i + 1) (by omega) ?_)
          · rw [verditerref01_SameInts.l0, if_pos (by omega), if_pos (by omega), if_pos (by omega), e1, e2, if_pos he, hw]
          · have a1 : l.take (i + 1) = l.take i ++ [l[i]'(by omega)] := List.take_succ_eq_append_getElem (by omega)
            have a2 : m.take (i + 1) = m.take i ++ [m[i]'(by omega)] := List.take_succ_eq_append_getElem (by omega)
            rw [List.getD_eq_getElem?_getD, List.getD_eq_getElem?_getD, List.getElem?_eq_getElem (show i < l.length by omega), List.getElem?_eq_getElem (show i < m.length by omega)] at he
            have he2 : l[i]'(by omega) = m[i]'(by omega) := he
            rw [a1, a2, ht, he2]
        · refine Ev.step (f := fun _ => some false) (fun k => ?_) (ev_cast (Ev.now false) (fun _ => rfl) (decide_eq_false fun e => he (by rw [e])))
          rw [verditerref01_SameInts.l0, if_pos (by omega), if_pos (by omega), if_pos (by omega), e1, e2, if_neg he]
    refine ev_cast (key l.length 0 (by omega) (by simp)) (fun k => ?_) rfl
    unfold verditerref01_SameInts.f
    rw [if_pos (by omega)]
    rfl
  · refine ev_cast (Ev.now false) (fun k => ?_) (decide_eq_false fun e => hlen (by rw [e]))
    unfold verditerref01_SameInts.f
    rw [if_neg (by omega)]
def three : List S43 := [⟨0, 1⟩, ⟨0, 2⟩, ⟨1, 2⟩]
theorem three_vld : vldF 3 three = 0 := by decide
theorem three_terms : termsV 3 three = [0, 2, -3, 1] := by decide
theorem Ev_known : Ev (fun k => verditerlaw03_known.f k) true := by
  have h1 := Ev_Count (p := 3) (l := three) (by decide) 3
  have h2 := Ev_Terms (p := 3) (l := three) (by decide)
  have h3 := Ev_Orders (p := 3) (l := three) (by decide)
  rw [if_pos three_vld, if_pos (by decide), three_terms, show ev [0, 2, -3, 1] 3 = 6 by decide] at h1
  rw [if_pos three_vld, three_terms] at h2
  rw [if_pos three_vld, show ordV 3 three = 6 by unfold ordV; rw [three_terms]; decide] at h3
  refine Ev.congr (f := fun k => (feud_Count.f k 3 three 3).bind fun bt105 => (feud_Terms.f k 3 three).bind fun bt111 => (feud_Orders.f k 3 three).bind fun bt119 => (if bt105.2 = 0 then (if bt105.1 = 6 then (if bt111.2 = 0 then ((verditerref01_SameInts.f k bt111.1 (([0, 2, (-3), 1] : List Int))).bind fun t124 => (if t124 = true then (if bt119.2 = 0 then (some (bt119.1 == 6)) else (some false)) else (some false))) else (some false)) else (some false)) else (some false))) (fun k => rfl) (Ev.bind h1 (Ev.bind h2 (Ev.bind h3 ?_)))
  exact Ev.bind (Ev_same [0, 2, -3, 1] [0, 2, -3, 1] (by decide)) (Ev.now _)
end Go.Proofs.Ytpmjmhdofjbcbaa.H
