/- Orders and upsets, as both sides count them. -/
import Derived.Test.YtbnjffhcpkfnhaaQO1
import Derived.Test.YtbnjffhcpkfnhaaHM
namespace Go.Proofs.Ytbnjffhcpkfnhaa.H
open Go.RowKit Go.Proofs.YtbnjffhcpkfnhaaW.PrintWords Go.Proofs.YtbnjffhcpkfnhaaW.PrintLast Go.Proofs.YtbnjffhcpkfnhaaW.PrintMore
set_option linter.unusedVariables false

theorem rdO_nat (xs : List (List Int)) (i : Nat) : QO.rd_L1 xs (i : Int) = xs.getD i [] := by simp [QO.rd_L1]
theorem getD_mem {l : List Int} {i : Nat} (h : i < l.length) : l.getD i 0 ∈ l := by
  rw [List.getD_eq_getElem?_getD, List.getElem?_eq_getElem h]; exact List.getElem_mem h

theorem Ev_isOrder (l : List Int) (n : Nat) (h7 : n ≤ 7) : Ev (fun k => QO.verditerref01_IsOrder.f k l (n : Int)) (isOrd l n) := by
  by_cases hl : l.length = n
  · subst hl
    have hno : ¬ Order l.length l → isOrd l l.length = false := fun h => by
      cases e : isOrd l l.length with
      | false => rfl
      | true => exact absurd ((isOrd_order l l.length).1 e) h
    have l0 : ∀ d i, i + d = l.length → (∀ a, a < i → 0 ≤ l.getD a 0 ∧ l.getD a 0 < (l.length : Int)) → (∀ b, b < i → ∀ a, a < b → l.getD a 0 ≠ l.getD b 0) → Ev (fun k => QO.verditerref01_IsOrder.l0 k l (l.length : Int) (i : Int)) (isOrd l l.length) := by
      intro d
      induction d with
      | zero =>
        intro i hi h1 h2
        have hO : Order l.length l := by
          refine Order.of_valid ?_ rfl (fun x hx => ?_)
          · unfold List.Nodup
            rw [List.pairwise_iff_getElem]
            intro a b ha hb hab
            have := h2 b (by omega) a hab
            rw [List.getD_eq_getElem?_getD, List.getElem?_eq_getElem ha, List.getD_eq_getElem?_getD, List.getElem?_eq_getElem hb] at this
            exact this
          · obtain ⟨a, ha, rfl⟩ := List.getElem_of_mem hx
            have := h1 a (by omega)
            rw [List.getD_eq_getElem?_getD, List.getElem?_eq_getElem ha] at this
            exact this
        rw [(isOrd_order l l.length).2 hO]
        exact Ev.step (fun k => by simp only [QO.verditerref01_IsOrder.l0]; rw [if_neg (by omega)]) (Ev.now _)
      | succ d ih =>
        intro i hi h1 h2
        have hi' : i < l.length := by omega
        by_cases hw : 0 ≤ l.getD i 0 ∧ l.getD i 0 < (l.length : Int)
        · have l1 : ∀ e j, j + e = i → (∀ a, a < j → l.getD a 0 ≠ l.getD i 0) → Ev (fun k => QO.verditerref01_IsOrder.l1 k l (l.length : Int) (i : Int) (j : Int)) (isOrd l l.length) := by
            intro e
            induction e with
            | zero =>
              intro j hj h3
              obtain rfl : j = i := by omega
              refine Ev.step (fun k => ?_) (ih (j + 1) (by omega) (fun a ha => ?_) (fun b hb a hab => ?_))
              · simp only [QO.verditerref01_IsOrder.l1]
                rw [if_neg (by omega), wrap_nat (n := l.length) hi' (by omega)]
              · by_cases e : a = j
                · subst e; exact hw
                · exact h1 a (by omega)
              · by_cases e : b = j
                · subst e; exact h3 a hab
                · exact h2 b (by omega) a hab
            | succ e ih2 =>
              intro j hj h3
              by_cases he : l.getD j 0 = l.getD i 0
              · rw [hno (fun hO => by
                  have := hO.nodup
                  unfold List.Nodup at this
                  rw [List.pairwise_iff_getElem] at this
                  have := this j i (by omega) hi' (by omega)
                  rw [List.getD_eq_getElem?_getD, List.getElem?_eq_getElem (by omega), List.getD_eq_getElem?_getD, List.getElem?_eq_getElem hi'] at he
                  exact this he)]
                refine Ev.step (fun k => ?_) (Ev.now _)
                simp only [QO.verditerref01_IsOrder.l1]
                rw [if_pos (by omega), if_pos (by omega), if_pos (by omega), if_pos (by omega), if_pos (by omega), rd_nat, rd_nat, if_pos he]
              · refine Ev.step (fun k => ?_) (ih2 (j + 1) (by omega) (fun a ha => ?_))
                · simp only [QO.verditerref01_IsOrder.l1]
                  rw [if_pos (by omega), if_pos (by omega), if_pos (by omega), if_pos (by omega), if_pos (by omega), rd_nat, rd_nat, if_neg he, wrap_nat (n := l.length) (by omega) (by omega)]
                · by_cases e2 : a = j
                  · subst e2; exact he
                  · exact h3 a (by omega)
          refine Ev.step (f := fun k => QO.verditerref01_IsOrder.l1 k l (l.length : Int) (i : Int) ((0 : Nat) : Int)) (fun k => ?_) (l1 i 0 (by omega) (fun a ha => absurd ha (by omega)))
          simp only [QO.verditerref01_IsOrder.l0, QO.verditerref01_Within.f]
          rw [if_pos (by omega), if_pos (by omega), if_pos (by omega), rd_nat, if_pos hw.1, Option.bind_some, wrap_small (by omega) (by omega), if_pos (decide_eq_true (by omega))]
          rfl
        · rw [hno (fun hO => hw (hO.mem.1 (getD_mem hi')))]
          refine Ev.step (fun k => ?_) (Ev.now _)
          simp only [QO.verditerref01_IsOrder.l0, QO.verditerref01_Within.f]
          rw [if_pos (by omega), if_pos (by omega), if_pos (by omega), rd_nat]
          by_cases h0 : l.getD i 0 ≥ 0
          · rw [if_pos h0, Option.bind_some, wrap_small (by omega) (by omega), if_neg (by rw [decide_eq_true_eq]; omega)]
          · rw [if_neg h0, Option.bind_some, if_neg (by simp)]
    refine Ev.congr (fun k => ?_) (l0 l.length 0 (by omega) (fun a ha => absurd ha (by omega)) (fun b hb => absurd hb (by omega)))
    simp only [QO.verditerref01_IsOrder.f]
    rw [if_pos trivial]
    rfl
  · have : isOrd l n = false := by unfold isOrd; rw [decide_eq_false (by omega)]; rfl
    rw [this]
    refine Ev.congr (fun k => ?_) (Ev.now _)
    simp only [QO.verditerref01_IsOrder.f]
    rw [if_neg (by omega)]

def ordV (t : List (List Int)) (l : List Int) : Int := if errV t = 0 then (if isOrd l t.length = true then 0 else 1) else errV t
theorem Ev_refOrdered (t : List (List Int)) (l : List Int) : Ev (fun k => QO.verditerref05_ordered.f k t l) (ordV t l) := by
  unfold ordV
  by_cases he : errV t = 0
  · rw [if_pos he]
    refine Ev.congr (f := fun k => (QO.verditerref01_IsOrder.f k l (t.length : Int)).bind fun b => if b = true then some (0 : Int) else some 1) (fun k => ?_) (Ev.bind (Ev_isOrder l t.length (errV_len he)) ?_)
    · simp only [QO.verditerref05_ordered.f, verditerref05_Validate.f, Option.bind_some]
      rw [if_pos he]
    · refine Ev.congr (fun k => ?_) (Ev.now _)
      split <;> rfl
  · rw [if_neg he]
    refine Ev.congr (fun k => ?_) (Ev.now _)
    simp only [QO.verditerref05_ordered.f, verditerref05_Validate.f, Option.bind_some]
    rw [if_neg he]
theorem sunOrdered_eq (t : List (List Int)) (l : List Int) : QO.sun_ordered.f t l = some (ordV t l) := by
  simp only [QO.sun_ordered.f, sun_Validate.f, sun_isOrder.f, Option.bind_some, ordV]
  by_cases he : errV t = 0
  · rw [if_pos he, if_pos he]; split <;> rfl
  · rw [if_neg he, if_neg he]
theorem ordV_yes {t : List (List Int)} {l : List Int} (h : ordV t l = 0) : errV t = 0 ∧ Order t.length l := by
  unfold ordV at h
  by_cases he : errV t = 0
  · rw [if_pos he] at h
    refine ⟨he, (isOrd_order l t.length).1 ?_⟩
    by_cases hb : isOrd l t.length = true
    · exact hb
    · rw [if_neg hb] at h; cases h
  · rw [if_neg he] at h; exact absurd h he
theorem ordV_of {t : List (List Int)} {l : List Int} (he : errV t = 0) (h : Order t.length l) : ordV t l = 0 := by
  unfold ordV
  rw [if_pos he, if_pos ((isOrd_order l t.length).2 h)]
theorem Order.inTab {t : List (List Int)} {l : List Int} (h : Order t.length l) (he : errV t = 0) : inTab t l = true :=
  inTab_iff.2 ⟨he, by rw [h.len]; exact errV_len he, fun x hx => h.mem.1 hx⟩
theorem sunUpsets_yes {t : List (List Int)} {l : List Int} (he : errV t = 0) (h : Order t.length l) : QO.sun_Upsets.f t l = some (ups t l, 0) := by
  simp only [QO.sun_Upsets.f, sunOrdered_eq, Option.bind_some, ordV_of he h, if_pos, sun_upsets.f, h.inTab he, upsS_eq]
theorem sunUpsets_no {t : List (List Int)} {l : List Int} (h : ordV t l ≠ 0) : QO.sun_Upsets.f t l = some (0, ordV t l) := by
  simp only [QO.sun_Upsets.f, sunOrdered_eq, Option.bind_some]
  rw [if_neg h]
theorem Ev_refups {t : List (List Int)} (h : Right t) {l : List Int} (hl : l.length ≤ 7) (hm : ∀ x ∈ l, 0 ≤ x ∧ x < (t.length : Int)) : Ev (fun k => QO.verditerref05_upsets.f k t l) (ups t l) := by
  have l0 : ∀ d i, i + d = l.length → Ev (fun k => QO.verditerref05_upsets.l0 k t l (upTo t l i) (i : Int)) (upsS t l) := by
    intro d
    induction d with
    | zero =>
      intro i hi
      obtain rfl : i = l.length := by omega
      exact Ev.step (fun k => by simp only [QO.verditerref05_upsets.l0]; rw [if_neg (by omega)]; rfl) (Ev.now _)
    | succ d ih =>
      intro i hi
      have hi' : i < l.length := by omega
      have hx := hm _ (getD_mem hi')
      obtain ⟨x, hxe⟩ := Int.eq_ofNat_of_zero_le hx.1
      have hbi := upTo_bound h l i (by omega)
      have l1 : ∀ e j, j + e = i → Ev (fun k => QO.verditerref05_upsets.l1 k t l (upTo t l i + upRow t l i j) (i : Int) (j : Int)) (upsS t l) := by
        intro e
        induction e with
        | zero =>
          intro j hj
          obtain rfl : j = i := by omega
          refine Ev.step (fun k => ?_) (ih (j + 1) (by omega))
          simp only [QO.verditerref05_upsets.l1]
          rw [if_neg (by omega), wrap_nat (n := l.length) hi' (by omega)]
          rfl
        | succ e ih2 =>
          intro j hj
          have hy := hm _ (getD_mem (show j < l.length by omega))
          obtain ⟨y, hye⟩ := Int.eq_ofNat_of_zero_le hy.1
          have hbj := upRow_bound h l i j (by omega)
          refine Ev.step (fun k => ?_) (ih2 (j + 1) (by omega))
          simp only [QO.verditerref05_upsets.l1]
          rw [if_pos (by omega), if_pos (by omega), if_pos (by omega), rd_nat, rd_nat, hxe, hye, rdO_nat, rd_nat, h.row x (by omega), if_pos (by omega), if_pos (by omega), if_pos (by omega), if_pos (by omega), if_pos (by omega), if_pos (by omega), wrap_nat (n := l.length) (by omega) (by omega)]
          have hb := h.bit x y
          unfold ent at hb
          rw [wrap_small (by rcases hb with e | e <;> rw [e] <;> omega) (by rcases hb with e | e <;> rw [e] <;> omega)]
          have hstep : upRow t l i (j + 1) = upRow t l i j + (t.getD x []).getD y 0 := by
            show upRow t l i j + ent t (l.getD i 0).toNat (l.getD j 0).toNat = _
            rw [hxe, hye, Int.toNat_natCast, Int.toNat_natCast]
            rfl
          rw [hstep, Int.add_assoc]
      refine Ev.step (f := fun k => QO.verditerref05_upsets.l1 k t l (upTo t l i + upRow t l i 0) (i : Int) ((0 : Nat) : Int)) (fun k => ?_) (l1 i 0 (by omega))
      simp only [QO.verditerref05_upsets.l0]
      rw [if_pos (by omega), show upRow t l i 0 = 0 from rfl, Int.add_zero]
      rfl
  rw [← upsS_eq]
  exact Ev.congr (fun k => rfl) (l0 l.length 0 (by omega))
theorem Ev_refUpsets_yes {t : List (List Int)} {l : List Int} (he : errV t = 0) (h : Order t.length l) : Ev (fun k => QO.verditerref05_Upsets.f k t l) (ups t l, 0) := by
  unfold QO.verditerref05_Upsets.f
  refine Ev.bind (Ev_refOrdered t l) ?_
  rw [ordV_of he h]
  refine Ev.congr (fun k => if_pos rfl) (Ev.bind (Ev_refups (Right.of he) (by rw [h.len]; exact errV_len he) (fun x hx => h.mem.1 hx)) (Ev.now _))
theorem Ev_refUpsets_no {t : List (List Int)} {l : List Int} (h : ordV t l ≠ 0) : Ev (fun k => QO.verditerref05_Upsets.f k t l) (0, ordV t l) := by
  unfold QO.verditerref05_Upsets.f
  exact Ev.bind (Ev_refOrdered t l) (Ev.congr (fun k => if_neg h) (Ev.now _))
theorem sunFewest_yes {t : List (List Int)} (he : errV t = 0) : QA.sun_Fewest.f t = some ((rankS t).2, 0) := by
  simp only [QA.sun_Fewest.f, sun_Validate.f, sun_ranking.f, Option.bind_some, he, if_pos]
theorem sunFewest_no {t : List (List Int)} (he : errV t ≠ 0) : QA.sun_Fewest.f t = some (0, errV t) := by
  simp only [QA.sun_Fewest.f, sun_Validate.f, Option.bind_some]
  rw [if_neg he]
theorem ups_le {t : List (List Int)} (h : Right t) {l : List Int} (hl : l.length ≤ 7) : ups t l ≤ 49 := by
  rw [← upsS_eq]
  exact (upTo_bound h l l.length hl).2
end Go.Proofs.Ytbnjffhcpkfnhaa.H
