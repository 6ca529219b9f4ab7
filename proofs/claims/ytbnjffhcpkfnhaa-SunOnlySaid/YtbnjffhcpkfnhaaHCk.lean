/- CheckRow, in the code and in the document: an order in which each strip beats the next one. -/
import Derived.Test.YtbnjffhcpkfnhaaQE1
import Derived.Test.YtbnjffhcpkfnhaaHCh
import Derived.Test.YtbnjffhcpkfnhaaHO
namespace Go.Proofs.Ytbnjffhcpkfnhaa.H
open Classical Go.RowKit Go.Proofs.YtbnjffhcpkfnhaaW.PrintWords Go.Proofs.YtbnjffhcpkfnhaaW.PrintLast Go.Proofs.YtbnjffhcpkfnhaaW.PrintMore
set_option linter.unusedVariables false
set_option linter.unusedSimpArgs false
theorem rdE_nat (xs : List (List Int)) (i : Nat) : QE.rd_L1 xs (i : Int) = xs.getD i [] := by simp [QE.rd_L1]
theorem Ev_isChain {t : List (List Int)} (h : Right t) {p : List Int} (ho : Order t.length p) : Ev (fun k => QE.sun_isChain.l0 k t p 1) (if Chain t p then true else false) := by
  have hn := h.len
  have hl := ho.len
  have l0 : ∀ d i, i + 1 + d = p.length → Ev (fun k => QE.sun_isChain.l0 k t p ((i + 1 : Nat) : Int)) (if ∀ j, j + 1 < p.length → i ≤ j → ent t (p.getD j 0).toNat (p.getD (j + 1) 0).toNat = 1 then true else false) := by
    intro d
    induction d with
    | zero => intro i hi; rw [if_pos (fun j h1 h2 => by omega)]; exact Ev.step (fun k => by simp only [QE.sun_isChain.l0]; rw [if_neg (by omega)]) (Ev.now _)
    | succ d ih =>
      intro i hi
      have hx := ho.mem.1 (getD_mem (show i < p.length by omega))
      have hy := ho.mem.1 (getD_mem (show i + 1 < p.length by omega))
      obtain ⟨x, hxe⟩ := Int.eq_ofNat_of_zero_le hx.1
      obtain ⟨y, hye⟩ := Int.eq_ofNat_of_zero_le hy.1
      by_cases h1 : ent t x y = 0
      · rw [if_neg (fun hc => by have := hc i (by omega) (Nat.le_refl _); rw [hxe, hye, Int.toNat_natCast, Int.toNat_natCast] at this; omega)]
        refine Ev.step (fun k => ?_) (Ev.now _)
        simp only [QE.sun_isChain.l0]
        rw [wrap_small (x := ((i + 1 : Nat) : Int) - 1) (by omega) (by omega), show ((i + 1 : Nat) : Int) - 1 = (i : Int) by omega, rd_nat, rd_nat, hxe, hye, rdE_nat, rd_nat, h.row x (by omega)]
        rw [if_pos (by omega), if_pos (by omega), if_pos (by omega), if_pos (by omega), if_pos (by omega), if_pos (by omega), if_pos (by omega), if_pos (by omega), if_pos (by unfold ent at h1; omega)]
      · have hb := h.bit x y
        rw [show (∀ j, j + 1 < p.length → i ≤ j → ent t (p.getD j 0).toNat (p.getD (j + 1) 0).toNat = 1) = (∀ j, j + 1 < p.length → i + 1 ≤ j → ent t (p.getD j 0).toNat (p.getD (j + 1) 0).toNat = 1) from propext ⟨fun hc j a b => hc j a (by omega), fun hc j a b => by
          by_cases e : j = i
          · subst e; rw [hxe, hye, Int.toNat_natCast, Int.toNat_natCast]; omega
          · exact hc j a (by omega)⟩]
        refine Ev.step (fun k => ?_) (ih (i + 1) (by omega))
        simp only [QE.sun_isChain.l0]
        rw [wrap_small (x := ((i + 1 : Nat) : Int) - 1) (by omega) (by omega), show ((i + 1 : Nat) : Int) - 1 = (i : Int) by omega, rd_nat, rd_nat, hxe, hye, rdE_nat, rd_nat, h.row x (by omega)]
        rw [if_pos (by omega), if_pos (by omega), if_pos (by omega), if_pos (by omega), if_pos (by omega), if_pos (by omega), if_pos (by omega), if_pos (by omega), if_neg (by unfold ent at h1; omega), wrap_nat (n := p.length) (by omega) (by omega)]
  by_cases hp : p.length = 0
  · rw [if_pos (show Chain t p from fun i hi => by omega)]
    exact Ev.step (fun k => by simp only [QE.sun_isChain.l0]; rw [if_neg (by omega)]) (Ev.now _)
  · have := l0 (p.length - 1) 0 (by omega)
    rw [show (∀ j, j + 1 < p.length → 0 ≤ j → ent t (p.getD j 0).toNat (p.getD (j + 1) 0).toNat = 1) = Chain t p from propext ⟨fun hc j a => hc j a (by omega), fun hc j a _ => hc j a⟩] at this
    exact this
theorem Ev_refChain {t : List (List Int)} (h : Right t) {p : List Int} (ho : Order t.length p) : Ev (fun k => QE.verditerref05_CheckRow.l0 k t p 1) (if Chain t p then 0 else 7) := by
  have hn := h.len
  have hl := ho.len
  have l0 : ∀ d i, i + 1 + d = p.length → Ev (fun k => QE.verditerref05_CheckRow.l0 k t p ((i + 1 : Nat) : Int)) (if ∀ j, j + 1 < p.length → i ≤ j → ent t (p.getD j 0).toNat (p.getD (j + 1) 0).toNat = 1 then 0 else 7) := by
    intro d
    induction d with
    | zero => intro i hi; rw [if_pos (fun j h1 h2 => by omega)]; exact Ev.step (fun k => by simp only [QE.verditerref05_CheckRow.l0]; rw [if_neg (by omega)]) (Ev.now _)
    | succ d ih =>
      intro i hi
      have hx := ho.mem.1 (getD_mem (show i < p.length by omega))
      have hy := ho.mem.1 (getD_mem (show i + 1 < p.length by omega))
      obtain ⟨x, hxe⟩ := Int.eq_ofNat_of_zero_le hx.1
      obtain ⟨y, hye⟩ := Int.eq_ofNat_of_zero_le hy.1
      by_cases h1 : ent t x y = 0
      · rw [if_neg (fun hc => by have := hc i (by omega) (Nat.le_refl _); rw [hxe, hye, Int.toNat_natCast, Int.toNat_natCast] at this; omega)]
        refine Ev.step (fun k => ?_) (Ev.now _)
        simp only [QE.verditerref05_CheckRow.l0]
        rw [wrap_small (x := ((i + 1 : Nat) : Int) - 1) (by omega) (by omega), show ((i + 1 : Nat) : Int) - 1 = (i : Int) by omega, rd_nat, rd_nat, hxe, hye, rdE_nat, rd_nat, h.row x (by omega)]
        rw [if_pos (by omega), if_pos (by omega), if_pos (by omega), if_pos (by omega), if_pos (by omega), if_pos (by omega), if_pos (by omega), if_pos (by omega), if_pos (by unfold ent at h1; omega)]
      · have hb := h.bit x y
        rw [show (∀ j, j + 1 < p.length → i ≤ j → ent t (p.getD j 0).toNat (p.getD (j + 1) 0).toNat = 1) = (∀ j, j + 1 < p.length → i + 1 ≤ j → ent t (p.getD j 0).toNat (p.getD (j + 1) 0).toNat = 1) from propext ⟨fun hc j a b => hc j a (by omega), fun hc j a b => by
          by_cases e : j = i
          · subst e; rw [hxe, hye, Int.toNat_natCast, Int.toNat_natCast]; omega
          · exact hc j a (by omega)⟩]
        refine Ev.step (fun k => ?_) (ih (i + 1) (by omega))
        simp only [QE.verditerref05_CheckRow.l0]
        rw [wrap_small (x := ((i + 1 : Nat) : Int) - 1) (by omega) (by omega), show ((i + 1 : Nat) : Int) - 1 = (i : Int) by omega, rd_nat, rd_nat, hxe, hye, rdE_nat, rd_nat, h.row x (by omega)]
        rw [if_pos (by omega), if_pos (by omega), if_pos (by omega), if_pos (by omega), if_pos (by omega), if_pos (by omega), if_pos (by omega), if_pos (by omega), if_neg (by unfold ent at h1; omega), wrap_nat (n := p.length) (by omega) (by omega)]
  by_cases hp : p.length = 0
  · rw [if_pos (show Chain t p from fun i hi => by omega)]
    exact Ev.step (fun k => by simp only [QE.verditerref05_CheckRow.l0]; rw [if_neg (by omega)]) (Ev.now _)
  · have := l0 (p.length - 1) 0 (by omega)
    rw [show (∀ j, j + 1 < p.length → 0 ≤ j → ent t (p.getD j 0).toNat (p.getD (j + 1) 0).toNat = 1) = Chain t p from propext ⟨fun hc j a => hc j a (by omega), fun hc j a _ => hc j a⟩] at this
    exact this

noncomputable def checkV (t : List (List Int)) (p : List Int) : Int := if ordV t p = 0 then (if Chain t p then 0 else 7) else ordV t p
theorem Ev_sunCheck (t : List (List Int)) (p : List Int) : Ev (fun k => QE.sun_CheckRow.f k t p) (checkV t p) := by
  unfold QE.sun_CheckRow.f checkV
  refine Ev.congr (f := fun k => if ordV t p = 0 then ((QE.sun_isChain.f k t p).bind fun t106 => if t106 = true then some (0 : Int) else some 7) else some (ordV t p)) (fun k => by rw [sunOrdered_eq, Option.bind_some]) ?_
  by_cases h0 : ordV t p = 0
  · obtain ⟨he, hO⟩ := ordV_yes h0
    refine Ev.congr (fun k => if_pos h0) ?_
    rw [if_pos h0]
    refine Ev.bind (Ev_isChain (Right.of he) hO) ?_
    by_cases hc : Chain t p
    · rw [if_pos hc, if_pos hc]; exact Ev.now _
    · rw [if_neg hc, if_neg hc]; exact Ev.now _
  · refine Ev.congr (fun k => if_neg h0) ?_
    rw [if_neg h0]
    exact Ev.now _
theorem Ev_refCheck (t : List (List Int)) (p : List Int) : Ev (fun k => QE.verditerref05_CheckRow.f k t p) (checkV t p) := by
  unfold QE.verditerref05_CheckRow.f checkV
  refine Ev.bind (Ev_refOrdered t p) ?_
  by_cases h0 : ordV t p = 0
  · obtain ⟨he, hO⟩ := ordV_yes h0
    refine Ev.congr (fun k => if_pos h0) ?_
    rw [if_pos h0]
    exact Ev_refChain (Right.of he) hO
  · refine Ev.congr (fun k => if_neg h0) ?_
    rw [if_neg h0]
    exact Ev.now _
theorem checkV_row {t : List (List Int)} (he : errV t = 0) : checkV t (rowL t) = 0 := by
  unfold checkV
  rw [if_pos (show ordV t (rowL t) = 0 from ordV_of he (rowTo_order t t.length)), if_pos (show Chain t (rowL t) from rowTo_chain (Right.of he) t.length (Nat.le_refl _))]
theorem checkV_yes {t : List (List Int)} {p : List Int} (h : checkV t p = 0) : errV t = 0 ∧ Order t.length p ∧ Chain t p := by
  unfold checkV at h
  by_cases h0 : ordV t p = 0
  · rw [if_pos h0] at h
    obtain ⟨he, hO⟩ := ordV_yes h0
    by_cases hc : Chain t p
    · exact ⟨he, hO, hc⟩
    · rw [if_neg hc] at h; cases h
  · rw [if_neg h0] at h; exact absurd h h0
end Go.Proofs.Ytbnjffhcpkfnhaa.H
