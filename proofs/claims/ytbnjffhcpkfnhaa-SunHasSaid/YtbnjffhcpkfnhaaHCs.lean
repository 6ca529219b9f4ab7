/- CanWin, in the code and in the document. -/
import Derived.Test.YtbnjffhcpkfnhaaQN2
import Derived.Test.YtbnjffhcpkfnhaaHCr
namespace Go.Proofs.Ytbnjffhcpkfnhaa.H
open Go.RowKit Go.Proofs.YtbnjffhcpkfnhaaW.PrintWords Go.Proofs.YtbnjffhcpkfnhaaW.PrintLast Go.Proofs.YtbnjffhcpkfnhaaW.PrintMore
set_option linter.unusedVariables false
set_option linter.unusedSimpArgs false
def canV (l : List Int) : Bool × Int := (if winsV l = 0 then canWinB l else false, winsV l)
theorem sunCanWin_eq (l : List Int) : QN.sun_CanWin.f l = some (canV l) := by
  unfold QN.sun_CanWin.f sun_isWins.f sun_canWin.f canV
  rw [Option.bind_some]
  by_cases h : winsV l = 0
  · rw [if_pos h, if_pos h, if_pos h, Option.bind_some, h]
  · rw [if_neg h, if_neg h]
theorem asc_bound {l : List Int} (h : winsV l = 0) (k : Nat) : ∀ x ∈ (ascL l).take k, 0 ≤ x ∧ x ≤ 7 := fun x hx => (winsV_ok h).2.2 x (asc_mem.1 (List.mem_of_mem_take hx))
theorem ref_l1 {l : List Int} (h : winsV l = 0) : ∀ d k, k + d = l.length + 1 → (∀ j, j < k → (j : Int) * ((j : Int) - 1) ≤ 2 * preS l j) → Ev (fun f => QN.verditerref05_CanWin.l1 f (ascL l) (k : Int)) (canWinB l, 0) := by
  obtain ⟨h1, h7, hb⟩ := winsV_ok h
  have hal := ascL_len l
  intro d
  induction d with
  | zero =>
    intro k hk hj
    obtain rfl : k = l.length + 1 := by omega
    have hs : (ascL l).sum = l.sum := sum_perm (List.mergeSort_perm l _)
    refine Ev.step (f := fun f => (QN.verditerref01_Sum.f f (ascL l)).bind fun t127 => (some ((t127 == (wrap64 (Int.tdiv (wrap64 (((ascL l).length : Int) * (wrap64 (((ascL l).length : Int) - 1)))) 2))), (0 : Int)))) (fun f => ?_) (Ev.bind (Ev_Sum (ascL l) (by omega) (fun x hx => hb x (asc_mem.1 hx))) ?_)
    · simp only [QN.verditerref05_CanWin.l1]
      rw [if_neg (by omega)]
    · refine Ev.congr (fun f => ?_) (Ev.now _)
      have ha := all_num l.length h7
      rw [hal, wrap_small (x := (l.length : Int) - 1) (by omega) (by omega), hs]
      congr 2
      rw [Bool.eq_iff_iff, beq_iff_eq, canWinB_iff h]
      constructor
      · intro e
        refine ⟨fun k hk => ?_, by omega⟩
        have := hj (k + 1) (by omega)
        rw [show ((k + 1 : Nat) : Int) - 1 = (k : Int) by omega, Int.mul_comm, show ((k + 1 : Nat) : Int) = (k : Int) + 1 by omega] at this
        exact this
      · rintro ⟨_, e⟩
        omega
  | succ d ih =>
    intro k hk hj
    have hpr : ((ascL l).take k).sum = preS l k := rfl
    have hlen : ((ascL l).take k).length ≤ 7 := by rw [List.length_take]; omega
    have hnum : 2 * wrap64 (Int.tdiv (wrap64 ((k : Int) * wrap64 ((k : Int) - 1))) 2) = (k : Int) * ((k : Int) - 1) := by
      rw [wrap_small (x := (k : Int) - 1) (by omega) (by omega)]
      exact all_num k (by omega)
    refine Ev.step (f := fun f => (QN.verditerref01_Sum.f f ((ascL l).take k)).bind fun t126 => (if t126 < (wrap64 (Int.tdiv (wrap64 ((k : Int) * (wrap64 ((k : Int) - 1)))) 2)) then (some (false, (0 : Int))) else (QN.verditerref05_CanWin.l1 f (ascL l) (wrap64 ((k : Int) + 1))))) (fun f => ?_) (Ev.bind (Ev_Sum ((ascL l).take k) hlen (asc_bound h k)) ?_)
    · simp only [QN.verditerref05_CanWin.l1]
      rw [if_pos (by omega), if_pos (by omega), Int.toNat_natCast]
    · rw [hpr]
      by_cases hlt : preS l k < wrap64 (Int.tdiv (wrap64 ((k : Int) * wrap64 ((k : Int) - 1))) 2)
      · have hf : canWinB l = false := by
          clear ih
          generalize wrap64 (Int.tdiv (wrap64 ((k : Int) * wrap64 ((k : Int) - 1))) 2) = W at hnum hlt
          cases e : canWinB l with
          | false => rfl
          | true =>
            exfalso
            obtain ⟨h2, _⟩ := (canWinB_iff h).1 e
            by_cases k0 : k = 0
            · subst k0
              have h3 : preS l 0 = 0 := by simp [preS]
              rw [h3] at hlt
              have h4 : ((0 : Nat) : Int) * (((0 : Nat) : Int) - 1) = 0 := by simp
              rw [h4] at hnum
              omega
            · have h3 := h2 (k - 1) (by omega)
              rw [show ((k - 1 : Nat) : Int) = (k : Int) - 1 by omega, show (k : Int) - 1 + 1 = k by omega, show k - 1 + 1 = k by omega, Int.mul_comm] at h3
              generalize (k : Int) * ((k : Int) - 1) = P at *
              omega
        rw [hf]
        exact Ev.congr (fun f => if_pos hlt) (Ev.now _)
      · refine Ev.congr (fun f => ?_) (ih (k + 1) (by omega) (fun j hj2 => ?_))
        · rw [if_neg hlt, wrap_small (by omega) (by omega)]
          rfl
        · by_cases e : j = k
          · subst e; omega
          · exact hj j (by omega)
theorem Ev_refCanWin (l : List Int) (hl : l.length ≤ 1000) : Ev (fun f => QN.verditerref05_CanWin.f f l) (canV l) := by
  unfold QN.verditerref05_CanWin.f QO.verditerref01_Within.f
  by_cases h1 : l.length < 1 ∨ 7 < l.length
  · have hv : winsV l = 3 := by unfold winsV; rw [if_pos h1]
    refine Ev.congr (f := fun _ => some (false, (3 : Int))) (fun f => ?_) (by rw [show canV l = (false, 3) by unfold canV; rw [hv]; rfl]; exact Ev.now _)
    by_cases h2 : l.length < 1
    · rw [if_neg (by omega), Option.bind_some, if_neg (by simp)]
    · rw [if_pos (by omega), Option.bind_some, decide_eq_false (by omega), if_neg (by simp)]
  · refine Ev.congr (f := fun f => QN.verditerref05_CanWin.l0 f l ((0 : Nat) : Int)) (fun f => by rw [if_pos (by omega), Option.bind_some, decide_eq_true (by omega), if_pos rfl]; rfl) ?_
    have l0 : ∀ d i, i + d = l.length → (∀ j, j < i → 0 ≤ l.getD j 0 ∧ l.getD j 0 ≤ 7) → Ev (fun f => QN.verditerref05_CanWin.l0 f l (i : Int)) (canV l) := by
      intro d
      induction d with
      | zero =>
        intro i hi hj
        obtain rfl : i = l.length := by omega
        have hv : winsV l = 0 := by
          unfold winsV
          rw [if_neg h1, if_neg (fun ha => by
            obtain ⟨x, hx, hd⟩ := List.any_eq_true.1 ha
            have hd := of_decide_eq_true hd
            obtain ⟨j, hj2, e⟩ := List.getElem_of_mem hx
            have := hj j hj2
            rw [List.getD_eq_getElem?_getD, List.getElem?_eq_getElem hj2, Option.getD_some, e] at this
            omega)]
        refine Ev.step (f := fun f => (QN.verditerref05_sorted.f f l).bind fun t119 => QN.verditerref05_CanWin.l1 f t119 ((0 : Nat) : Int)) (fun f => ?_) (Ev.bind (Ev_sorted (by omega)) ?_)
        · simp only [QN.verditerref05_CanWin.l0]
          rw [if_neg (by omega)]
          rfl
        · have := ref_l1 hv (l.length + 1) 0 (by omega) (fun j hj => absurd hj (by omega))
          rw [show canV l = (canWinB l, 0) by unfold canV; rw [if_pos hv, hv]]
          exact this
      | succ d ih =>
        intro i hi hj
        by_cases hx : 0 ≤ l.getD i 0 ∧ l.getD i 0 ≤ 7
        · refine Ev.step (fun f => ?_) (ih (i + 1) (by omega) (fun j hj2 => by
            by_cases e : j = i
            · subst e; exact hx
            · exact hj j (by omega)))
          simp only [QN.verditerref05_CanWin.l0, QO.verditerref01_Within.f]
          rw [if_pos (by omega), if_pos (by omega), rd_nat, if_pos (by omega), Option.bind_some, decide_eq_true hx.2, if_pos rfl, wrap_nat (n := l.length) (by omega) (by omega)]
        · have hv : winsV l = 1 := by
            unfold winsV
            rw [if_neg h1, if_pos (List.any_eq_true.2 ⟨l.getD i 0, getD_mem (by omega), decide_eq_true (by omega)⟩)]
          rw [show canV l = (false, 1) by unfold canV; rw [hv]; rfl]
          refine Ev.step (fun f => ?_) (Ev.now _)
          simp only [QN.verditerref05_CanWin.l0, QO.verditerref01_Within.f]
          rw [if_pos (by omega), if_pos (by omega), rd_nat]
          by_cases h2 : l.getD i 0 ≥ 0
          · rw [if_pos h2, Option.bind_some, decide_eq_false (by omega), if_neg (by simp)]
          · rw [if_neg h2, Option.bind_some, if_neg (by simp)]
    exact l0 l.length 0 (by omega) (fun j hj => absurd hj (by omega))
end Go.Proofs.Ytbnjffhcpkfnhaa.H
