/- sun.isWins, sun.canWin: lists of wins that can be won. -/
import Derived.Test.YtbnjffhcpkfnhaaHSo
import Derived.Test.YtbnjffhcpkfnhaaHLd
namespace Go.Proofs.Ytbnjffhcpkfnhaa.H
open Go.RowKit Go.Shelf Go.Proofs.YtbnjffhcpkfnhaaW.PrintWords Go.Proofs.YtbnjffhcpkfnhaaW.PrintLast Go.Proofs.YtbnjffhcpkfnhaaW.PrintMore
set_option linter.unusedVariables false
set_option linter.unusedSimpArgs false
theorem isWins_1.calls (x : Int) (w : World) :
    Calls Try.prog 119 #[.int .i64 x] w fun e w' => e = .returned (.bool (decide (x < 0 ∨ 7 < x))) ∧ ∃ q, w' = w.drewN q := by
  by_cases h0 : x < 0
  · have e0 : decide (x < 0) = true := decide_eq_true h0
    have e1 : decide (x < 0 ∨ 7 < x) = true := decide_eq_true (.inl h0)
    rw [e1]
    clear h0 e1
    go_enter Try.func119, Try.ntmps119
    go_wp2
    repeat (go_quiet (fail); try go_wp2)
    go_ret
    exact ⟨rfl, 0, rfl⟩
  · by_cases h1 : 7 < x
    · have e0 : decide (x < 0) = false := decide_eq_false h0
      have e1 : decide (7 < x) = true := decide_eq_true h1
      have e2 : decide (x < 0 ∨ 7 < x) = true := decide_eq_true (.inr h1)
      rw [e2]
      clear h0 h1 e2
      go_enter Try.func119, Try.ntmps119
      go_wp2
      repeat (go_quiet (fail); try go_wp2)
      go_ret
      exact ⟨rfl, 0, rfl⟩
    · have e0 : decide (x < 0) = false := decide_eq_false h0
      have e1 : decide (7 < x) = false := decide_eq_false h1
      have e2 : decide (x < 0 ∨ 7 < x) = false := decide_eq_false (by omega)
      rw [e2]
      clear h0 h1 e2
      go_enter Try.func119, Try.ntmps119
      go_wp2
      repeat (go_quiet (fail); try go_wp2)
      go_ret
      exact ⟨rfl, 0, rfl⟩
/-- The error of a list of wins. -/
def winsV (l : List Int) : Int := if l.length < 1 ∨ 7 < l.length then 3 else if l.any (fun x => decide (x < 0 ∨ 7 < x)) = true then 1 else 0
def sun_isWins.f (l0 : List Int) : Option Int := some (winsV l0)
set_option maxHeartbeats 2000000 in
theorem sun_isWins.calls (A0 : Option Addr) (c0 : Nat) (l0 : List Int) (r : Int) (w : World) (hr0 : Kd.C (Kd.int .i64) w A0 l0.length l0) (hc0 : l0.length ≤ c0) (h : sun_isWins.f l0 = some r) :
    Calls Try.prog 99 #[.slice A0 l0.length c0] w fun e w' => e = .returned (.int .i64 r) ∧ ∃ n, w' = w.drewN n := by
  obtain rfl := Option.some.inj h
  clear h
  have hC := slices_ContainsFunc.calls (fun x => decide (x < 0 ∨ 7 < x)) 119 #[] (enters_of Try.func119 (by kernel_rfl) rfl) A0 c0 l0 w hr0 (fun x q _ => isWins_1.calls x _)
  unfold winsV
  by_cases h1 : l0.length < 1 ∨ 7 < l0.length
  · rw [if_pos h1]
    clear hC
    by_cases h2 : l0.length < 1
    · have e0 : ((l0.length : Int) < 1) = True := eq_true (by omega)
      clear h1 hr0 hc0
      go_enter Try.func99, Try.ntmps99
      go_wp2
      go_ret
      exact ⟨rfl, 0, rfl⟩
    · have e0 : ((l0.length : Int) < 1) = False := eq_false (by omega)
      have e1 : ((7 : Int) < (l0.length : Int)) = True := eq_true (by omega)
      clear h1 hr0 hc0 h2
      go_enter Try.func99, Try.ntmps99
      go_wp2
      go_ret
      exact ⟨rfl, 0, rfl⟩
  · rw [if_neg h1]
    have e0 : ((l0.length : Int) < 1) = False := eq_false (by omega)
    have e1 : ((7 : Int) < (l0.length : Int)) = False := eq_false (by omega)
    generalize l0.any (fun x => decide (x < 0 ∨ 7 < x)) = b at *
    clear h1 hr0 hc0
    cases b with
    | true =>
      go_enter Try.func99, Try.ntmps99
      go_wp2_with (go_at_call 107; refine hC.mono ?_; rintro e w' ⟨rfl, q, rfl⟩)
      go_ret
      exact ⟨rfl, q, rfl⟩
    | false =>
      go_enter Try.func99, Try.ntmps99
      go_wp2_with (go_at_call 107; refine hC.mono ?_; rintro e w' ⟨rfl, q, rfl⟩)
      go_ret
      exact ⟨rfl, q, rfl⟩
end Go.Proofs.Ytbnjffhcpkfnhaa.H
