/- The plain law of SunSwitches: one comparison the other way changes the fewest upsets by at most one, and twice is once less. -/
import Derived.Test.YtbnjffhcpkfnhaaQS1
import Derived.Test.YtbnjffhcpkfnhaaHO
import Derived.Test.YtbnjffhcpkfnhaaHTb
namespace Go.Proofs.Ytbnjffhcpkfnhaa.H
open Go.RowKit Go.Proofs.YtbnjffhcpkfnhaaW.PrintWords Go.Proofs.YtbnjffhcpkfnhaaW.PrintLast Go.Proofs.YtbnjffhcpkfnhaaW.PrintMore
set_option linter.unusedVariables false

theorem sunSwitches_true (t : List (List Int)) (a b : Int) (ht : t.length ≤ 9223372036854775807) : Ev (fun k => QS.verditerlaw05_sunSwitches.f k t a b) true := by
  obtain ⟨c, hc, hs⟩ := Ev_Long t ht
  unfold QS.verditerlaw05_sunSwitches.f
  refine Ev.bind hc ?_
  cases c with
  | true => exact Ev.congr (f := fun _ => some true) (fun k => by rw [if_pos rfl]; rfl) (Ev.now _)
  | false =>
    refine Ev.congr (fun k => if_neg (by simp)) ?_
    by_cases hv : switchV t a b = 0
    · obtain ⟨he, x, y, rfl, rfl, hx, hy, hxy⟩ := switchV_yes hv
      have h := Right.of he
      have hS := h.sw hx hy hxy
      have hn := h.len
      refine Ev.bind (refSwitch_yes h hx hy hxy) ?_
      refine Ev.congr (f := fun k => (QC.verditerref01_SameTables.f k (swT t x y) (swT t x y)).bind fun t111 => if t111 = true then QS.verditerlaw05_sunSwitches.j0 k t (x : Int) (y : Int) (swT t x y) 0 false else QS.verditerlaw05_sunSwitches.j0 k t (x : Int) (y : Int) (swT t x y) 0 true) (fun k => ?_) (Ev.bind (Ev_sameT hS.rows (by rw [swT_len]; omega)) ?_)
      · unfold sun_Switch.f
        rw [hv, if_pos rfl, Option.bind_some, Int.toNat_natCast, Int.toNat_natCast]
        rfl
      refine Ev.congr (fun k => if_pos rfl) ?_
      obtain ⟨l1, l2⟩ := least_near h hx hy hxy
      have hb1 : 0 ≤ (rankS t).2 ∧ (rankS t).2 ≤ 49 := by
        obtain ⟨o, e, _⟩ := least_spec h
        rw [e]
        exact ⟨ups_nonneg h _, ups_le h (by rw [o.len]; exact hn)⟩
      have hb2 : -1 ≤ (rankS (swT t x y)).2 ∧ (rankS (swT t x y)).2 ≤ 50 := by omega
      have hyx : y ≠ x := fun e => hxy e.symm
      have hsw : sun_Switch.f (swT t x y) (y : Int) (x : Int) = some (t, 0) := by
        unfold sun_Switch.f
        rw [switchV_of hS (by rw [swT_len]; exact hy) (by rw [swT_len]; exact hx) hyx, if_pos rfl, Int.toNat_natCast, Int.toNat_natCast, swT_twice h hx hy hxy]
      refine Ev.step (f := fun k => (QC.verditerref01_SameTables.f k t t).bind fun t121 => if t121 = true then some true else some false) (fun k => ?_) (Ev.bind (Ev_sameT h.rows (by omega)) (Ev.now _))
      simp only [QS.verditerlaw05_sunSwitches.j0]
      rw [if_neg (by simp), if_pos trivial, sunFewest_yes (right_err hS), Option.bind_some, sunFewest_yes he, Option.bind_some, hsw, Option.bind_some]
      rw [if_pos rfl, if_pos rfl, wrap_small (by omega) (by omega), if_pos l1, wrap_small (by omega) (by omega), if_pos l2, if_pos rfl]
      rfl
    · refine Ev.bind (refSwitch_no hv) ?_
      refine Ev.congr (f := fun k => (QC.verditerref01_SameTables.f k [] []).bind fun t111 => if t111 = true then QS.verditerlaw05_sunSwitches.j0 k t a b [] (switchV t a b) false else QS.verditerlaw05_sunSwitches.j0 k t a b [] (switchV t a b) true) (fun k => ?_) (Ev.bind (Ev_sameT (t := []) (by simp) (by simp)) ?_)
      · unfold sun_Switch.f
        rw [if_neg hv, Option.bind_some]
        simp only [bne_self_eq_false]
      refine Ev.congr (fun k => if_pos rfl) (Ev.step (fun k => ?_) (Ev.now _))
      simp only [QS.verditerlaw05_sunSwitches.j0]
      rw [if_neg (by simp), if_neg hv]
      rfl
theorem pureSunSwitches {A : Option Addr} {n c : Nat} {T : List (List Int)} {a b : Int} {W : World} (g : Kd.C (Kd.slice 3 (Kd.int .i64)) W A n T) (hf : ∀ l ∈ T, ∀ x ∈ l, (Lit.int .i64 x).wf = true) (hn : n ≤ c) (ha : (Lit.int .i64 a).wf = true) (hb : (Lit.int .i64 b).wf = true) :
    Calls Try.prog 21 #[.slice A n c, .int .i64 a, .int .i64 b] W fun e w' => e = .returned (.bool true) ∧ Below W.heap.size W w' := by
  obtain rfl : T.length = n := g.1
  obtain ⟨k, hk⟩ := (sunSwitches_true T a b g.2.1).rounds
  exact QS.verditerlaw05_sunSwitches.calls k A c T a b true W g hn hk
end Go.Proofs.Ytbnjffhcpkfnhaa.H
