/- The statement SunMakes of the sun's laws holds: for every input the law returns true, and what was handed in reads as it did. No condition. -/
import Derived.Test.YtbnjffhcpkfnhaaRows
import Derived.Test.YtbnjffhcpkfnhaaPSunMakes
import Derived.Test.YtbnjffhcpkfnhaaHO
import Derived.WalkKit
import Derived.ProofKit
import Derived.OpenShut
import Derived.ShutString
import Derived.ChangeOld
import Derived.Below
import Derived.SizedLaws
namespace Go.Proofs.Ytbnjffhcpkfnhaa.sunMakes
open Go.RowKit Go.Shelf Go.ChangeShapes Go.WideShapes Go.ChangeAt H Go.Proofs.YtbnjffhcpkfnhaaW.PrintWords Go.Proofs.YtbnjffhcpkfnhaaW.PrintLast Go.Proofs.YtbnjffhcpkfnhaaW.PrintMore
set_option linter.unusedVariables false

set_option maxRecDepth 100000 in
set_option maxHeartbeats 4000000 in
theorem walk (A0 : Option Addr) (n0 c0 : Nat) (zs0 l0 : List Int) (w : World) (hT0 : IArg w A0 n0 c0 zs0 l0)
    (inner : ∀ W, Kd.C (Kd.int .i64) W A0 n0 l0 →  Calls Try.prog 30 #[.slice A0 n0 c0] W fun e w' => e = .returned (.bool true) ∧ Below W.heap.size W w') :
    Calls Try.prog 13 #[.slice A0 n0 c0] w fun e w' => e = .returned (.bool true) ∧ Below w.heap.size w w' := by
  go_enter Try.func13, Try.ntmps13
  have hb0 := Below.refl w.heap.size w
  obtain ⟨w0, hw0⟩ : ∃ w0, w0 = w := ⟨_, rfl⟩
  go_wp2_with fail
  refine (keepInts A0 n0 c0 zs0 w hT0.all hT0.le hT0.size).mono ?_
  rintro e w1 ⟨v, rfl, hS, hb⟩
  obtain ⟨K0, d0, rfl, hd0, hC0⟩ := Kd.R_reads hS
  clear hS
  have hB1 := hb
  clear hb
  go_wp2_with fail
  refine (inner w1 (Kd.C_below hT0.reads hB1)).mono ?_
  rintro e wi ⟨rfl, hb⟩
  have hBi := hB1.trans (hb.mono hB1.size)
  replace hC0 := Kd.C_below hC0 hb
  clear hb
  go_wp2_with fail
  refine (keptInts K0 zs0.length d0 A0 n0 c0 zs0 wi hC0 (Kd.C_below hT0.all hBi) hT0.le).mono ?_
  rintro e xwi ⟨rfl, m, hm⟩
  have hD : Below wi.heap.size wi xwi := by subst hm; exact pw_below_drewN (Below.refl _ _) _
  have hBx := hBi.trans (hD.mono hBi.size)
  clear hD hm
  go_wp2_with fail
  go_ret
  exact ⟨rfl, hBx⟩

theorem own : ownKnob Try.prog.godebug = none := by kernel_rfl
theorem laidOut : laidOutB Try.prog = true := by kernel_rfl
set_option maxRecDepth 100000 in
theorem lifted (os : Os) (started : os.Started) (H : Type) (enc : TypeId × Value → H) :
    ReturnsInHanded {} Try.checked os 13 .any (Rows.sunMakesSpec.pre6 enc Try.prog Try.f13 Rows.sunMakesRow.domain false) (Rows.sunMakesSpec.post enc Try.prog Try.f13 false true false false) := by
  refine returnsInHanded_of_change_sized (C := Try.checked) own started (by kernel_rfl) Try.func13
    (ChangeSpec.witness6 (enc := enc) (C := Try.checked) false ⟨#[], #[.slice none 0 0], []⟩ 8 (by kernel_rfl) (by kernel_rfl) (by kernel_rfl) (by kernel_rfl)) ?_
  intro W base args ds gs before hval0 hW hcnd hsz0 _
  have hsz : (DataW.weightsEach Try.prog (Try.f13.params.toList ++ Rows.sunMakesSpec.plain.varTypes Try.prog) (ds ++ gs)).all (· ≤ reachBytes) = true := hsz0
  have hval : ∀ (j : Nat) t v, Try.f13.params[j]? = some t → args[j]? = some v → Value.okWide Try.prog W .any base t v := hval0
  have hW' := hW
  obtain ⟨p, q, hA0, hV, rfl, hfz, hnd⟩ := hW
  have hA : DataW.TrodAll enc Try.prog W 0 (fun _ => true) true Try.f13.params.toList args.toList ds p := hA0
  rw [Try.params13] at hA hval hsz
  obtain ⟨v0, vs0, d0, ds0, p0, q0, hargs, rfl, rfl, h0, r0⟩ := trodAll_cons hA
  obtain ⟨rfl, rfl, rfl⟩ := trodAll_nil r0
  obtain rfl : args = #[v0] := by cases args; simp_all
  obtain ⟨rfl, rfl⟩ := trodVars_none hV
  obtain ⟨a0, len0, cap0, rfl⟩ := okWide_slice Try.underlying27 (hval 0 27 v0 rfl rfl)
  have k0 := h0
  have lt0 : ∀ x ∈ p0, x.block < W.heap.size := by obtain ⟨m, hm⟩ := k0; exact DataW.trod_lt m _ _ _ hm
  have wt0 := fun n hn => List.all_eq_true.1 hsz n (DataW.weights_mem_each (j := 0) (t := 27) (d := d0) rfl rfl n hn)
  obtain ⟨Z0, T0, hT0⟩ : ∃ Zs T, IArg W a0 len0 cap0 Zs T := by
    obtain ⟨fuel, hf⟩ := h0
    exact open_list (by simpa [Value.cells] using hf) (fun n hn => of_decide_eq_true (wt0 n hn))
  clear hA0 hval0 hsz0 hsz
  refine (walk a0 len0 cap0 Z0 T0 W hT0 (fun W1 g0 => pureSunMakes g0 hT0.fits hT0.le)).mono fun e W' ⟨he, bel⟩ => ?_
  subst he
  exact ⟨_, rfl, _, _, _, [], _, [], hW', trodAll_mk1 (shut_bool Try.underlying4 _), (trodAll_cons_mk (Below.trod laidOut (by kernel_rfl) (of_decide_eq_true (by kernel_rfl)) k0 bel lt0) trodAll_mk0), rfl, bel.frame _, fun h => by cases h⟩
theorem over : Rows.sunMakesRow.holds Try.pinned (OpenSpec.ofChange Rows.sunMakesSpec) :=
  OpenClaim.holds_of_wide 13 Try.f13 rfl rfl rfl rfl rfl rfl rfl ⟨rfl, rfl, rfl, rfl, rfl⟩ rfl rfl rfl rfl rfl (by kernel_rfl) Try.func13 (by kernel_rfl)
    (of_decide_eq_true (by kernel_rfl)) (by unfold Func.isWrapper; first | (rw [if_pos (by decide +kernel)]; kernel_rfl) | (rw [if_neg (by decide +kernel)]; exact ⟨rfl, rfl⟩))
    (fun os started H enc _ => lifted os started H enc)
theorem proved : Rows.SunMakesSaid := over
end Go.Proofs.Ytbnjffhcpkfnhaa.sunMakes
namespace Go.Proofs.Ytbnjffhcpkfnhaa
/-- The row, under a short name, for the claim. -/
theorem sunMakes_holds : Rows.SunMakesSaid := sunMakes.proved
end Go.Proofs.Ytbnjffhcpkfnhaa
