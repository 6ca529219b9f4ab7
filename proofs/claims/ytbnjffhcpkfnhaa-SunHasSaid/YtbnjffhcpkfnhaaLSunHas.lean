/- The statement SunHas of the sun's laws holds: for every input the law returns true, and what was handed in reads as it did. No condition. -/
import Derived.Test.YtbnjffhcpkfnhaaRows
import Derived.Test.YtbnjffhcpkfnhaaPSunMakes
import Derived.Test.YtbnjffhcpkfnhaaHO
import Derived.WalkKit
import Derived.ProofKit
import Derived.OpenShut
import Derived.ShutString
import Derived.ChangeOld
import Derived.Below
import Derived.SizedLaws
namespace Go.Proofs.Ytbnjffhcpkfnhaa.sunHas
open Go.RowKit Go.Shelf Go.ChangeShapes Go.WideShapes Go.ChangeAt H Go.Proofs.YtbnjffhcpkfnhaaW.PrintWords Go.Proofs.YtbnjffhcpkfnhaaW.PrintLast Go.Proofs.YtbnjffhcpkfnhaaW.PrintMore
set_option linter.unusedVariables false

set_option maxRecDepth 100000 in
set_option maxHeartbeats 4000000 in
theorem walk (A0 : Option Addr) (n0 c0 : Nat) (Zs0 T0 : List (List Int)) (w : World) (hT0 : TArg w A0 n0 c0 Zs0 T0)
    (inner : ∀ W, Kd.C (Kd.slice 3 (Kd.int .i64)) W A0 n0 T0 →  Calls Try.prog 31 #[.slice A0 n0 c0] W fun e w' => e = .returned (.bool true) ∧ Below W.heap.size W w') :
    Calls Try.prog 14 #[.slice A0 n0 c0] w fun e w' => e = .returned (.bool true) ∧ Below w.heap.size w w' := by
  go_enter Try.func14, Try.ntmps14
  have hb0 := Below.refl w.heap.size w
  obtain ⟨w0, hw0⟩ : ∃ w0, w0 = w := ⟨_, rfl⟩
  go_wp2_with fail
  refine (keepTable A0 n0 c0 Zs0 w hT0.tab hT0.le hT0.size).mono ?_
  rintro e w1 ⟨v, rfl, hS, hb⟩
  obtain ⟨K0, d0, rfl, hd0, hC0⟩ := Kd.S_reads hS
  clear hS
  have hB1 := hb
  clear hb
  go_wp2_with fail
  refine (inner w1 (Kd.C_below hT0.reads hB1)).mono ?_
  rintro e wi ⟨rfl, hb⟩
  have hBi := hB1.trans (hb.mono hB1.size)
  replace hC0 := Kd.C_below hC0 hb
  clear hb
  go_wp2_with fail
  refine (keptTable K0 Zs0.length d0 A0 n0 c0 Zs0 wi hC0 (hT0.tab.below hBi) hT0.le).mono ?_
  rintro e xwi ⟨rfl, m, hm⟩
  have hD : Below wi.heap.size wi xwi := by subst hm; exact pw_below_drewN (Below.refl _ _) _
  have hBx := hBi.trans (hD.mono hBi.size)
  clear hD hm
  go_wp2_with fail
  go_ret
  exact ⟨rfl, hBx⟩

theorem own : ownKnob Try.prog.godebug = none := by kernel_rfl
theorem laidOut : laidOutB Try.prog = true := by kernel_rfl
set_option maxRecDepth 100000 in
theorem lifted (os : Os) (started : os.Started) (H : Type) (enc : TypeId × Value → H) :
    ReturnsInHanded {} Try.checked os 14 .any (Rows.sunHasSpec.pre6 enc Try.prog Try.f14 Rows.sunHasRow.domain false) (Rows.sunHasSpec.post enc Try.prog Try.f14 false true false false) := by
  refine returnsInHanded_of_change_sized (C := Try.checked) own started (by kernel_rfl) Try.func14
    (ChangeSpec.witness6 (enc := enc) (C := Try.checked) false ⟨#[], #[.slice none 0 0], []⟩ 8 (by kernel_rfl) (by kernel_rfl) (by kernel_rfl) (by kernel_rfl)) ?_
  intro W base args ds gs before hval0 hW hcnd hsz0 _
  have hsz : (DataW.weightsEach Try.prog (Try.f14.params.toList ++ Rows.sunHasSpec.plain.varTypes Try.prog) (ds ++ gs)).all (· ≤ reachBytes) = true := hsz0
  have hval : ∀ (j : Nat) t v, Try.f14.params[j]? = some t → args[j]? = some v → Value.okWide Try.prog W .any base t v := hval0
  have hW' := hW
  obtain ⟨p, q, hA0, hV, rfl, hfz, hnd⟩ := hW
  have hA : DataW.TrodAll enc Try.prog W 0 (fun _ => true) true Try.f14.params.toList args.toList ds p := hA0
  rw [Try.params14] at hA hval hsz
  obtain ⟨v0, vs0, d0, ds0, p0, q0, hargs, rfl, rfl, h0, r0⟩ := trodAll_cons hA
  obtain ⟨rfl, rfl, rfl⟩ := trodAll_nil r0
  obtain rfl : args = #[v0] := by cases args; simp_all
  obtain ⟨rfl, rfl⟩ := trodVars_none hV
  obtain ⟨a0, len0, cap0, rfl⟩ := okWide_slice Try.underlying22 (hval 0 22 v0 rfl rfl)
  have k0 := h0
  have lt0 : ∀ x ∈ p0, x.block < W.heap.size := by obtain ⟨m, hm⟩ := k0; exact DataW.trod_lt m _ _ _ hm
  have wt0 := fun n hn => List.all_eq_true.1 hsz n (DataW.weights_mem_each (j := 0) (t := 22) (d := d0) rfl rfl n hn)
  obtain ⟨Z0, T0, hT0⟩ : ∃ Zs T, TArg W a0 len0 cap0 Zs T := by
    obtain ⟨fuel, hf⟩ := h0
    exact open_table (by simpa [Value.cells] using hf) (fun n hn => of_decide_eq_true (wt0 n hn))
  clear hA0 hval0 hsz0 hsz
  refine (walk a0 len0 cap0 Z0 T0 W hT0 (fun W1 g0 => pureSunHas g0 hT0.fits hT0.le)).mono fun e W' ⟨he, bel⟩ => ?_
  subst he
  exact ⟨_, rfl, _, _, _, [], _, [], hW', trodAll_mk1 (shut_bool Try.underlying4 _), (trodAll_cons_mk (Below.trod laidOut (by kernel_rfl) (of_decide_eq_true (by kernel_rfl)) k0 bel lt0) trodAll_mk0), rfl, bel.frame _, fun h => by cases h⟩
theorem over : Rows.sunHasRow.holds Try.pinned (OpenSpec.ofChange Rows.sunHasSpec) :=
  OpenClaim.holds_of_wide 14 Try.f14 rfl rfl rfl rfl rfl rfl rfl ⟨rfl, rfl, rfl, rfl, rfl⟩ rfl rfl rfl rfl rfl (by kernel_rfl) Try.func14 (by kernel_rfl)
    (of_decide_eq_true (by kernel_rfl)) (by unfold Func.isWrapper; first | (rw [if_pos (by decide +kernel)]; kernel_rfl) | (rw [if_neg (by decide +kernel)]; exact ⟨rfl, rfl⟩))
    (fun os started H enc _ => lifted os started H enc)
theorem proved : Rows.SunHasSaid := over
end Go.Proofs.Ytbnjffhcpkfnhaa.sunHas
namespace Go.Proofs.Ytbnjffhcpkfnhaa
/-- The row, under a short name, for the claim. -/
theorem sunHas_holds : Rows.SunHasSaid := sunHas.proved
end Go.Proofs.Ytbnjffhcpkfnhaa
