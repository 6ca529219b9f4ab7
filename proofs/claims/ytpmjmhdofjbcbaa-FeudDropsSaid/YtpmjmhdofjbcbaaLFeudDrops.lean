/- The statement FeudDrops of the feuds' laws holds: for every input the law returns true, and what was handed in reads as it did. No condition. -/
import Derived.Test.YtpmjmhdofjbcbaaRows
import Derived.Test.YtpmjmhdofjbcbaaPFeudDrops
import Derived.Test.YtpmjmhdofjbcbaaFY
import Derived.WalkKit
import Derived.ProofKit
import Derived.OpenShut
import Derived.ShutString
import Derived.ChangeOld
import Derived.Below
import Derived.SizedLaws
namespace Go.Proofs.Ytpmjmhdofjbcbaa.feudDrops
open Go.RowKit Go.Shelf Go.ChangeShapes Go.WideShapes Go.ChangeAt H Go.Proofs.Ytpmjmhdofjbcbaa.QA Go.Proofs.YtpmjmhdofjbcbaaW.PrintWords Go.Proofs.YtpmjmhdofjbcbaaW.PrintLast Go.Proofs.YtpmjmhdofjbcbaaW.PrintMore
set_option linter.unusedVariables false

set_option maxRecDepth 100000 in
set_option maxHeartbeats 4000000 in
theorem walk (x0 : Int) (A0 : Option Addr) (n0 c0 : Nat) (Zs0 T0 : List S43) (x1 : Int) (w : World) (hT0 : FArg w A0 n0 c0 Zs0 T0)
    (inner : ∀ W, Kd.C k43 W A0 n0 T0 →  Calls Try.prog 21 #[.agg #[.int .i64 x0, .slice A0 n0 c0], .int .i64 x1] W fun e w' => e = .returned (.bool true) ∧ Below W.heap.size W w') :
    Calls Try.prog 5 #[.agg #[.int .i64 x0, .slice A0 n0 c0], .int .i64 x1] w fun e w' => e = .returned (.bool true) ∧ Below w.heap.size w w' := by
  obtain ⟨wb, hwb⟩ : ∃ wb, wb = w.alloc (shopB x0 A0 n0 c0) := ⟨_, rfl⟩
  have hb0 : Below w.heap.size w wb := by rw [hwb]; exact (Below.refl _ w).alloc (Nat.le_refl _) _
  have hx0 : wb.heap[w.heap.size]? = some (shopB x0 A0 n0 c0) := by rw [hwb]; exact blk_new _ _
  have HWB := Aside0.mk hwb
  clear hwb
  go_enter Try.func5, Try.ntmps5
  go_wp2_with fail
  rw [← HWB.out]
  refine (keepFeuds A0 n0 c0 Zs0 wb (Kd.C_below hT0.all hb0) hT0.le hT0.size).mono ?_
  rintro e w1 ⟨v, rfl, hS, hb⟩
  obtain ⟨K0, d0, rfl, hd0, hC0⟩ := Kd.R_reads hS
  clear hS
  have hB1 := hb0.trans (hb.mono hb0.size)
  have hy1 := blk_below hx0 hb
  clear hb
  have ca := (blk_cell hy1 0).trans (show _ = some (Value.int .i64 x0) from rfl)
  have cb := (blk_cell hy1 1).trans (show _ = some (Value.slice A0 n0 c0) from rfl)
  go_wp2_with fail
  refine (inner w1 (Kd.C_below hT0.reads hB1)).mono ?_
  rintro e wi ⟨rfl, hb⟩
  have hBi := hB1.trans (hb.mono hB1.size)
  have hyi := blk_below hy1 hb
  replace hC0 := Kd.C_below hC0 hb
  clear hb ca cb
  have ca := (blk_cell hyi 0).trans (show _ = some (Value.int .i64 x0) from rfl)
  have cb := (blk_cell hyi 1).trans (show _ = some (Value.slice A0 n0 c0) from rfl)
  go_wp2_with fail
  refine (keptFeuds K0 Zs0.length d0 A0 n0 c0 Zs0 wi hC0 (Kd.C_below hT0.all hBi) hT0.le).mono ?_
  rintro e xwi ⟨rfl, m, hm⟩
  have hD : Below wi.heap.size wi xwi := by subst hm; exact pw_below_drewN (Below.refl _ _) _
  have hBx := hBi.trans (hD.mono hBi.size)
  clear hD hm
  go_wp2_with fail
  go_ret
  exact ⟨rfl, hBx⟩

theorem own : ownKnob Try.prog.godebug = none := by kernel_rfl
theorem laidOut : laidOutB Try.prog = true := by kernel_rfl
set_option maxRecDepth 100000 in
theorem lifted (os : Os) (started : os.Started) (H : Type) (enc : TypeId × Value → H) :
    ReturnsInHanded {} Try.checked os 5 .any (Rows.feudDropsSpec.pre6 enc Try.prog Try.f5 Rows.feudDropsRow.domain false) (Rows.feudDropsSpec.post enc Try.prog Try.f5 false true false false) := by
  refine returnsInHanded_of_change_sized (C := Try.checked) own started (by kernel_rfl) Try.func5
    (ChangeSpec.witness6 (enc := enc) (C := Try.checked) false ⟨#[], #[.agg #[.int .i64 0, .slice none 0 0], .int .i64 0], []⟩ 8 (by kernel_rfl) (by kernel_rfl) (by kernel_rfl) (by kernel_rfl)) ?_
  intro W base args ds gs before hval0 hW hcnd hsz0 _
  have hsz : (DataW.weightsEach Try.prog (Try.f5.params.toList ++ Rows.feudDropsSpec.plain.varTypes Try.prog) (ds ++ gs)).all (· ≤ reachBytes) = true := hsz0
  have hval : ∀ (j : Nat) t v, Try.f5.params[j]? = some t → args[j]? = some v → Value.okWide Try.prog W .any base t v := hval0
  have hW' := hW
  obtain ⟨p, q, hA0, hV, rfl, hfz, hnd⟩ := hW
  have hA : DataW.TrodAll enc Try.prog W 0 (fun _ => true) true Try.f5.params.toList args.toList ds p := hA0
  rw [Try.params5] at hA hval hsz
  obtain ⟨v0, vs0, d0, ds0, p0, q0, hargs, rfl, rfl, h0, r0⟩ := trodAll_cons hA
  obtain ⟨v1, vs1, d1, ds1, p1, q1, rfl, rfl, rfl, h1, r1⟩ := trodAll_cons r0
  obtain ⟨rfl, rfl, rfl⟩ := trodAll_nil r1
  obtain rfl : args = #[v0, v1] := by cases args; simp_all
  obtain ⟨rfl, rfl⟩ := trodVars_none hV
  have k0 := h0
  have lt0 : ∀ x ∈ p0, x.block < W.heap.size := by obtain ⟨m, hm⟩ := k0; exact DataW.trod_lt m _ _ _ hm
  have wt0 := fun n hn => List.all_eq_true.1 hsz n (DataW.weights_mem_each (j := 0) (t := 24) (d := d0) rfl rfl n hn)
  obtain ⟨y0, a0, len0, cap0, Z0, T0, rfl, w0, hT0⟩ := open_shop (hval 0 24 v0 rfl rfl) h0 (fun n hn => of_decide_eq_true (wt0 n hn))
  obtain ⟨a1, rfl, rfl, rfl, w1⟩ := open_int Try.underlying3 (hval 1 3 v1 rfl rfl) h1
  clear hA0 hval0 hsz0 hsz
  refine (walk y0 a0 len0 cap0 Z0 T0 a1 W hT0 (fun W1 g0 => pureFeudDrops g0 w0 hT0.fits hT0.le w1)).mono fun e W' ⟨he, bel⟩ => ?_
  subst he
  exact ⟨_, rfl, _, _, _, [], _, [], hW', trodAll_mk1 (shut_bool Try.underlying4 _), (trodAll_cons_mk (Below.trod laidOut (by kernel_rfl) (of_decide_eq_true (by kernel_rfl)) k0 bel lt0) (trodAll_cons_mk (shut_int Try.underlying3 w1) trodAll_mk0)), rfl, bel.frame _, fun h => by cases h⟩
theorem over : Rows.feudDropsRow.holds Try.pinned (OpenSpec.ofChange Rows.feudDropsSpec) :=
  OpenClaim.holds_of_wide 5 Try.f5 rfl rfl rfl rfl rfl rfl rfl ⟨rfl, rfl, rfl, rfl, rfl⟩ rfl rfl rfl rfl rfl (by kernel_rfl) Try.func5 (by kernel_rfl)
    (of_decide_eq_true (by kernel_rfl)) (by unfold Func.isWrapper; first | (rw [if_pos (by decide +kernel)]; kernel_rfl) | (rw [if_neg (by decide +kernel)]; exact ⟨rfl, rfl⟩))
    (fun os started H enc _ => lifted os started H enc)
theorem proved : Rows.FeudDropsSaid := over
end Go.Proofs.Ytpmjmhdofjbcbaa.feudDrops
namespace Go.Proofs.Ytpmjmhdofjbcbaa
/-- The row, under a short name, for the claim. -/
theorem feudDrops_holds : Rows.FeudDropsSaid := feudDrops.proved
end Go.Proofs.Ytpmjmhdofjbcbaa
