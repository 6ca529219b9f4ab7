/- slices.Insert at ints, off the shelf. -/
import Derived.Shelf.Spec.SlicesInsertGrow
import Derived.Test.YtbnjffhcpkfnhaaHA
namespace Go.Proofs.Ytbnjffhcpkfnhaa.H
open Go.Shelf Go.RowKit
set_option linter.unusedVariables false
def insF : Nat → Nat
  | 21 => 94
  | 27 => 114
  | 28 => 115
  | 35 => 124
  | 39 => 129
  | x => x
def insT : Nat → Nat
  | 22 => 27
  | x => x
def insR : Ren := ⟨insF, insT, fun x => x⟩
theorem ins_mixed : Try.prog.follows .mixedOrders = true := by kernel_rfl
theorem ins_f21 : Try.prog.funcs[insR.f 21]? = some (Body2.n21 insR) := by kernel_rfl
theorem ins_f27 : Try.prog.funcs[insR.f 27]? = some (Body2.n27 insR) := by kernel_rfl
theorem ins_f28 : Try.prog.funcs[insR.f 28]? = some (Body2.n28 insR) := by kernel_rfl
theorem ins_f35 : Try.prog.funcs[insR.f 35]? = some (Body2.n35 insR) := by kernel_rfl
theorem ins_f39 : Try.prog.funcs[insR.f 39]? = some (Body2.n39 insR) := by kernel_rfl
theorem ins_lays : Lays2.n21 Try.prog insR where
  mixed := ins_mixed
  f21 := ins_f21
  f27 := ins_f27
  f28 := ins_f28
  f35 := ins_f35
  f39 := ins_f39
  t0 := by kernel_rfl
  a0 := by intro w; kernel_rfl
  z0 := by intro w; kernel_rfl
  v0 := by intro w; kernel_rfl
  t3 := by kernel_rfl
  a3 := by intro w; kernel_rfl
  z3 := by intro w; kernel_rfl
  v3 := by intro w; kernel_rfl
  t4 := by kernel_rfl
  a4 := by intro w; kernel_rfl
  z4 := by intro w; kernel_rfl
  v4 := by intro w; kernel_rfl
  t22 := by kernel_rfl
  a22 := by intro w; kernel_rfl
  z22 := by intro w; kernel_rfl
  v22 := by intro w; kernel_rfl
  i3 := by kernel_rfl
end Go.Proofs.Ytbnjffhcpkfnhaa.H
