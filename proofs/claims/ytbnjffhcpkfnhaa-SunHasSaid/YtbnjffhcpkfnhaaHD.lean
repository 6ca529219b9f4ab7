/- slices.Clone at []int: the same numbers in new memory. -/
import Derived.WalkSpells
import Derived.Test.YtbnjffhcpkfnhaaHC
namespace Go.Proofs.Ytbnjffhcpkfnhaa.H
open Go.RowKit Go.Shelf Go.Proofs.YtbnjffhcpkfnhaaW.PrintWords Go.Proofs.YtbnjffhcpkfnhaaW.PrintLast Go.Proofs.YtbnjffhcpkfnhaaW.PrintMore
set_option linter.unusedVariables false

def slices_Clone_int_int.f (l0 : List Int) : Option (List Int) := if l0.length ≤ 1000 then some l0 else none
set_option maxHeartbeats 2000000 in
theorem slices_Clone_int_int.calls (A0 : Option Addr) (c0 : Nat) (l0 : List Int) (r : List Int) (w : World) (hr0 : Kd.C (Kd.int .i64) w A0 l0.length l0) (hc0 : l0.length ≤ c0) (h : slices_Clone_int_int.f l0 = some r) :
    Calls Try.prog 91 #[.slice A0 l0.length c0] w fun e w' => ∃ v0_ : Value, e = .returned (v0_) ∧ Kd.R (Kd.int .i64) 3 w' w.heap.size (fun _ => True) v0_ r ∧ Below w.heap.size w w' := by
  unfold slices_Clone_int_int.f at h
  split at h
  case isFalse => cases h
  case isTrue hl =>
  obtain rfl := Option.some.inj h
  clear h
  cases A0 with
  | none =>
    have h0 : l0 = [] := by
      cases l0 with
      | nil => rfl
      | cons x l => obtain ⟨ad, e, _⟩ := hr0.2.2 (by simp); cases e
    subst h0
    clear hl hc0 hr0
    have heq := fun W => Go.Lib.run_eql_slice_nil (P := Try.prog) W 27 3 none 0 c0 0 0 Try.underlying27
    go_enter Try.func91, Try.ntmps91
    go_wp2
    go_ret
    exact ⟨_, rfl, Kd.R_nil _ _ _ _ _, Below.refl _ _⟩
  | some ad =>
    have HR := Aside0.mk hr0
    have heq := fun W => Go.Lib.run_eql_slice_nil (P := Try.prog) W 27 3 (some ad) l0.length c0 0 0 Try.underlying27
    have hown : (w.alloc (.cells #[] 3)).ownsRow w.heap.size 3 1 (.slice (some ⟨w.heap.size, 0, none⟩) 0 0) ([] : List Int).length (nums .i64 []) := by
      have := own_lit w w.heap.size 3 .i64 [] (Nat.le_refl _) (by simp)
      simpa [nums] using this
    have HO := Aside0.mk hown
    have HL := Aside0.mk hl
    clear hr0 hown hl
    go_enter Try.func91, Try.ntmps91
    go_wp2_with ((with_reducible refine gate_builtin (b := .append) (xs := #[.tmp 5, .tmp 6]) rfl ?_); at_builtin; refine print_append_row (w0 := w) w.heap.size rfl (.tmp 5) (.tmp 6) 27 3 .i64 8 rfl Try.underlying27 info3 (by decide) _ [] l0 (some ad) l0.length c0 rfl rfl ?aO ?aR ?aB ?aS ?aL ?_; (case aO => exact HO.out); (case aR => exact readsInt_of.2 (Kd.reads_of_C (Kd.C_alloc HR.out _))); (case aB => exact (Below.refl _ _).alloc (Nat.le_refl _) _); (case aS => simp); (case aL => have := HL.out; simp; omega); intro v1 w1 hown hB1 hg hat)
    go_ret
    exact ⟨_, rfl, Kd.R_of_own (by rw [List.nil_append] at hown; exact hown) (fun _ _ => trivial), hB1⟩

end Go.Proofs.Ytbnjffhcpkfnhaa.H
