/- slices.SortStableFunc at fewer than twenty numbers below a bound that lie from a place of a block on. -/
import Derived.Test.YtbnjffhcpkfnhaaHSt
namespace Go.Proofs.Ytbnjffhcpkfnhaa.H
open Go.RowKit Go.Shelf Go.Proofs.YtbnjffhcpkfnhaaW.PrintWords Go.Proofs.YtbnjffhcpkfnhaaW.PrintLast Go.Proofs.YtbnjffhcpkfnhaaW.PrintMore
set_option linter.unusedVariables false
set_option linter.unusedSimpArgs false
def CmpF (m : Nat) (cf : Fin (m + 1) → Fin (m + 1) → Int) (g : Nat) (cb : Array Value) (gb off len : Nat) (w : World) : Prop :=
  ∀ (q : Nat) (os : Array Obj) (dk : Array (Fin (m + 1))), dk.size = len → ∀ x y : Fin (m + 1), Calls Try.prog g (#[.int .i64 x.val, .int .i64 y.val] ++ cb) (sortWorld encF w gb off q dk os) fun e w' => e = .returned (.int .i64 (cf x y)) ∧ ∃ q', w' = (sortWorld encF w gb off q dk os).drewN q'
set_option maxRecDepth 100000 in
set_option maxHeartbeats 2000000 in
theorem stableO_cmp.calls (m : Nat) (cf : Fin (m + 1) → Fin (m + 1) → Int) (g : Nat) (cb : Array Value) (eg : ∀ args w, (callFunc g args).run Try.prog w = .ok (.enter g args) w) (l : List (Fin (m + 1))) (h19 : l.length ≤ 19) (gb off cap : Nat) (w : World) (hH : Go.Sort.Holds encF w gb off l.toArray) (hcmp : CmpF m cf g cb gb off l.length w) :
    Calls Try.prog 120 #[.slice (some ⟨gb, off, none⟩) l.length cap, .int .i64 l.length, .func (.func g) #[] cb] w fun e w' => e = .returned (.tuple #[]) ∧ ∃ n, w' = (Go.Sort.putRow encF w gb off (sortF cf l).toArray).drewN n := by
  have hC := Any.insertionSortCmpFunc_one icf_lays encF encF_one cf g cb gb off cap 0 l.length l.toArray w eg (fun q os dk hs x y => hcmp q os dk (by simpa using hs) x y) hH (Nat.zero_le _) (by simp) (by simp; omega)
  change Calls Try.prog 127 _ w _ at hC
  rw [show l.toArray.size = l.length from by simp] at hC
  rw [show Go.Sort.insertionSort (ltOf cf) l.toArray 0 l.length = (sortF cf l).toArray from by simp [sortF]] at hC
  have hlz : (l.length : Int) < 20 := by omega
  have hl20 : decide ((20 : Int) ≤ (l.length : Int)) = false := decide_eq_false (by omega)
  have hl21 : decide ((20 : Int) < (l.length : Int)) = false := decide_eq_false (by omega)
  clear hcmp hH
  generalize sortF cf l = L at *
  go_enter Try.func120, Try.ntmps120
  go_wp2
  go_loopw [7, 8] (fun a b wr => a = .int .i64 0 ∧ b = .int .i64 20 ∧ wr = w) (fun _ _ _ => 0)
  case atStart => exact ⟨rfl, rfl, rfl⟩
  case round =>
    obtain ⟨rfl, rfl, rfl⟩ := hrel
    go_wp2_with (go_at_call 127; refine hC.mono ?_; rintro e w' ⟨rfl, hw'⟩; have HFin := Aside0.mk hw'; clear hw' hC)
    go_loopw [6, 7, 8] (fun s a b wr2 => s = .int .i64 20 ∧ a = .int .i64 0 ∧ b = .int .i64 20 ∧ wr2 = w') (fun _ _ _ _ => 0)
    case atStart => exact ⟨rfl, rfl, rfl, rfl⟩
    case round =>
      obtain ⟨rfl, rfl, rfl, rfl⟩ := hrel
      go_wp2
      go_end0
      exact ⟨rfl, HFin.out⟩
theorem stableO.calls (m : Nat) (cf : Fin (m + 1) → Fin (m + 1) → Int) (g : Nat) (cb : Array Value) (eg : ∀ args w, (callFunc g args).run Try.prog w = .ok (.enter g args) w) (l : List (Fin (m + 1))) (h19 : l.length ≤ 19) (gb off cap : Nat) (w : World) (hH : Go.Sort.Holds encF w gb off l.toArray) (hcmp : CmpF m cf g cb gb off l.length w) :
    Calls Try.prog 101 #[.slice (some ⟨gb, off, none⟩) l.length cap, .func (.func g) #[] cb] w fun e w' => e = .returned (.tuple #[]) ∧ ∃ n, w' = (Go.Sort.putRow encF w gb off (sortF cf l).toArray).drewN n := by
  have hC := stableO_cmp.calls m cf g cb eg l h19 gb off cap w hH hcmp
  clear hcmp hH
  go_enter Try.func101, Try.ntmps101
  go_wp2_with (go_at_call 120; refine hC.mono ?_; rintro e w' ⟨rfl, hO⟩)
  go_end0
  exact ⟨rfl, hO⟩
end Go.Proofs.Ytbnjffhcpkfnhaa.H
