/- sun.wins: the wins of each strip, for every table of at most seven rows of at most seven numbers. -/
import Derived.Test.YtbnjffhcpkfnhaaHB
namespace Go.Proofs.Ytbnjffhcpkfnhaa.H
open Go.RowKit Go.Shelf Go.Proofs.YtbnjffhcpkfnhaaW.PrintWords Go.Proofs.YtbnjffhcpkfnhaaW.PrintLast Go.Proofs.YtbnjffhcpkfnhaaW.PrintMore
set_option linter.unusedVariables false

/-- A table of at most seven rows, each of at most seven numbers. -/
def small (t : List (List Int)) : Bool := decide (t.length ≤ 7) && t.all fun l => decide (l.length ≤ 7)
theorem small_len {t : List (List Int)} (h : small t = true) : t.length ≤ 7 := by
  unfold small at h
  simp only [Bool.and_eq_true, decide_eq_true_eq] at h
  exact h.1
theorem small_row {t : List (List Int)} (h : small t = true) (k : Nat) (hk : k < t.length) : (t.getD k []).length ≤ 7 := by
  unfold small at h
  simp only [Bool.and_eq_true, decide_eq_true_eq, List.all_eq_true] at h
  have := h.2 t[k] (List.getElem_mem hk)
  simpa [hk] using this
def winsTo (t : List (List Int)) (k : Nat) : List Int := (t.take k).map fun row => ((ones row).length : Int)
theorem winsTo_succ {t : List (List Int)} {k : Nat} (hk : k < t.length) : winsTo t (k + 1) = winsTo t k ++ [((ones (t.getD k [])).length : Int)] := by
  unfold winsTo
  rw [List.take_succ_eq_append_getElem hk, List.map_append]
  simp [hk]
def winsL (t : List (List Int)) : List Int := t.map fun row => ((ones row).length : Int)
theorem winsTo_all (t : List (List Int)) : winsTo t t.length = winsL t := by unfold winsTo winsL; rw [List.take_length]
theorem winsTo_length (t : List (List Int)) (k : Nat) : (winsTo t k).length ≤ k := by unfold winsTo; simp; omega

def sun_wins.f (l0 : List (List Int)) : Option (List Int) := if small l0 = true then some (winsL l0) else none

set_option maxRecDepth 100000 in
set_option maxHeartbeats 2000000 in
theorem sun_wins.calls (A0 : Option Addr) (c0 : Nat) (l0 : List (List Int)) (r : List Int) (w : World) (hr0 : Kd.C (Kd.slice 3 (Kd.int .i64)) w A0 l0.length l0) (hc0 : l0.length ≤ c0) (h : sun_wins.f l0 = some r) :
    Calls Try.prog 76 #[.slice A0 l0.length c0] w fun e w' => ∃ v0_ : Value, e = .returned (v0_) ∧ Kd.R (Kd.int .i64) 3 w' w.heap.size (fun _ => True) v0_ r ∧ Below w.heap.size w w' := by
  unfold sun_wins.f at h
  split at h
  case isFalse => cases h
  case isTrue hs =>
  obtain rfl := Option.some.inj h
  clear h
  have hlen := small_len hs
  have HS := Aside0.mk hs
  have HR := Aside0.mk hr0
  clear hs hr0
  go_enter Try.func76, Try.ntmps76
  go_wp2
  go_loopw [3, 4, 7] (fun v s4 i wr => ∃ k : Nat, k ≤ l0.length ∧ i = .int .i64 k ∧ Aside0 (wr.ownsRow w.heap.size 3 1 v (winsTo l0 k).length (nums .i64 (winsTo l0 k))) ∧ Below w.heap.size w wr) (fun _ _ i _ => l0.length - (intOf i).toNat)
  case atStart => exact ⟨0, Nat.zero_le _, rfl, ⟨own_nil _ _ _ _⟩, Below.refl _ _⟩
  case round =>
    obtain ⟨k, hk, rfl, HO, hB⟩ := hrel
    by_cases hlt : k < l0.length
    · have hltz : (k : Int) < (l0.length : Int) := by omega
      have hrow := small_row HS.out k hlt
      have hones := onesTo_length (l0.getD k []) (l0.getD k []).length
      have hB79 : ∀ n' W, Calls Try.prog 79 #[.slice A0 l0.length c0, .int .i64 (k : Int)] W fun e w' => e = .returned (.func (.func 109) #[] #[.pointer (some ⟨W.heap.size, 0, none⟩), .pointer (some ⟨W.heap.size + 1, 0, none⟩)]) ∧ w' = (W.alloc (.cells #[.slice A0 l0.length c0] 22)).alloc (.cells #[.int .i64 (k : Int)] 3) := fun n' W => (callsIn_wide (n := n')).1 (beaten.calls Fence.wide n' trivial rfl _ _ _ _ _)
      have hB2 : Below w.heap.size w ((wr.alloc (.cells #[.slice A0 l0.length c0] 22)).alloc (.cells #[.int .i64 (k : Int)] 3)) := (hB.alloc hB.size _).alloc (by have := hB.size; simp; omega) _
      have hseq := beaten.stops Fence.wide 7 trivial rfl (by omega) wr.heap.size (wr.heap.size + 1) A0 c0 l0 k w _ HR.out hlt hB2 ((Boxed.new wr 22 (.slice A0 l0.length c0)).alloc _).cell (by simp)
      have hC := (callsIn_wide (n := 9)).1 (collect.calls Fence.wide 9 trivial trivial rfl (by omega) 109 _ trivial (enters_of Try.func109 (by kernel_rfl) rfl) _ _ _ w.heap.size (by unfold maxLen; omega) (by omega) _ (by have := hB.size; simp; omega) hseq)
      have hw := winsTo_length l0 k
      clear hseq hB2
      generalize hrd : l0.getD k [] = row at *
      have HX := Aside0.mk hrd
      clear hrd
      go_wp2_with (first
        | (go_at_call 79; refine (hB79 5 _).mono ?_; rintro e w' ⟨rfl, rfl⟩)
        | (go_at_call 106; refine hC.mono ?_; rintro e w' ⟨v1, ss, rfl, rfl, hrow1, hb1⟩; clear hC; obtain ⟨A1, c1, rfl⟩ := own_slice hrow1; have hbw : Below wr.heap.size wr w' := (((Below.refl wr.heap.size wr).alloc (Nat.le_refl _) _).alloc (by simp) _).trans (hb1.mono (by simp; omega)); have hB9 : Below w.heap.size w w' := hB.trans (hbw.mono hB.size))
        | ((with_reducible refine gate_builtin (b := .append) (xs := #[.tmp 10, .tmp 16]) rfl ?_); at_builtin; refine print_append_num (w0 := w) w.heap.size rfl (.tmp 10) (.tmp 16) 27 3 .i64 8 rfl Try.underlying27 info3 (by decide) u3 (winsTo l0 k) ((ones row).length : Int) rfl rfl ?aO ?aB ?aS ?aL ?_; (case aO => exact pw_own_below HO.out hbw); (case aB => exact hB9); (case aS => exact hB9.size); (case aL => omega); intro v1 w1 hown hB1 hg hat))
      go_roundw
      case rel => exact ⟨k + 1, by omega, by go_num, ⟨by rw [winsTo_succ hlt, HX.out]; exact hown⟩, hB1⟩
      case measure => simp [intOf]; omega
    · obtain rfl : k = l0.length := by omega
      go_wp2
      go_ret
      exact ⟨_, rfl, Kd.R_of_own (by rw [← winsTo_all]; exact HO.out) (fun _ _ => trivial), hB⟩

end Go.Proofs.Ytbnjffhcpkfnhaa.H
