/- sun.canWin: the smallest wins always are as many as the pairs among them. -/
import Derived.Test.YtbnjffhcpkfnhaaHCw
import Derived.Test.YtbnjffhcpkfnhaaHVa
namespace Go.Proofs.Ytbnjffhcpkfnhaa.H
open Go.RowKit Go.Shelf Go.Proofs.YtbnjffhcpkfnhaaW.PrintWords Go.Proofs.YtbnjffhcpkfnhaaW.PrintLast Go.Proofs.YtbnjffhcpkfnhaaW.PrintMore
set_option linter.unusedVariables false
set_option linter.unusedSimpArgs false
theorem winsV_ok {l : List Int} (h : winsV l = 0) : 1 ≤ l.length ∧ l.length ≤ 7 ∧ ∀ x ∈ l, 0 ≤ x ∧ x ≤ 7 := by
  unfold winsV at h
  by_cases h1 : l.length < 1 ∨ 7 < l.length
  · rw [if_pos h1] at h; cases h
  · rw [if_neg h1] at h
    by_cases h2 : l.any (fun x => decide (x < 0 ∨ 7 < x)) = true
    · rw [if_pos h2] at h; cases h
    · refine ⟨by omega, by omega, fun x hx => ?_⟩
      apply Classical.byContradiction
      intro hn
      exact h2 (List.any_eq_true.2 ⟨x, hx, decide_eq_true (by omega)⟩)
def preS (l : List Int) (k : Nat) : Int := ((ascL l).take k).sum
/-- The smallest k + 1 need too few. -/
def tooFew (l : List Int) (k : Nat) : Prop := preS l (k + 1) < wrap64 (Int.tdiv (wrap64 ((k : Int) * ((k : Int) + 1))) 2)
instance (l : List Int) (k : Nat) : Decidable (tooFew l k) := inferInstanceAs (Decidable (_ < _))
def canWinB (l : List Int) : Bool := ((List.range l.length).all fun k => !decide (tooFew l k)) && (preS l l.length == wrap64 (Int.tdiv (wrap64 ((l.length : Int) * ((l.length : Int) - 1))) 2))
def sun_canWin.f (l0 : List Int) : Option Bool := if winsV l0 = 0 then some (canWinB l0) else none
theorem asc_mem {l : List Int} {x : Int} : x ∈ ascL l ↔ x ∈ l := (List.mergeSort_perm l _).mem_iff
theorem preS_bound {l : List Int} (h : winsV l = 0) : ∀ k, k ≤ l.length → 0 ≤ preS l k ∧ preS l k ≤ 7 * k
  | 0, _ => by simp [preS]
  | k + 1, hk => by
    have ih := preS_bound h k (by omega)
    have hl := ascL_len l
    unfold preS at ih ⊢
    rw [List.take_succ_eq_append_getElem (by omega), List.sum_append]
    have hm := (winsV_ok h).2.2 _ (asc_mem.1 (List.getElem_mem (show k < (ascL l).length by omega)))
    simp
    omega
theorem preS_succ {l : List Int} {k : Nat} (hk : k < l.length) : preS l (k + 1) = preS l k + (ascL l).getD k 0 := by
  have hl := ascL_len l
  unfold preS
  rw [List.take_succ_eq_append_getElem (by omega), List.sum_append, List.getD_eq_getElem?_getD, List.getElem?_eq_getElem (by omega)]
  simp

set_option maxRecDepth 100000 in
set_option maxHeartbeats 4000000 in
theorem sun_canWin.calls (A0 : Option Addr) (c0 : Nat) (l0 : List Int) (r : Bool) (w : World) (hr0 : Kd.C (Kd.int .i64) w A0 l0.length l0) (hc0 : l0.length ≤ c0) (h : sun_canWin.f l0 = some r) :
    Calls Try.prog 100 #[.slice A0 l0.length c0] w fun e w' => e = .returned (.bool r) ∧ Below w.heap.size w w' := by
  unfold sun_canWin.f at h
  split at h
  case isFalse => cases h
  case isTrue hw =>
  obtain rfl := Option.some.inj h
  clear h
  obtain ⟨h1, h7, hb⟩ := winsV_ok hw
  have HW := Aside0.mk hw
  have hal := ascL_len l0
  have hV := fun a len cap W => (callsIn_wide (n := 5)).1 (values_in Fence.wide 5 trivial rfl a len cap W)
  have hB0 : Below w.heap.size w (w.alloc (.cells #[.slice A0 l0.length c0] 27)) := (Below.refl _ w).alloc (Nat.le_refl _) _
  have hS := sortedC.calls A0 c0 l0 (by omega) w hr0 w.heap.size (w.alloc (.cells #[.slice A0 l0.length c0] 27)) hB0 (Boxed.new w 27 _).cell
  clear hw hb hr0
  go_enter Try.func100, Try.ntmps100
  go_wp2_with (first
    | (go_at_call 118; refine (hV _ _ _ _).mono ?_; rintro e w' ⟨rfl, rfl⟩)
    | (go_at_call 117; refine hS.mono ?_; rintro e w2 ⟨v2, rfl, hO, hB⟩; obtain ⟨A2, c2, rfl⟩ := own_slice hO; have HL : Aside0 (Kd.C (Kd.int .i64) w2 A2 (ascL l0).length (ascL l0)) := ⟨(Kd.R_reads' (Kd.R_of_own (ok := fun _ => True) hO (fun _ _ => trivial))).2.2⟩; have HB := Aside0.mk (hB0.trans (hB.mono hB0.size)); clear hO hB hS hB0))
  rw [hal] at HL
  go_loopw [3, 10] (fun s3 s10 wr => ∃ k : Nat, k ≤ l0.length ∧ s10 = .int .i64 k ∧ s3 = .int .i64 (preS l0 k) ∧ wr = w2 ∧ Aside0 (∀ j, j < k → ¬ tooFew l0 j)) (fun _ s10 _ => l0.length - (intOf s10).toNat)
  case atStart => exact ⟨0, Nat.zero_le _, rfl, rfl, rfl, ⟨fun j hj => absurd hj (Nat.not_lt_zero _)⟩⟩
  case round =>
    obtain ⟨k, hk, rfl, rfl, rfl, HA⟩ := hrel
    by_cases hlt : k < l0.length
    · have hltz : (k : Int) < (l0.length : Int) := by omega
      obtain ⟨ad, rfl, hx⟩ := at_ints HL.out k hlt
      have hp1 := preS_bound HW.out k hk
      have hp2 := preS_bound HW.out (k + 1) (by omega)
      have hps := preS_succ hlt
      have hws : wrap64 (preS l0 k + (ascL l0).getD k 0) = preS l0 (k + 1) := by rw [← hps]; exact wrap_small (by omega) (by omega)
      have HT := Aside0.mk (show tooFew l0 k ↔ preS l0 (k + 1) < wrap64 (Int.tdiv (wrap64 ((k : Int) * ((k : Int) + 1))) 2) from Iff.rfl)
      have hcan : tooFew l0 k → canWinB l0 = false := fun ht => by
        unfold canWinB
        rw [Bool.and_eq_false_iff]
        left
        rw [List.all_eq_false]
        exact ⟨k, List.mem_range.2 hlt, by simp [ht]⟩
      generalize preS l0 k = s at *
      generalize es1 : preS l0 (k + 1) = s1 at *
      have HS1 := Aside0.mk es1
      clear es1
      generalize (ascL l0).getD k 0 = x at *
      clear hps hp1 hp2
      by_cases hf : tooFew l0 k
      · have hfb := eq_true (HT.out.1 hf)
        have HC := Aside0.mk (hcan hf)
        clear hf hcan HT
        go_wp2
        go_ret
        exact ⟨by rw [HC.out]; rfl, HB.out⟩
      · have hfb := eq_false (fun hh => hf (HT.out.2 hh))
        have HF := Aside0.mk hf
        clear hf hcan HT
        go_wp2
        go_roundw
        case rel => exact ⟨k + 1, by omega, by go_num, by rw [HS1.out, hws], trivial, ⟨fun j hj => by
          by_cases e : j = k
          · subst e; exact HF.out
          · exact HA.out j (by omega)⟩⟩
        case measure => simp [intOf]; omega
    · obtain rfl : k = l0.length := by omega
      have HE := Aside0.mk (show canWinB l0 = (preS l0 l0.length == wrap64 (Int.tdiv (wrap64 ((l0.length : Int) * ((l0.length : Int) - 1))) 2)) from by
        unfold canWinB
        rw [show ((List.range l0.length).all fun k => !decide (tooFew l0 k)) = true from List.all_eq_true.2 fun k hk => by simp [HA.out k (List.mem_range.1 hk)], Bool.true_and])
      go_wp2
      go_ret
      exact ⟨by rw [HE.out]; rfl, HB.out⟩
end Go.Proofs.Ytbnjffhcpkfnhaa.H
