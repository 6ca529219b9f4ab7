/- sun.upsets in closed form. -/
import Derived.Test.YtbnjffhcpkfnhaaHS
import Derived.Test.YtbnjffhcpkfnhaaHW
namespace Go.Proofs.Ytbnjffhcpkfnhaa.H
open Go.RowKit Go.Shelf Go.Proofs.YtbnjffhcpkfnhaaW.PrintWords Go.Proofs.YtbnjffhcpkfnhaaW.PrintLast Go.Proofs.YtbnjffhcpkfnhaaW.PrintMore
set_option linter.unusedVariables false

def upRow (t : List (List Int)) (l : List Int) (a k : Nat) : Int := sumTo (fun b => ent t (l.getD a 0).toNat (l.getD b 0).toNat) k
def upTo (t : List (List Int)) (l : List Int) (i : Nat) : Int := sumTo (fun a => upRow t l a a) i
def upsS (t : List (List Int)) (l : List Int) : Int := upTo t l l.length
def inTab (t : List (List Int)) (l : List Int) : Bool := decide (errV t = 0) && decide (l.length ≤ 7) && l.all fun x => decide (0 ≤ x) && decide (x < (t.length : Int))
theorem inTab_iff {t : List (List Int)} {l : List Int} : inTab t l = true ↔ errV t = 0 ∧ l.length ≤ 7 ∧ ∀ x ∈ l, 0 ≤ x ∧ x < (t.length : Int) := by
  unfold inTab
  simp only [Bool.and_eq_true, decide_eq_true_eq, List.all_eq_true]
  exact and_assoc
theorem upRow_bound {t : List (List Int)} (h : Right t) (l : List Int) (a k : Nat) (hk : k ≤ 7) : 0 ≤ upRow t l a k ∧ upRow t l a k ≤ 7 := by
  have := sumTo_bound (f := fun b => ent t (l.getD a 0).toNat (l.getD b 0).toNat) (b := 1) (n := k) (fun b _ => by rcases h.bit (l.getD a 0).toNat (l.getD b 0).toNat with e | e <;> rw [e] <;> omega)
  unfold upRow
  omega
theorem upTo_bound {t : List (List Int)} (h : Right t) (l : List Int) (i : Nat) (hi : i ≤ 7) : 0 ≤ upTo t l i ∧ upTo t l i ≤ 49 := by
  have := sumTo_bound (f := fun a => upRow t l a a) (b := 7) (n := i) (fun a ha => upRow_bound h l a a (by omega))
  unfold upTo
  omega

def sun_upsets.f (l0 : List (List Int)) (l1 : List Int) : Option Int := if inTab l0 l1 = true then some (upsS l0 l1) else none

set_option maxRecDepth 100000 in
set_option maxHeartbeats 4000000 in
theorem sun_upsets.calls (A0 : Option Addr) (c0 : Nat) (l0 : List (List Int)) (A1 : Option Addr) (c1 : Nat) (l1 : List Int) (r : Int) (w : World) (hr0 : Kd.C (Kd.slice 3 (Kd.int .i64)) w A0 l0.length l0) (hc0 : l0.length ≤ c0) (hr1 : Kd.C (Kd.int .i64) w A1 l1.length l1) (hc1 : l1.length ≤ c1) (h : sun_upsets.f l0 l1 = some r) :
    Calls Try.prog 86 #[.slice A0 l0.length c0, .slice A1 l1.length c1] w fun e w' => e = .returned (.int .i64 r) ∧ Drawn0 w w' := by
  unfold sun_upsets.f at h
  split at h
  case isFalse => cases h
  case isTrue hin =>
  obtain rfl := Option.some.inj h
  obtain ⟨he, hl7, hx⟩ := inTab_iff.1 hin
  have HRt := Aside0.mk (Right.of he)
  have HX := Aside0.mk hx
  have HR0 := Aside0.mk hr0
  have HR1 := Aside0.mk hr1
  have hn7 := HRt.out.len
  obtain ⟨T, hT⟩ : ∃ T, T = upsS l0 l1 := ⟨_, rfl⟩
  have HT := Aside0.mk hT
  rw [← hT]
  clear hT h hin he hx hr0 hr1
  go_enter Try.func86, Try.ntmps86
  go_wp2
  go_loop [5, 12] (fun s5 s12 => ∃ i : Nat, i ≤ l1.length ∧ s12 = .int .i64 i ∧ s5 = .int .i64 (upTo l0 l1 i)) (fun _ s12 => l1.length - (intOf s12).toNat)
  case atStart => exact ⟨0, Nat.zero_le _, rfl, rfl⟩
  case round =>
    obtain ⟨i, hi, rfl, rfl⟩ := hrel
    by_cases hlt : i < l1.length
    · have hltz : (i : Int) < (l1.length : Int) := by omega
      obtain ⟨ad1, rfl, hcx⟩ := at_ints HR1.out i hlt
      have hxm := HX.out (l1.getD i 0) (by simp [hlt])
      have hbi := upTo_bound HRt.out l1 i (by omega)
      have HS := Aside0.mk (show upTo l0 l1 (i + 1) = upTo l0 l1 i + upRow l0 l1 i i from rfl)
      obtain ⟨x, hxe⟩ := Int.eq_ofNat_of_zero_le hxm.1
      have HXE := Aside0.mk hxe
      rw [hxe] at hxm hcx
      have hxlt : x < l0.length := by omega
      have hxz : (x : Int) < (l0.length : Int) := by omega
      clear hxe
      obtain ⟨U, hU⟩ : ∃ U, upTo l0 l1 i = U := ⟨_, rfl⟩
      have HU := Aside0.mk hU
      rw [hU] at hbi
      have HB := Aside0.mk hbi
      clear hbi
      simp only [hU]
      clear hU
      go_wp2
      go_loop [5, 21] (fun s5 s21 => ∃ k : Nat, k ≤ i ∧ s21 = .int .i64 k ∧ s5 = .int .i64 (U + upRow l0 l1 i k)) (fun _ s21 => i - (intOf s21).toNat)
      case atStart => exact ⟨0, Nat.zero_le _, rfl, by simp [upRow, sumTo]⟩
      case round =>
        obtain ⟨k, hk, rfl, rfl⟩ := hrel
        by_cases hkl : k < i
        · have hkz : (k : Int) < (i : Int) := by omega
          obtain ⟨ad2, e2, hcy⟩ := at_ints HR1.out k (by omega)
          cases e2
          have hym := HX.out (l1.getD k 0) (by simp [show k < l1.length by omega])
          obtain ⟨y, hye⟩ := Int.eq_ofNat_of_zero_le hym.1
          obtain ⟨adT, A0', cc0, rfl, hrow, _, hrd⟩ := at_rows HR0.out x hxlt
          have hsq := HRt.out.row x hxlt
          rw [hsq] at hrow hrd
          rw [hye] at hym hcy
          have hylt : y < l0.length := by omega
          have hyz : (y : Int) < (l0.length : Int) := by omega
          obtain ⟨adr, rfl, hcr⟩ := at_ints hrd y hylt
          have hbk := upRow_bound HRt.out l1 i k (by omega)
          have hstep : upRow l0 l1 i (k + 1) = upRow l0 l1 i k + ent l0 x y := by
            show upRow l0 l1 i k + ent l0 (l1.getD i 0).toNat (l1.getD k 0).toNat = _
            rw [HXE.out, hye, Int.toNat_natCast, Int.toNat_natCast]
          have HST := Aside0.mk hstep
          have hbe := HRt.out.bit x y
          have HBB := HB.out
          unfold ent at hbe HST
          clear hstep hrd hye hsq
          generalize (l0.getD x []).getD y 0 = b at *
          generalize upRow l0 l1 i k = m at *
          go_wp2
          go_round
          case rel => exact ⟨k + 1, by omega, by go_num, by rw [HST.out, Int.add_assoc]⟩
          case measure => simp [intOf]; omega
        · obtain rfl : k = i := by omega
          have hm : Aside0 (U + upRow l0 l1 k k = upTo l0 l1 (k + 1)) := ⟨by rw [HS.out, HU.out]⟩
          generalize U + upRow l0 l1 k k = m at *
          go_wp2
          go_round
          case rel => exact ⟨k + 1, by omega, by go_num, by rw [hm.out]⟩
          case measure => simp [intOf]; omega
    · obtain rfl : i = l1.length := by omega
      have hm : Aside0 (T = upTo l0 l1 l1.length) := ⟨HT.out⟩
      generalize upTo l0 l1 l1.length = m at *
      obtain rfl := hm.out
      go_wp2
      go_ret
      exact ⟨rfl, Drawn0.refl _⟩
end Go.Proofs.Ytbnjffhcpkfnhaa.H
