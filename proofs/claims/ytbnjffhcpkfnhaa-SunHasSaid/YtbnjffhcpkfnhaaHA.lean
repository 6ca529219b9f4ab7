/- The contracts of slices.IndexFunc and slices.ContainsFunc at []int, for every predicate that reads and turns nothing; sun.isBits. -/
import Derived.Test.YtbnjffhcpkfnhaaProg
import Derived.Shelf.Abstract
import Derived.Test.YtbnjffhcpkfnhaaWz
namespace Go.Proofs.Ytbnjffhcpkfnhaa.H
open Go.RowKit Go.Proofs.YtbnjffhcpkfnhaaW.PrintWords Go.Proofs.YtbnjffhcpkfnhaaW.PrintLast Go.Proofs.YtbnjffhcpkfnhaaW.PrintMore
set_option linter.unusedVariables false

/-- Where a predicate first holds, or -1. -/
def idxF (p : Int → Bool) (l : List Int) : Int := match l.findIdx? p with | some i => i | none => -1

theorem idxF_hit (p : Int → Bool) (l : List Int) (k : Nat) (hk : k < l.length) (hp : p (l.getD k 0) = true) (hm : ∀ j, j < k → p (l.getD j 0) = false) : idxF p l = k := by
  have : l.findIdx? p = some k := by
    rw [List.findIdx?_eq_some_iff_getElem]
    refine ⟨hk, by simpa [hk] using hp, fun j hj => ?_⟩
    have := hm j hj
    have hj' : j < l.length := by omega
    simpa [hj'] using this
  simp [idxF, this]
theorem idxF_miss (p : Int → Bool) (l : List Int) (hm : ∀ j, j < l.length → p (l.getD j 0) = false) : idxF p l = -1 := by
  have : l.findIdx? p = none := by
    rw [List.findIdx?_eq_none_iff]
    intro x hx
    obtain ⟨j, hj, rfl⟩ := List.getElem_of_mem hx
    have := hm j hj
    simpa [hj] using this
  simp [idxF, this]
theorem idxF_any (p : Int → Bool) (l : List Int) : decide (0 ≤ idxF p l) = l.any p := by
  unfold idxF
  cases h : l.findIdx? p with
  | none =>
    rw [List.findIdx?_eq_none_iff] at h
    have : l.any p = false := by
      rw [List.any_eq_false]
      intro x hx
      simp [h x hx]
    rw [this]; rfl
  | some i =>
    rw [List.findIdx?_eq_some_iff_getElem] at h
    obtain ⟨hi, hp, _⟩ := h
    have : l.any p = true := List.any_eq_true.2 ⟨l[i], List.getElem_mem hi, hp⟩
    rw [this]; simp

set_option maxHeartbeats 2000000 in
theorem slices_IndexFunc.calls (p : Int → Bool) (g : Nat) (lb : Array Value) (eg : ∀ args w, (callFunc g args).run Try.prog w = .ok (.enter g args) w) (A0 : Option Addr) (c0 : Nat) (l0 : List Int) (w : World)
    (hr0 : Kd.C (Kd.int .i64) w A0 l0.length l0)
    (hp : ∀ (x : Int) (q : Nat), x ∈ l0 → Calls Try.prog g (#[.int .i64 x] ++ lb) (w.drewN q) fun e w' => e = .returned (.bool (p x)) ∧ ∃ q', w' = (w.drewN q).drewN q') :
    Calls Try.prog 92 #[.slice A0 l0.length c0, .func (.func g) #[] lb] w fun e w' => e = .returned (.int .i64 (idxF p l0)) ∧ ∃ q, w' = w.drewN q := by
  have HR := Aside0.mk hr0
  have hbig : l0.length ≤ 9223372036854775807 := hr0.2.1
  have hpAt : ∀ (k : Nat) (q : Nat), k < l0.length → Calls Try.prog g (#[.int .i64 (rd l0 k)] ++ lb) (w.drewN q) fun e w' => e = .returned (.bool (p (rd l0 k))) ∧ ∃ q', w' = (w.drewN q).drewN q' := fun k q hk => hp _ q (by simp [rd, hk])
  clear hp hr0
  go_enter Try.func92, Try.ntmps92
  go_wp2
  go_loopg [5, 8] l0.length (fun gg _ s8 wr => ∃ kk q : Nat, kk ≤ l0.length ∧ l0.length - kk ≤ gg ∧ s8 = .int .i64 kk ∧ wr = w.drewN q ∧ Aside0 (∀ j, j < kk → p (l0.getD j 0) = false))
  case atStart => exact ⟨0, 0, Nat.zero_le _, by omega, rfl, rfl, ⟨fun j hj => absurd hj (Nat.not_lt_zero _)⟩⟩
  case round =>
    obtain ⟨kk, q, hkk, hg, rfl, rfl, A⟩ := hrel
    by_cases hlt : kk < l0.length
    · have hltz : (kk : Int) < (l0.length : Int) := by omega
      obtain ⟨ad, e1, hcell⟩ := Kd.at_int HR.out (kk : Int) (by omega) hltz
      cases e1
      rw [Int.toNat_natCast] at hcell
      have hcall := hpAt kk
      have hcall' := fun q => hcall q hlt
      clear hcall hpAt
      cases hq : p (rd l0 kk) with
      | true =>
        have hq' : Aside0 (p (rd l0 kk) = true) := ⟨hq⟩
        rw [hq] at hcall'
        clear hq
        go_wp2_with (go_at_fn g; refine (hcall' _).mono ?_; rintro e w' ⟨rfl, q', rfl⟩)
        go_ret
        refine ⟨?_, _, rfl⟩
        rw [idxF_hit p l0 kk hlt (by simpa [rd] using hq'.out) A.out]
        rfl
      | false =>
        have hq' : Aside0 (p (rd l0 kk) = false) := ⟨hq⟩
        rw [hq] at hcall'
        clear hq
        go_wp2_with (go_at_fn g; refine (hcall' _).mono ?_; rintro e w' ⟨rfl, q', rfl⟩)
        go_roundg (l0.length - (kk + 1))
        case measure => omega
        case rel =>
          refine ⟨kk + 1, _, by omega, by omega, by go_num, rfl, ⟨fun j hj => ?_⟩⟩
          by_cases e : j = kk
          · subst e
            simpa [rd] using hq'.out
          · exact A.out j (by omega)
    · have hltz : ¬ (kk : Int) < (l0.length : Int) := by omega
      have : kk = l0.length := by omega
      subst this
      go_wp2
      go_ret
      refine ⟨?_, q, rfl⟩
      rw [idxF_miss p l0 A.out]
      rfl

set_option maxHeartbeats 2000000 in
theorem slices_ContainsFunc.calls (p : Int → Bool) (g : Nat) (lb : Array Value) (eg : ∀ args w, (callFunc g args).run Try.prog w = .ok (.enter g args) w) (A0 : Option Addr) (c0 : Nat) (l0 : List Int) (w : World)
    (hr0 : Kd.C (Kd.int .i64) w A0 l0.length l0)
    (hp : ∀ (x : Int) (q : Nat), x ∈ l0 → Calls Try.prog g (#[.int .i64 x] ++ lb) (w.drewN q) fun e w' => e = .returned (.bool (p x)) ∧ ∃ q', w' = (w.drewN q).drewN q') :
    Calls Try.prog 107 #[.slice A0 l0.length c0, .func (.func g) #[] lb] w fun e w' => e = .returned (.bool (l0.any p)) ∧ ∃ q, w' = w.drewN q := by
  rw [← idxF_any]
  have hC := slices_IndexFunc.calls p g lb eg A0 c0 l0 w hr0 hp
  clear hp eg hr0
  go_enter Try.func107, Try.ntmps107
  go_wp2_with (go_at_call 92; refine hC.mono ?_; rintro e w' ⟨rfl, q', rfl⟩)
  go_ret
  exact ⟨rfl, _, rfl⟩

theorem isBits_1.calls (x : Int) (w : World) :
    Calls Try.prog 108 #[.int .i64 x] w fun e w' => e = .returned (.bool (decide (x ≠ 0 ∧ x ≠ 1))) ∧ w = w' := by
  by_cases h0 : x = 0
  · subst h0
    go_enter Try.func108, Try.ntmps108
    go_wp2
    go_ret
    exact ⟨rfl, rfl⟩
  · by_cases h1 : x = 1
    · subst h1
      go_enter Try.func108, Try.ntmps108
      go_wp2
      go_ret
      exact ⟨rfl, rfl⟩
    · have e0 : (x != 0) = true := bne_iff_ne.mpr h0
      have e1 : (x != 1) = true := bne_iff_ne.mpr h1
      go_enter Try.func108, Try.ntmps108
      go_wp2
      go_ret
      exact ⟨by simp [h0, h1], rfl⟩

/-- A list of so many bits. -/
def isBitsB (l : List Int) (n : Int) : Bool := decide ((l.length : Int) = n) && l.all fun x => decide (x = 0 ∨ x = 1)
theorem bits_any (l : List Int) : (l.all fun x => decide (x = 0 ∨ x = 1)) = !(l.any fun x => decide (x ≠ 0 ∧ x ≠ 1)) := by
  induction l with
  | nil => rfl
  | cons x l ih =>
    rw [List.all_cons, List.any_cons, ih]
    by_cases h0 : x = 0 <;> by_cases h1 : x = 1 <;> simp [h0, h1]
def sun_isBits.f (l0 : List Int) (a1 : Int) : Option Bool := some (isBitsB l0 a1)
set_option maxHeartbeats 2000000 in
theorem sun_isBits.calls (A0 : Option Addr) (c0 : Nat) (l0 : List Int) (a1 : Int) (r : Bool) (w : World) (hr0 : Kd.C (Kd.int .i64) w A0 l0.length l0) (hc0 : l0.length ≤ c0) (h : sun_isBits.f l0 a1 = some r) :
    Calls Try.prog 77 #[.slice A0 l0.length c0, .int .i64 a1] w fun e w' => e = .returned (.bool r) ∧ Drawn0 w w' := by
  obtain rfl : isBitsB l0 a1 = r := Option.some.inj h
  clear h
  by_cases hl : (l0.length : Int) = a1
  · have hb : isBitsB l0 a1 = !(l0.any fun x => decide (x ≠ 0 ∧ x ≠ 1)) := by
      unfold isBitsB
      rw [decide_eq_true hl, Bool.true_and, bits_any]
    rw [hb]
    have hC := slices_ContainsFunc.calls (fun x => decide (x ≠ 0 ∧ x ≠ 1)) 108 #[] (enters_of Try.func108 (by kernel_rfl) rfl) A0 c0 l0 w hr0 (fun x q _ => (isBits_1.calls x _).mono fun _ _ ⟨he, hw⟩ => ⟨he, 0, hw.symm⟩)
    clear hb hr0
    have hd : ((l0.length : Int) == a1) = true := beq_iff_eq.2 hl
    clear hl
    generalize (l0.any fun x => decide (x ≠ 0 ∧ x ≠ 1)) = b at *
    go_enter Try.func77, Try.ntmps77
    go_wp2_with (go_at_call 107; refine hC.mono ?_; rintro e w' ⟨rfl, q', rfl⟩)
    go_ret
    exact ⟨rfl, ⟨⟨_, rfl⟩⟩⟩
  · have hb : isBitsB l0 a1 = false := by
      unfold isBitsB
      rw [decide_eq_false hl, Bool.false_and]
    rw [hb]
    clear hb hr0
    have hd : ((l0.length : Int) == a1) = false := beq_eq_false_iff_ne.2 hl
    clear hl
    go_enter Try.func77, Try.ntmps77
    go_wp2
    go_ret
    exact ⟨rfl, Drawn0.refl _⟩

end Go.Proofs.Ytbnjffhcpkfnhaa.H
