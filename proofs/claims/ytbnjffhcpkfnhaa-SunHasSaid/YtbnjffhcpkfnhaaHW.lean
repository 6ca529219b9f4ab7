/- slices.Contains at ints and bools, and sun.isOrder, in closed form. -/
import Derived.Test.YtbnjffhcpkfnhaaQV2
import Derived.Test.YtbnjffhcpkfnhaaHV
namespace Go.Proofs.Ytbnjffhcpkfnhaa.H
open Go.RowKit Go.Proofs.YtbnjffhcpkfnhaaW.PrintWords Go.Proofs.YtbnjffhcpkfnhaaW.PrintLast Go.Proofs.YtbnjffhcpkfnhaaW.PrintMore
set_option linter.unusedVariables false

theorem mem_of_getD {α : Type} [DecidableEq α] (l : List α) (d x : α) (i : Nat) (hi : i < l.length) (h : l.getD i d = x) : x ∈ l := by
  rw [List.getD_eq_getElem?_getD, List.getElem?_eq_getElem hi] at h
  subst h
  exact List.getElem_mem hi

theorem C_int (l : List Int) (x : Int) (hl : l.length ≤ 9223372036854775807) (d : Nat) : ∀ i, i + d = l.length → (∀ j, j < i → l.getD j 0 ≠ x) →
    ∃ r : Int, Ev (fun k => QV.slices_Index_int_int.l0 k l x (l.length : Int) (i : Int)) r ∧ (0 ≤ r ↔ x ∈ l) := by
  induction d with
  | zero =>
    intro i hi hp
    obtain rfl : i = l.length := by omega
    refine ⟨-1, Ev.step (fun k => by simp only [QV.slices_Index_int_int.l0]; rw [if_neg (by omega)]) (Ev.now _), ⟨fun h => absurd h (by omega), fun h => ?_⟩⟩
    obtain ⟨j, hj, he⟩ := List.getElem_of_mem h
    exact absurd (by simpa [hj] using he) (hp j hj)
  | succ d ih =>
    intro i hi hp
    by_cases hx : l.getD i 0 = x
    · refine ⟨i, Ev.step (fun k => ?_) (Ev.now _), ⟨fun _ => mem_of_getD l 0 x i (by omega) hx, fun _ => by omega⟩⟩
      simp only [QV.slices_Index_int_int.l0]
      rw [if_pos (by omega), if_pos (by omega), if_pos (by omega), rd_nat]
      first | rw [if_pos hx.symm] | rw [if_pos hx]
    · obtain ⟨r, hr, hm⟩ := ih (i + 1) (by omega) (fun j hj => by
        by_cases e : j = i
        · subst e; exact hx
        · exact hp j (by omega))
      refine ⟨r, Ev.step (fun k => ?_) hr, hm⟩
      simp only [QV.slices_Index_int_int.l0]
      rw [if_pos (by omega), if_pos (by omega), if_pos (by omega), rd_nat]
      first | rw [if_neg (fun h => hx h.symm), wrap_nat (n := l.length) (by omega) hl] | rw [if_neg hx, wrap_nat (n := l.length) (by omega) hl]

def slices_Contains_int_int.f (l0 : List Int) (a1 : Int) : Option Bool := some (decide (a1 ∈ l0))
theorem slices_Contains_int_int.calls (A0 : Option Addr) (c0 : Nat) (l0 : List Int) (a1 : Int) (r : Bool) (w : World) (hr0 : Kd.C (Kd.int .i64) w A0 l0.length l0) (hc0 : l0.length ≤ c0) (h : slices_Contains_int_int.f l0 a1 = some r) :
    Calls Try.prog 103 #[.slice A0 l0.length c0, .int .i64 a1] w fun e w' => e = .returned (.bool r) ∧ Drawn0 w w' := by
  obtain rfl := Option.some.inj h
  obtain ⟨i, hi, hm⟩ := C_int l0 a1 hr0.2.1 l0.length 0 (by omega) (fun j hj => absurd hj (by omega))
  obtain ⟨k, hk⟩ := hi.rounds
  refine QV.slices_Contains_int_int.calls k A0 c0 l0 a1 _ w hr0 hc0 ?_
  have hk' : QV.slices_Index_int_int.f k l0 a1 = some i := hk
  unfold QV.slices_Contains_int_int.f
  rw [hk', Option.bind_some]
  congr 1
  rw [decide_eq_decide]
  exact hm

theorem C_bool (l : List Bool) (x : Bool) (hl : l.length ≤ 9223372036854775807) (d : Nat) : ∀ i, i + d = l.length → (∀ j, j < i → l.getD j false ≠ x) →
    ∃ r : Int, Ev (fun k => QV.slices_Index_bool_bool.l0 k l x (l.length : Int) (i : Int)) r ∧ (0 ≤ r ↔ x ∈ l) := by
  induction d with
  | zero =>
    intro i hi hp
    obtain rfl : i = l.length := by omega
    refine ⟨-1, Ev.step (fun k => by simp only [QV.slices_Index_bool_bool.l0]; rw [if_neg (by omega)]) (Ev.now _), ⟨fun h => absurd h (by omega), fun h => ?_⟩⟩
    obtain ⟨j, hj, he⟩ := List.getElem_of_mem h
    exact absurd (by simpa [hj] using he) (hp j hj)
  | succ d ih =>
    intro i hi hp
    have hrd : rdOf false l (i : Int) = l.getD i false := by simp [rdOf]
    by_cases hx : l.getD i false = x
    · refine ⟨i, Ev.step (fun k => ?_) (Ev.now _), ⟨fun _ => mem_of_getD l false x i (by omega) hx, fun _ => by omega⟩⟩
      simp only [QV.slices_Index_bool_bool.l0]
      rw [if_pos (by omega), if_pos (by omega), if_pos (by omega), hrd, if_pos (by rw [hx]; simp)]
    · obtain ⟨r, hr, hm⟩ := ih (i + 1) (by omega) (fun j hj => by
        by_cases e : j = i
        · subst e; exact hx
        · exact hp j (by omega))
      refine ⟨r, Ev.step (fun k => ?_) hr, hm⟩
      simp only [QV.slices_Index_bool_bool.l0]
      rw [if_pos (by omega), if_pos (by omega), if_pos (by omega), hrd, if_neg (by simpa using fun h : x = l.getD i false => hx h.symm), wrap_nat (n := l.length) (by omega) hl]

def slices_Contains_bool_bool.f (l0 : List Bool) (a1 : Bool) : Option Bool := some (decide (a1 ∈ l0))
theorem slices_Contains_bool_bool.calls (A0 : Option Addr) (c0 : Nat) (l0 : List Bool) (a1 : Bool) (r : Bool) (w : World) (hr0 : Kd.C Kd.bool w A0 l0.length l0) (hc0 : l0.length ≤ c0) (h : slices_Contains_bool_bool.f l0 a1 = some r) :
    Calls Try.prog 80 #[.slice A0 l0.length c0, .bool a1] w fun e w' => e = .returned (.bool r) ∧ Drawn0 w w' := by
  obtain rfl := Option.some.inj h
  obtain ⟨i, hi, hm⟩ := C_bool l0 a1 hr0.2.1 l0.length 0 (by omega) (fun j hj => absurd hj (by omega))
  obtain ⟨k, hk⟩ := hi.rounds
  refine QV.slices_Contains_bool_bool.calls k A0 c0 l0 a1 _ w hr0 hc0 ?_
  have hk' : QV.slices_Index_bool_bool.f k l0 a1 = some i := hk
  unfold QV.slices_Contains_bool_bool.f
  rw [hk', Option.bind_some]
  congr 1
  rw [decide_eq_decide]
  exact hm

/-- Each number below the length is there. -/
def isOrd (l : List Int) (n : Int) : Bool := decide ((l.length : Int) = n) && (List.range l.length).all fun i => decide ((i : Int) ∈ l)
theorem isOrd_iff (l : List Int) (n : Int) : isOrd l n = true ↔ (l.length : Int) = n ∧ ∀ i, i < l.length → (i : Int) ∈ l := by
  unfold isOrd
  simp only [Bool.and_eq_true, decide_eq_true_eq, List.all_eq_true, List.mem_range]

theorem QV_contains (l : List Int) (x : Int) (hl : l.length ≤ 9223372036854775807) : Ev (fun k => QV.slices_Contains_int_int.f k l x) (decide (x ∈ l)) := by
  obtain ⟨i, hi, hm⟩ := C_int l x hl l.length 0 (by omega) (fun j hj => absurd hj (by omega))
  have h := Ev.bind (f := fun _ (t : Int) => (some (decide (t ≥ 0)))) (g := fun k => QV.slices_Index_int_int.f k l x) hi (Ev.now _)
  have e : decide (i ≥ 0) = decide (x ∈ l) := by rw [decide_eq_decide]; exact hm
  rw [e] at h
  exact h

theorem O_l0 (l : List Int) (hl : l.length ≤ 9223372036854775807) (d : Nat) : ∀ i, i + d = l.length → (∀ j, j < i → (j : Int) ∈ l) →
    Ev (fun k => QV.sun_isOrder.l0 k l (l.length : Int) (i : Int)) (isOrd l l.length) := by
  induction d with
  | zero =>
    intro i hi hp
    obtain rfl : i = l.length := by omega
    rw [(isOrd_iff l l.length).2 ⟨rfl, hp⟩]
    exact Ev.step (fun k => by simp only [QV.sun_isOrder.l0]; rw [if_neg (by omega)]) (Ev.now _)
  | succ d ih =>
    intro i hi hp
    refine Ev.step (f := fun k => (QV.slices_Contains_int_int.f k l (i : Int)).bind fun t112 => (if t112 = true then (QV.sun_isOrder.l0 k l (l.length : Int) (wrap64 ((i : Int) + 1))) else (some false))) (fun k => by simp only [QV.sun_isOrder.l0]; rw [if_pos (by omega)]) ?_
    by_cases hx : (i : Int) ∈ l
    · refine Ev.bind (a := true) (by have := QV_contains l (i : Int) hl; rwa [decide_eq_true hx] at this) ?_
      refine Ev.congr (f := fun k => QV.sun_isOrder.l0 k l (l.length : Int) ((i + 1 : Nat) : Int)) (fun k => by rw [if_pos rfl, wrap_nat (n := l.length) (by omega) hl]) ?_
      refine ih (i + 1) (by omega) (fun j hj => ?_)
      by_cases e : j = i
      · subst e; exact hx
      · exact hp j (by omega)
    · have ho : isOrd l l.length = false := by
        cases h : isOrd l l.length with
        | false => rfl
        | true => exact absurd (((isOrd_iff l l.length).1 h).2 i (by omega)) hx
      rw [ho]
      refine Ev.bind (a := false) (by have := QV_contains l (i : Int) hl; rwa [decide_eq_false hx] at this) ?_
      exact Ev.congr (f := fun k => some false) (fun k => by rw [if_neg (by simp)]) (Ev.now _)

def sun_isOrder.f (l0 : List Int) (a1 : Int) : Option Bool := some (isOrd l0 a1)
theorem sun_isOrder.calls (A0 : Option Addr) (c0 : Nat) (l0 : List Int) (a1 : Int) (r : Bool) (w : World) (hr0 : Kd.C (Kd.int .i64) w A0 l0.length l0) (hc0 : l0.length ≤ c0) (h : sun_isOrder.f l0 a1 = some r) :
    Calls Try.prog 113 #[.slice A0 l0.length c0, .int .i64 a1] w fun e w' => e = .returned (.bool r) ∧ Drawn0 w w' := by
  obtain rfl := Option.some.inj h
  have hl := hr0.2.1
  by_cases hn : (l0.length : Int) = a1
  · subst hn
    obtain ⟨k, hk⟩ := (O_l0 l0 hl l0.length 0 (by omega) (fun j hj => absurd hj (by omega))).rounds
    refine QV.sun_isOrder.calls k A0 c0 l0 _ _ w hr0 hc0 ?_
    unfold QV.sun_isOrder.f
    rw [if_pos rfl]
    exact hk
  · have ho : isOrd l0 a1 = false := by unfold isOrd; rw [decide_eq_false hn]; rfl
    rw [ho]
    refine QV.sun_isOrder.calls 0 A0 c0 l0 a1 _ w hr0 hc0 ?_
    unfold QV.sun_isOrder.f
    rw [if_neg hn]

end Go.Proofs.Ytbnjffhcpkfnhaa.H
