/- sun.ranking as a call: the first order with the fewest upsets and how many they are. -/
import Derived.Laws.EntriesVeiled
import Derived.Test.YtbnjffhcpkfnhaaHG
namespace Go.Proofs.Ytbnjffhcpkfnhaa.H
open Go.RowKit Go.Shelf Go.Proofs.YtbnjffhcpkfnhaaW.PrintWords Go.Proofs.YtbnjffhcpkfnhaaW.PrintLast Go.Proofs.YtbnjffhcpkfnhaaW.PrintMore
set_option linter.unusedVariables false

def rankS (t : List (List Int)) : List Int × Int := growR t t.length [] 0 ([], -1)
def sun_ranking.f (l0 : List (List Int)) : Option (List Int × Int) := if errV l0 = 0 then some (rankS l0) else none

set_option maxRecDepth 100000 in
set_option maxHeartbeats 4000000 in
theorem sun_ranking.calls (A0 : Option Addr) (c0 : Nat) (l0 : List (List Int)) (r1 : List Int) (r2 : Int) (w : World) (hr0 : Kd.C (Kd.slice 3 (Kd.int .i64)) w A0 l0.length l0) (hc0 : l0.length ≤ c0) (h : sun_ranking.f l0 = some (r1, r2)) :
    Calls Try.prog 82 #[.slice A0 l0.length c0] w fun e w' => ∃ v0_ : Value, e = .returned (.tuple #[v0_, .int .i64 r2]) ∧ Kd.R (Kd.int .i64) 3 w' w.heap.size (fun _ => True) v0_ r1 ∧ Below w.heap.size w w' := by
  unfold sun_ranking.f at h
  split at h
  case isFalse => cases h
  case isTrue he =>
  have hrs := Option.some.inj h
  clear h
  have hok := errV_ok he
  have h7 := errV_len he
  have hbit : ∀ i k, ent l0 i k = 0 ∨ ent l0 i k = 1 := fun i k => by
    by_cases hi : i < l0.length
    · exact ent_bit (((okV_iff l0).1 hok).1 i hi) k
    · unfold ent; simp [List.getD, List.getElem?_eq_none (show l0.length ≤ i by omega)]
  have hsq : ∀ i, i < l0.length → (l0.getD i []).length = l0.length := fun i hi => ((bitRow_iff l0 i).1 (((okV_iff l0).1 hok).1 i hi)).1
  have hG := grow_all (w.heap.size + 1 + 1) w.heap.size (w.heap.size + 1) (w.heap.size + 1 + 1 + 1) A0 c0 l0 w ⟨hr0, hc0, by omega, by omega, h7, hsq, hbit⟩ l0.length none 0 [] 0 ([], -1) (.slice none 0 0)
  clear hbit hsq hok he
  have HG := Aside0.mk hG
  have HRS := Aside0.mk hrs
  clear hG hrs hr0
  go_enter Try.func82, Try.ntmps82
  go_wp2_with fail
  have bT := ((Boxed.new w 22 (.slice A0 l0.length c0)).alloc (.cells #[.slice none 0 0] 27)).alloc (.cells #[.int .i64 (-1)] 3) |>.alloc (.cells #[growV (w.heap.size + 1 + 1) w.heap.size (w.heap.size + 1) (w.heap.size + 1 + 1 + 1)] 85)
  have bB := ((Boxed.new (w.alloc (.cells #[.slice A0 l0.length c0] 22)) 27 (.slice none 0 0)).alloc (.cells #[.int .i64 (-1)] 3)).alloc (.cells #[growV (w.heap.size + 1 + 1) w.heap.size (w.heap.size + 1) (w.heap.size + 1 + 1 + 1)] 85)
  have bL := (Boxed.new ((w.alloc (.cells #[.slice A0 l0.length c0] 22)).alloc (.cells #[.slice none 0 0] 27)) 3 (.int .i64 (-1))).alloc (.cells #[growV (w.heap.size + 1 + 1) w.heap.size (w.heap.size + 1) (w.heap.size + 1 + 1 + 1)] 85)
  have bG := Boxed.new (((w.alloc (.cells #[.slice A0 l0.length c0] 22)).alloc (.cells #[.slice none 0 0] 27)).alloc (.cells #[.int .i64 (-1)] 3)) 85 (growV (w.heap.size + 1 + 1) w.heap.size (w.heap.size + 1) (w.heap.size + 1 + 1 + 1))
  rw [World.size_alloc] at bB
  rw [World.size_alloc, World.size_alloc] at bL
  rw [World.size_alloc, World.size_alloc, World.size_alloc] at bG
  have hB4 : Below w.heap.size w ((((w.alloc (.cells #[.slice A0 l0.length c0] 22)).alloc (.cells #[.slice none 0 0] 27)).alloc (.cells #[.int .i64 (-1)] 3)).alloc (.cells #[growV (w.heap.size + 1 + 1) w.heap.size (w.heap.size + 1) (w.heap.size + 1 + 1 + 1)] 85)) := ((((Below.refl _ w).alloc (Nat.le_refl _) _).alloc (by simp) _).alloc (by simp; omega) _).alloc (by simp; omega) _
  refine (HG.out _ ⟨bL, bT, bB, bG, own_nil _ _ _ _, by simp [Value.ownBlock]⟩ (by simp) (fun y hy => absurd hy (by simp)) (Int.le_refl _) (by simp) (Kd.F_nil _ _ _) (Nat.le_refl _) hB4).mono ?_
  rintro e w1 ⟨rfl, ⟨v, hV1⟩, hT1⟩
  have hrk : growR l0 l0.length [] 0 ([], -1) = (r1, r2) := HRS.out
  rw [hrk] at hV1
  have c4 := hV1.b4.cell
  have c2 := hV1.b2.cell
  have hBw := hT1.below hB4 (by omega) (by omega) (Nat.le_refl _)
  have HV1 := Aside0.mk hV1
  clear hrk hV1 bT bB bL bG hB4 HG HRS
  go_wp2
  go_quiet (fail)
  go_wp2
  go_ret2
  exact ⟨v, rfl, Kd.R_of_own HV1.out.own (fun _ _ => trivial), pw_below_drewN hBw _⟩

end Go.Proofs.Ytbnjffhcpkfnhaa.H
