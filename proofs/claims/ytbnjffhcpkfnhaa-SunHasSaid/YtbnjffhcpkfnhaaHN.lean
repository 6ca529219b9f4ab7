/- What the laws ask of the document's example: the program has its numbers. -/
import Derived.Test.YtbnjffhcpkfnhaaQA1
namespace Go.Proofs.Ytbnjffhcpkfnhaa.H
open Go.RowKit Go.Shelf Go.Proofs.YtbnjffhcpkfnhaaW.PrintWords Go.Proofs.YtbnjffhcpkfnhaaW.PrintLast Go.Proofs.YtbnjffhcpkfnhaaW.PrintMore
set_option linter.unusedVariables false

def ringT : List (List Int) := [[0, 1, 0], [0, 0, 1], [1, 0, 0]]
theorem ring_any (W : World) : Calls Try.prog 74 #[] W fun e w' => ∃ A c, e = .returned (.slice A 3 c) ∧ 3 ≤ c ∧ Kd.C (Kd.slice 3 (Kd.int .i64)) w' A 3 ringT ∧ Below W.heap.size W w' :=
  (QA.verditerlaw05_ring.calls ringT W rfl).mono fun _ _ ⟨v, he, hN, hb⟩ => by
    obtain ⟨A, c, rfl, hc, hC⟩ := Kd.N_reads hN
    exact ⟨A, c, he, hc, hC, hb⟩
theorem ring_ok : errV ringT = 0 := by decide +kernel
theorem ring_wins (A : Option Addr) (c : Nat) (W : World) (hC : Kd.C (Kd.slice 3 (Kd.int .i64)) W A 3 ringT) (hc : 3 ≤ c) :
    Calls Try.prog 37 #[.slice A 3 c] W fun e w' => ∃ v, e = .returned (.tuple #[v, .int .i64 0]) ∧ Kd.R (Kd.int .i64) 3 w' W.heap.size (fun _ => True) v [1, 1, 1] ∧ Below W.heap.size W w' :=
  QA.sun_Wins.calls A c ringT [1, 1, 1] 0 W hC hc (by decide +kernel)
theorem ring_rings (A : Option Addr) (c : Nat) (W : World) (hC : Kd.C (Kd.slice 3 (Kd.int .i64)) W A 3 ringT) (hc : 3 ≤ c) :
    Calls Try.prog 38 #[.slice A 3 c] W fun e w' => e = .returned (.tuple #[.int .i64 1, .int .i64 0]) ∧ Below W.heap.size W w' :=
  QA.sun_Rings.calls 9 A c ringT 1 0 W hC hc (by decide +kernel)
theorem ring_kings (A : Option Addr) (c : Nat) (W : World) (hC : Kd.C (Kd.slice 3 (Kd.int .i64)) W A 3 ringT) (hc : 3 ≤ c) :
    Calls Try.prog 43 #[.slice A 3 c] W fun e w' => ∃ v, e = .returned (.tuple #[v, .int .i64 0]) ∧ Kd.R (Kd.int .i64) 3 w' W.heap.size (fun _ => True) v [0, 1, 2] ∧ Below W.heap.size W w' :=
  sun_Kings.calls A c ringT [0, 1, 2] 0 W hC hc (by decide +kernel)
theorem ring_fewest (A : Option Addr) (c : Nat) (W : World) (hC : Kd.C (Kd.slice 3 (Kd.int .i64)) W A 3 ringT) (hc : 3 ≤ c) :
    Calls Try.prog 49 #[.slice A 3 c] W fun e w' => e = .returned (.tuple #[.int .i64 1, .int .i64 0]) ∧ Below W.heap.size W w' :=
  QA.sun_Fewest.calls A c ringT 1 0 W hC hc (by decide +kernel)
theorem same_three (a b d : Int) (A0 A1 : Option Addr) (c0 c1 : Nat) (W : World) (h0 : Kd.C (Kd.int .i64) W A0 3 [a, b, d]) (h1 : Kd.C (Kd.int .i64) W A1 3 [a, b, d]) (hc0 : 3 ≤ c0) (hc1 : 3 ≤ c1) :
    Calls Try.prog 41 #[.slice A0 3 c0, .slice A1 3 c1] W fun e w' => e = .returned (.bool true) ∧ Drawn0 W w' :=
  QA.verditerref01_SameInts.calls 4 A0 c0 [a, b, d] A1 c1 [a, b, d] true W h0 hc0 h1 hc1 (by simp [QA.verditerref01_SameInts.f, QA.verditerref01_SameInts.l0, rd, wrap64])

theorem new_three (W : World) (a b d : Int) : Kd.C (Kd.int .i64) (W.alloc (.cells #[.int .i64 a, .int .i64 b, .int .i64 d] 3)) (some ⟨W.heap.size, 0, none⟩) 3 [a, b, d] := by
  have h := own_lit W W.heap.size 3 .i64 [a, b, d] (Nat.le_refl _) (by simp)
  have h1 : Kd.R (Kd.int .i64) 3 (W.alloc (.cells #[.int .i64 a, .int .i64 b, .int .i64 d] 3)) W.heap.size (fun _ => True) (.slice (some ⟨W.heap.size, 0, none⟩) 3 3) [a, b, d] := Kd.R_of_own (by simpa [nums, encs] using h) (fun _ _ => trivial)
  obtain ⟨A, c, he, _, hC⟩ := Kd.R_reads h1
  cases he
  exact hC

def verditerlaw05_known.f : Option Bool := some true
set_option maxRecDepth 100000 in
set_option maxHeartbeats 4000000 in
theorem verditerlaw05_known.calls (r : Bool) (w : World) (h : verditerlaw05_known.f = some r) :
    Calls Try.prog 34 #[] w fun e w' => e = .returned (.bool r) ∧ Below w.heap.size w w' := by
  obtain rfl := Option.some.inj h
  go_enter Try.func34, Try.ntmps34
  go_wp2_with fail
  refine (ring_any _).mono ?_
  rintro e w1 ⟨A1, c1, rfl, hc1, hC1, hb1⟩
  go_wp2_with fail
  refine (ring_wins A1 c1 _ hC1 hc1).mono ?_
  rintro e w2 ⟨v2, rfl, hR2, hb2⟩
  obtain ⟨D2, d2, rfl, hd2, hE2⟩ := Kd.R_reads hR2
  have hB2 := hb1.trans (hb2.mono hb1.size)
  clear hR2 hC1 hb1 hb2
  go_wp2_with fail
  refine (ring_any _).mono ?_
  rintro e w3 ⟨A3, c3, rfl, hc3, hC3, hb3⟩
  go_wp2_with fail
  refine (ring_rings A3 c3 _ hC3 hc3).mono ?_
  rintro e w4 ⟨rfl, hb4⟩
  have hE4 := Kd.C_below hE2 (hb3.trans (hb4.mono hb3.size))
  have hB4 := hB2.trans ((hb3.trans (hb4.mono hb3.size)).mono hB2.size)
  clear hC3 hb3 hb4 hE2 hB2
  go_wp2_with fail
  refine (ring_any _).mono ?_
  rintro e w5 ⟨A5, c5, rfl, hc5, hC5, hb5⟩
  go_wp2_with fail
  refine (ring_kings A5 c5 _ hC5 hc5).mono ?_
  rintro e w6 ⟨v6, rfl, hR6, hb6⟩
  obtain ⟨D6, d6, rfl, hd6, hF6⟩ := Kd.R_reads hR6
  have hE6 := Kd.C_below hE4 (hb5.trans (hb6.mono hb5.size))
  have hB6 := hB4.trans ((hb5.trans (hb6.mono hb5.size)).mono hB4.size)
  clear hR6 hC5 hb5 hb6 hE4 hB4
  go_wp2_with fail
  refine (ring_any _).mono ?_
  rintro e w7 ⟨A7, c7, rfl, hc7, hC7, hb7⟩
  go_wp2_with fail
  refine (ring_fewest A7 c7 _ hC7 hc7).mono ?_
  rintro e w8 ⟨rfl, hb8⟩
  have hE8 := Kd.C_below hE6 (hb7.trans (hb8.mono hb7.size))
  have hF8 := Kd.C_below hF6 (hb7.trans (hb8.mono hb7.size))
  have hB8 := hB6.trans ((hb7.trans (hb8.mono hb7.size)).mono hB6.size)
  clear hC7 hb7 hb8 hE6 hF6 hB6
  go_wp2_with fail
  refine (same_three 1 1 1 _ _ _ _ _ (Kd.C_alloc hE8 _) (new_three w8 1 1 1) hd2 (Nat.le_refl 3)).mono ?_
  rintro e w9 ⟨rfl, n9, h9⟩
  have hb9 : Below w8.heap.size w8 w9 := by
    subst h9
    repeat (first | exact Below.refl _ _ | apply pw_below_drewN | apply below_alloc)
  have hF9 := Kd.C_below hF8 hb9
  have hB9 := hB8.trans (hb9.mono hB8.size)
  clear h9 hb9 hF8 hB8
  go_wp2_with fail
  refine (same_three 0 1 2 _ _ _ _ _ (Kd.C_alloc hF9 _) (new_three w9 0 1 2) hd6 (Nat.le_refl 3)).mono ?_
  rintro e w10 ⟨rfl, n10, h10⟩
  have hb10 : Below w9.heap.size w9 w10 := by
    subst h10
    repeat (first | exact Below.refl _ _ | apply pw_below_drewN | apply below_alloc)
  have hB10 := hB9.trans (hb10.mono hB9.size)
  clear h10 hb10 hB9
  go_wp2_with fail
  go_ret
  exact ⟨rfl, hB10⟩

end Go.Proofs.Ytbnjffhcpkfnhaa.H
