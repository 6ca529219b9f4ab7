/- Written by a program of this seat over the kit's print: each function's Lean form, and that the machine's call comes to it. -/
import Derived.Test.YtbnjffhcpkfnhaaQC0
import Derived.Test.YtbnjffhcpkfnhaaQC1
namespace Go.Proofs.Ytbnjffhcpkfnhaa.QC
open Go.RowKit Go.Proofs.YtbnjffhcpkfnhaaW.PrintWords Go.Proofs.YtbnjffhcpkfnhaaW.PrintLast Go.Proofs.YtbnjffhcpkfnhaaW.PrintMore Go.Proofs.Ytbnjffhcpkfnhaa.H Go.Proofs.Ytbnjffhcpkfnhaa.QA Go.Proofs.Ytbnjffhcpkfnhaa.QO
attribute [local go_sem] max2_int min2_int max_two min_two max_three min_three max_four min_four   -- for this text's walks alone
set_option linter.unusedVariables false
set_option linter.unusedSimpArgs false

/-! ### verditerref05_Switch: function 50 -/
def verditerref05_Switch.j0 : Nat → List (List Int) → Int → Int → Bool → Option ((List (List Int)) × Int)
  | 0, _, _, _, _ => none
  | k + 1, x0, x1, x2, x28 => if x28 = true then (some (([] : List (List Int)), 4)) else (if x1 = x2 then (some (([] : List (List Int)), 1)) else ((verditerref01_CopyTable.f k x0).bind fun t124 => (if 0 ≤ x1 then (if x1 < (t124.length : Int) then (if 0 ≤ x2 then (if x2 < (x0.length : Int) then (if x1 < ((rd_L1 x0 x2).length : Int) then (if x2 < ((rd_L1 t124 x1).length : Int) then ((some (t124.set (x1 : Int).toNat ((rd_L1 t124 x1).set (x2 : Int).toNat (rd (rd_L1 x0 x2) x1)) : List (List Int))).bind fun y132 => (if x2 < (t124.length : Int) then (if x1 < (x0.length : Int) then (if x2 < ((rd_L1 x0 x1).length : Int) then (if x1 < ((rd_L1 y132 x2).length : Int) then (some ((y132.set (x2 : Int).toNat ((rd_L1 y132 x2).set (x1 : Int).toNat (rd (rd_L1 x0 x1) x2))), 0)) else (none)) else (none)) else (none)) else (none))) else (none)) else (none)) else (none)) else (none)) else (none)) else (none))))
def verditerref05_Switch.f (k : Nat) (l0 : List (List Int)) (a1 : Int) (a2 : Int) : Option ((List (List Int)) × Int) := (verditerref05_Validate.f l0).bind fun t121 => (if t121 = 0 then ((verditerref01_Within.f a1 0 (wrap64 ((l0.length : Int) - 1))).bind fun t122 => (if t122 = true then ((verditerref01_Within.f a2 0 (wrap64 ((l0.length : Int) - 1))).bind fun t123 => (verditerref05_Switch.j0 k l0 a1 a2 (!t123))) else (verditerref05_Switch.j0 k l0 a1 a2 true))) else (some (([] : List (List Int)), t121)))
theorem verditerref05_Switch.mono_l : ∀ k, (∀ y0 y1 y2 y3, LeO (verditerref05_Switch.j0 k y0 y1 y2 y3) (verditerref05_Switch.j0 (k + 1) y0 y1 y2 y3))
  | 0 => fun _ _ _ _ r h => by simp [verditerref05_Switch.j0] at h
  | k + 1 => by
    have ih0 := verditerref05_Switch.mono_l k
    · intro y0 y1 y2 y3
      unfold verditerref05_Switch.j0
      repeat' first
      | (with_reducible exact ih0 _ _ _ _)
      | (with_reducible exact verditerref01_CopyTable.mono _ _)
      | (with_reducible exact LeO.refl _)
      | (with_reducible exact LeO.none _)
      | (with_reducible refine LeO.ite ?_ ?_)
      | (with_reducible refine LeO.bind ?_ (fun _ => ?_))
      | exact ih0 _ _ _ _
      | exact verditerref01_CopyTable.mono _ _
      | exact LeO.none _
      | refine LeO.ite ?_ ?_
      | refine LeO.bind ?_ (fun _ => ?_)
theorem verditerref05_Switch.mono : ∀ a0 a1 a2 k, LeO (verditerref05_Switch.f k a0 a1 a2) (verditerref05_Switch.f (k + 1) a0 a1 a2) := by
  intro a0 a1 a2 k
  have ih0 := verditerref05_Switch.mono_l k
  unfold verditerref05_Switch.f
  repeat' first
      | (with_reducible exact ih0 _ _ _ _)
      | (with_reducible exact verditerref01_CopyTable.mono _ _)
      | (with_reducible exact LeO.refl _)
      | (with_reducible exact LeO.none _)
      | (with_reducible refine LeO.ite ?_ ?_)
      | (with_reducible refine LeO.bind ?_ (fun _ => ?_))
      | exact ih0 _ _ _ _
      | exact verditerref01_CopyTable.mono _ _
      | exact LeO.none _
      | refine LeO.ite ?_ ?_
      | refine LeO.bind ?_ (fun _ => ?_)
def verditerref05_Switch.T9 : Bool × List (List Nat × List Nat) := (true, [([], []), ([], []), ([0, 1], [0, 1]), ([2], [2]), ([], []), ([], []), ([], []), ([5, 6], [5, 6]), ([7], [7]), ([], []), ([8, 9], [8, 9]), ([10], [10]), ([3, 4, 0, 1, 2, 3, 4, 5, 6, 7, 8, 9, 10, 11], [3, 4]), ([12, 11, 0, 1, 2, 3, 4, 5, 6, 7, 8, 9, 10, 11], [11, 12])])
def verditerref05_Switch.B9 : List Nat := [0, 0, 3, 7, 0, 0, 0, 96, 224, 0, 992, 2016, 4095, 8191]
theorem verditerref05_Switch.tab9 : rtab .any (opsOf Try.f50 9) = verditerref05_Switch.T9 := by kernel_rfl
theorem verditerref05_Switch.bits9 : waitsOk verditerref05_Switch.T9.2 verditerref05_Switch.B9 = true := by kernel_rfl
def verditerref05_Switch.T10 : Bool × List (List Nat × List Nat) := (true, [([], []), ([], []), ([0, 1], [0, 1]), ([2], [2]), ([], []), ([], []), ([], []), ([5, 6], [5, 6]), ([7], [7]), ([], []), ([8, 9], [8, 9]), ([10], [10]), ([3, 4, 0, 1, 2, 3, 4, 5, 6, 7, 8, 9, 10, 11], [3, 4]), ([12, 11, 0, 1, 2, 3, 4, 5, 6, 7, 8, 9, 10, 11], [11, 12])])
def verditerref05_Switch.B10 : List Nat := [0, 0, 3, 7, 0, 0, 0, 96, 224, 0, 992, 2016, 4095, 8191]
theorem verditerref05_Switch.tab10 : rtab .any (opsOf Try.f50 10) = verditerref05_Switch.T10 := by kernel_rfl
theorem verditerref05_Switch.bits10 : waitsOk verditerref05_Switch.T10.2 verditerref05_Switch.B10 = true := by kernel_rfl
set_option maxHeartbeats 8000000 in
set_option maxRecDepth 100000 in
theorem verditerref05_Switch.calls (k : Nat) (A0 : Option Addr) (c0 : Nat) (l0 : List (List Int)) (a1 : Int) (a2 : Int) (r1 : List (List Int)) (r2 : Int) (w : World) (hr0 : Kd.C (Kd.slice 3 (Kd.int .i64)) w A0 l0.length l0) (hc0 : l0.length ≤ c0) (h : verditerref05_Switch.f k l0 a1 a2 = some (r1, r2)) :
    Calls Try.prog 50 #[.slice A0 l0.length c0, .int .i64 a1, .int .i64 a2] w fun e w' => ∃ v0_ : Value, e = .returned (.tuple #[v0_, .int .i64 r2]) ∧ Kd.S (Kd.slice 3 (Kd.int .i64)) 27 w' w.heap.size (fun _ => True) v0_ r1 ∧ Below w.heap.size w w' := by
  have HR0 := Aside0.mk hr0
  have HC0 := Aside0.mk hc0
  clear hr0 hc0
  have HB := Aside0.mk (Below.refl w.heap.size w)
  have H : ((verditerref05_Validate.f l0).bind fun t121 => (if t121 = 0 then ((verditerref01_Within.f a1 0 (wrap64 ((l0.length : Int) - 1))).bind fun t122 => (if t122 = true then ((verditerref01_Within.f a2 0 (wrap64 ((l0.length : Int) - 1))).bind fun t123 => (verditerref05_Switch.j0 k l0 a1 a2 (!t123))) else (verditerref05_Switch.j0 k l0 a1 a2 true))) else (some (([] : List (List Int)), t121)))) = some (r1, r2) := h
  clear h
  replace H := Option.bind_eq_some_iff.mp H
  obtain ⟨t121, A40, H⟩ := H
  replace H : (if t121 = 0 then ((verditerref01_Within.f a1 0 (wrap64 ((l0.length : Int) - 1))).bind fun t122 => (if t122 = true then ((verditerref01_Within.f a2 0 (wrap64 ((l0.length : Int) - 1))).bind fun t123 => (verditerref05_Switch.j0 k l0 a1 a2 (!t123))) else (verditerref05_Switch.j0 k l0 a1 a2 true))) else (some (([] : List (List Int)), t121))) = some (r1, r2) := H
  have A4 := Aside0.mk A40
  clear A40
  by_cases c5 : t121 = 0
  · rw [if_pos c5] at H
    have c5b0 : (t121 == 0) = true := beq_iff_eq.mpr c5
    have c5b1 : (t121 != 0) = false := bne_eq_false_iff_eq.mpr c5
    clear c5
    have HC6 := Aside0.mk H
    clear H
    go_enter Try.func50, Try.ntmps50
    go_upto_region 4 with (first | ((with_reducible refine gate_callee (f := 40) rfl ?_); refine goesL_ (some 11) rfl rfl Try.func40 (by kernel_rfl) rfl #[.slice A0 l0.length c0] rfl (by (try simp only [List.map_toArray, List.map_cons, List.map_nil]); first | done | rfl | (simp only [List.length_drop, List.length_take]; rfl)) ?_; (with_reducible refine (verditerref05_Validate.calls _ _ l0 t121 _ ?side1 ?side2 A4.out).mono ?_); (case side1 => repeat (first | exact HR0.out | (with_reducible refine Kd.C_alloc ?_ _) | (with_reducible refine Kd.C_drewN ?_ _) | (with_reducible refine Kd.C_drew ?_))); (case side2 => exact HC0.out); rintro e w' ⟨rfl, ⟨nd, rfl⟩⟩; refine ⟨_, rfl, ?_⟩))
    (try simp only [Act.put, List.setIfInBounds_toArray, List.set_cons_zero, List.set_cons_succ])
    go_cut [28] (fun v28 wc => ∃ (kq : Nat) (x28_5 : Bool), v28 = .bool x28_5 ∧ Aside0 (verditerref05_Switch.j0 kq l0 a1 a2 x28_5 = some (r1, r2)) ∧ Aside0 (kq ≤ k) ∧ Aside0 (Below w.heap.size w wc))
    case first =>
      have H := HC6.out
      clear HC6
      replace H := Option.bind_eq_some_iff.mp H
      obtain ⟨t122, A70, H⟩ := H
      replace H : (if t122 = true then ((verditerref01_Within.f a2 0 (wrap64 ((l0.length : Int) - 1))).bind fun t123 => (verditerref05_Switch.j0 k l0 a1 a2 (!t123))) else (verditerref05_Switch.j0 k l0 a1 a2 true)) = some (r1, r2) := H
      have A7 := Aside0.mk A70
      clear A70
      by_cases c8 : t122 = true
      · subst c8
        have H1 : ((verditerref01_Within.f a2 0 (wrap64 ((l0.length : Int) - 1))).bind fun t123 => (verditerref05_Switch.j0 k l0 a1 a2 (!t123))) = some (r1, r2) := by rw [if_pos rfl] at H; exact H
        clear H
        have H := H1
        clear H1
        replace H := Option.bind_eq_some_iff.mp H
        obtain ⟨t123, A90, H⟩ := H
        replace H : (verditerref05_Switch.j0 k l0 a1 a2 (!t123)) = some (r1, r2) := H
        have A9 := Aside0.mk A90
        clear A90
        have H' := Aside0.mk H
        clear H
        go_wp2_with (first | ((with_reducible refine gate_callee (f := 78) rfl ?_); refine goesL_ (some 19) rfl rfl Try.func78 (by kernel_rfl) rfl #[.int .i64 a1, .int .i64 0, .int .i64 (wrap64 ((l0.length : Int) - 1))] rfl (by (try simp only [List.map_toArray, List.map_cons, List.map_nil]); first | done | rfl | (simp only [List.length_drop, List.length_take]; rfl)) ?_; (with_reducible refine (verditerref01_Within.calls a1 0 (wrap64 ((l0.length : Int) - 1)) true _ A7.out).mono ?_); rintro e w' ⟨rfl, ⟨nd, rfl⟩⟩; refine ⟨_, rfl, ?_⟩) | (go_at_call 78; (with_reducible refine (verditerref01_Within.calls a2 0 (wrap64 ((l0.length : Int) - 1)) t123 _ A9.out).mono ?_); rintro e w' ⟨rfl, ⟨nd, rfl⟩⟩))
        go_meet
        case rel => exact ⟨_, (!t123), (by first | rfl | (simp; done) | (simp [*]; done)), H', ⟨by first | omega | exact Nat.le_refl _⟩, ⟨by repeat (first | (with_reducible first | exact HB.out | apply below_alloc | apply pw_below_drewN | apply below_drew1) | exact HB.out)⟩⟩
      · replace c8 := Bool.eq_false_iff.mpr c8
        subst c8
        have H1 : (verditerref05_Switch.j0 k l0 a1 a2 true) = some (r1, r2) := by rw [if_neg (show ¬ (false = true) by decide)] at H; exact H
        clear H
        have H := H1
        clear H1
        have H' := Aside0.mk H
        clear H
        go_wp2_with (first | ((with_reducible refine gate_callee (f := 78) rfl ?_); refine goesL_ (some 19) rfl rfl Try.func78 (by kernel_rfl) rfl #[.int .i64 a1, .int .i64 0, .int .i64 (wrap64 ((l0.length : Int) - 1))] rfl (by (try simp only [List.map_toArray, List.map_cons, List.map_nil]); first | done | rfl | (simp only [List.length_drop, List.length_take]; rfl)) ?_; (with_reducible refine (verditerref01_Within.calls a1 0 (wrap64 ((l0.length : Int) - 1)) false _ A7.out).mono ?_); rintro e w' ⟨rfl, ⟨nd, rfl⟩⟩; refine ⟨_, rfl, ?_⟩))
        go_meet
        case rel => exact ⟨_, (true), (by first | rfl | (simp; done) | (simp [*]; done)), H', ⟨by first | omega | exact Nat.le_refl _⟩, ⟨by repeat (first | (with_reducible first | exact HB.out | apply below_alloc | apply pw_below_drewN | apply below_drew1) | exact HB.out)⟩⟩
    case rest =>
      clear HC6
      try clear p2
      try clear c4
      try clear c5
      try clear c5b0
      try clear c5b1
      try clear p6
      try clear c7
      try clear c8
      obtain ⟨kq, x28_5, rfl, HA, HJ5, HB⟩ := hcut
      cases kq with
      | zero => exact absurd HA.out (by simp [verditerref05_Switch.j0])
      | succ kj5 =>
        have H := HA.out
        clear HA
        simp only [verditerref05_Switch.j0] at H
        by_cases c10 : x28_5 = true
        · subst c10
          have H1 : (some (([] : List (List Int)), 4)) = some (r1, r2) := by rw [if_pos rfl] at H; exact H
          clear H
          have H := H1
          clear H1
          simp only [Option.some.injEq, Prod.mk.injEq] at H
          obtain ⟨rfl, rfl⟩ := H
          go_wp2
          go_ret2
          exact ⟨_, by first | rfl | (simp [errW_none, errW_some] <;> rfl) | (simp [*, errW_none, errW_some] <;> rfl), by first | exact Kd.S_nil _ _ _ _ _ | exact Kd.N_nil _ _ _ _ _ | exact Kd.V_nil _ _ _ _ _ | exact Kd.Q_nil _ _ _ _ _ | exact Kd.R_nil _ _ _ _ _, by repeat (first | (with_reducible first | exact HB.out | apply below_alloc | apply pw_below_drewN | apply below_drew1) | exact HB.out)⟩
        · replace c10 := Bool.eq_false_iff.mpr c10
          subst c10
          have H1 : (if a1 = a2 then (some (([] : List (List Int)), 1)) else ((verditerref01_CopyTable.f kj5 l0).bind fun t124 => (if 0 ≤ a1 then (if a1 < (t124.length : Int) then (if 0 ≤ a2 then (if a2 < (l0.length : Int) then (if a1 < ((rd_L1 l0 a2).length : Int) then (if a2 < ((rd_L1 t124 a1).length : Int) then ((some (t124.set (a1 : Int).toNat ((rd_L1 t124 a1).set (a2 : Int).toNat (rd (rd_L1 l0 a2) a1)) : List (List Int))).bind fun y132 => (if a2 < (t124.length : Int) then (if a1 < (l0.length : Int) then (if a2 < ((rd_L1 l0 a1).length : Int) then (if a1 < ((rd_L1 y132 a2).length : Int) then (some ((y132.set (a2 : Int).toNat ((rd_L1 y132 a2).set (a1 : Int).toNat (rd (rd_L1 l0 a1) a2))), 0)) else (none)) else (none)) else (none)) else (none))) else (none)) else (none)) else (none)) else (none)) else (none)) else (none)))) = some (r1, r2) := by rw [if_neg (show ¬ (false = true) by decide)] at H; exact H
          clear H
          have H := H1
          clear H1
          by_cases c11 : a1 = a2
          · rw [if_pos c11] at H
            have c11b0 : (a1 == a2) = true := beq_iff_eq.mpr c11
            have c11b1 : (a1 != a2) = false := bne_eq_false_iff_eq.mpr c11
            clear c11
            simp only [Option.some.injEq, Prod.mk.injEq] at H
            obtain ⟨rfl, rfl⟩ := H
            go_wp2
            go_ret2
            exact ⟨_, by first | rfl | (simp [errW_none, errW_some] <;> rfl) | (simp [*, errW_none, errW_some] <;> rfl), by first | exact Kd.S_nil _ _ _ _ _ | exact Kd.N_nil _ _ _ _ _ | exact Kd.V_nil _ _ _ _ _ | exact Kd.Q_nil _ _ _ _ _ | exact Kd.R_nil _ _ _ _ _, by repeat (first | (with_reducible first | exact HB.out | apply below_alloc | apply pw_below_drewN | apply below_drew1) | exact HB.out)⟩
          · rw [if_neg c11] at H
            have c11b0 : (a1 == a2) = false := beq_eq_false_iff_ne.mpr c11
            have c11b1 : (a1 != a2) = true := bne_iff_ne.mpr c11
            replace H := Option.bind_eq_some_iff.mp H
            obtain ⟨t124, A120, H⟩ := H
            replace H : (if 0 ≤ a1 then (if a1 < (t124.length : Int) then (if 0 ≤ a2 then (if a2 < (l0.length : Int) then (if a1 < ((rd_L1 l0 a2).length : Int) then (if a2 < ((rd_L1 t124 a1).length : Int) then ((some (t124.set (a1 : Int).toNat ((rd_L1 t124 a1).set (a2 : Int).toNat (rd (rd_L1 l0 a2) a1)) : List (List Int))).bind fun y132 => (if a2 < (t124.length : Int) then (if a1 < (l0.length : Int) then (if a2 < ((rd_L1 l0 a1).length : Int) then (if a1 < ((rd_L1 y132 a2).length : Int) then (some ((y132.set (a2 : Int).toNat ((rd_L1 y132 a2).set (a1 : Int).toNat (rd (rd_L1 l0 a1) a2))), 0)) else (none)) else (none)) else (none)) else (none))) else (none)) else (none)) else (none)) else (none)) else (none)) else (none)) = some (r1, r2) := H
            have A12 := Aside0.mk A120
            clear A120
            by_cases c13 : 0 ≤ a1
            · rw [if_pos c13] at H
              have c13b0 : decide (0 ≤ a1) = true := decide_eq_true c13
              clear c13
              by_cases c14 : a1 < (t124.length : Int)
              · rw [if_pos c14] at H
                have c14b0 : decide (a1 < (t124.length : Int)) = true := decide_eq_true c14
                clear c14
                by_cases c15 : 0 ≤ a2
                · rw [if_pos c15] at H
                  have c15b0 : decide (0 ≤ a2) = true := decide_eq_true c15
                  clear c15
                  by_cases c16 : a2 < (l0.length : Int)
                  · rw [if_pos c16] at H
                    have c16b0 : decide (a2 < (l0.length : Int)) = true := decide_eq_true c16
                    clear c16
                    by_cases c17 : a1 < ((rd_L1 l0 a2).length : Int)
                    · rw [if_pos c17] at H
                      have c17b0 : decide (a1 < ((rd_L1 l0 a2).length : Int)) = true := decide_eq_true c17
                      clear c17
                      by_cases c18 : a2 < ((rd_L1 t124 a1).length : Int)
                      · rw [if_pos c18] at H
                        have c18b0 : decide (a2 < ((rd_L1 t124 a1).length : Int)) = true := decide_eq_true c18
                        clear c18
                        obtain ⟨y130, hy130⟩ : ∃ y_ : List Int, y_ = ((rd_L1 t124 a1).set (a2 : Int).toNat (rd (rd_L1 l0 a2) a1)) := ⟨_, rfl⟩
                        replace H : ((some (t124.set (a1 : Int).toNat y130 : List (List Int))).bind fun y132 => (if a2 < (t124.length : Int) then (if a1 < (l0.length : Int) then (if a2 < ((rd_L1 l0 a1).length : Int) then (if a1 < ((rd_L1 y132 a2).length : Int) then (some ((y132.set (a2 : Int).toNat ((rd_L1 y132 a2).set (a1 : Int).toNat (rd (rd_L1 l0 a1) a2))), 0)) else (none)) else (none)) else (none)) else (none))) = some (r1, r2) := by first | (rw [hy130]; with_reducible exact H) | (have H2_ := (Option.bind_some _ _).symm.trans H; rw [hy130]; with_reducible exact H2_) | (have H2_ := (Option.bind_some _ _).symm.trans H; with_reducible exact H2_) | with_reducible exact H | (rw [hy130]; exact H) | exact H
                        have Ny130 := Aside0.mk hy130
                        clear hy130
                        obtain ⟨y132, hy132⟩ : ∃ y_ : List (List Int), y_ = (t124.set (a1 : Int).toNat y130) := ⟨_, rfl⟩
                        replace H : (if a2 < (t124.length : Int) then (if a1 < (l0.length : Int) then (if a2 < ((rd_L1 l0 a1).length : Int) then (if a1 < ((rd_L1 y132 a2).length : Int) then (some ((y132.set (a2 : Int).toNat ((rd_L1 y132 a2).set (a1 : Int).toNat (rd (rd_L1 l0 a1) a2))), 0)) else (none)) else (none)) else (none)) else (none)) = some (r1, r2) := by first | (rw [hy132]; with_reducible exact H) | (have H2_ := (Option.bind_some _ _).symm.trans H; rw [hy132]; with_reducible exact H2_) | (have H2_ := (Option.bind_some _ _).symm.trans H; with_reducible exact H2_) | with_reducible exact H | (rw [hy132]; exact H) | exact H
                        have Ny132 := Aside0.mk hy132
                        clear hy132
                        by_cases c20 : a2 < (t124.length : Int)
                        · rw [if_pos c20] at H
                          have c20b0 : decide (a2 < (t124.length : Int)) = true := decide_eq_true c20
                          clear c20
                          by_cases c21 : a1 < (l0.length : Int)
                          · rw [if_pos c21] at H
                            have c21b0 : decide (a1 < (l0.length : Int)) = true := decide_eq_true c21
                            clear c21
                            by_cases c22 : a2 < ((rd_L1 l0 a1).length : Int)
                            · rw [if_pos c22] at H
                              have c22b0 : decide (a2 < ((rd_L1 l0 a1).length : Int)) = true := decide_eq_true c22
                              clear c22
                              by_cases c23 : a1 < ((rd_L1 y132 a2).length : Int)
                              · rw [if_pos c23] at H
                                have c23b0 : decide (a1 < ((rd_L1 y132 a2).length : Int)) = true := decide_eq_true c23
                                clear c23
                                obtain ⟨y136, hy136⟩ : ∃ y_ : List Int, y_ = ((rd_L1 y132 a2).set (a1 : Int).toNat (rd (rd_L1 l0 a1) a2)) := ⟨_, rfl⟩
                                replace H : (some ((y132.set (a2 : Int).toNat y136), 0)) = some (r1, r2) := by first | (rw [hy136]; with_reducible exact H) | (have H2_ := (Option.bind_some _ _).symm.trans H; rw [hy136]; with_reducible exact H2_) | (have H2_ := (Option.bind_some _ _).symm.trans H; with_reducible exact H2_) | with_reducible exact H | (rw [hy136]; exact H) | exact H
                                have Ny136 := Aside0.mk hy136
                                clear hy136
                                obtain ⟨y138, hy138⟩ : ∃ y_ : List (List Int), y_ = (y132.set (a2 : Int).toNat y136) := ⟨_, rfl⟩
                                replace H : (some (y138, 0)) = some (r1, r2) := by first | (rw [hy138]; with_reducible exact H) | (have H2_ := (Option.bind_some _ _).symm.trans H; rw [hy138]; with_reducible exact H2_) | (have H2_ := (Option.bind_some _ _).symm.trans H; with_reducible exact H2_) | with_reducible exact H | (rw [hy138]; exact H) | exact H
                                have Ny138 := Aside0.mk hy138
                                clear hy138
                                simp only [Option.some.injEq, Prod.mk.injEq] at H
                                obtain ⟨rfl, rfl⟩ := H
                                try go_wp2_with (first | ((with_reducible refine gate_callee (f := 45) rfl ?_); refine goesL_ (some 33) rfl rfl Try.func45 (by kernel_rfl) rfl #[.slice A0 l0.length c0] rfl (by (try simp only [List.map_toArray, List.map_cons, List.map_nil]); first | done | rfl | (simp only [List.length_drop, List.length_take]; rfl)) ?_; (with_reducible refine (verditerref01_CopyTable.calls kj5 _ _ l0 t124 _ ?side1 ?side2 A12.out).mono ?_); (case side1 => repeat (first | exact (Kd.C_below HR0.out HB.out) | (with_reducible refine Kd.C_alloc ?_ _) | (with_reducible refine Kd.C_drewN ?_ _) | (with_reducible refine Kd.C_drew ?_))); (case side2 => exact HC0.out); rintro e w25 ⟨v125, rfl, ho0, hb⟩; refine ⟨_, rfl, ?_⟩; have n0_ := Aside0.mk (Kd.S_lower ho0 (below_size (by repeat (first | (with_reducible first | exact HB.out | apply below_alloc | apply pw_below_drewN | apply below_drew1) | exact HB.out)))); have n1_ := Aside0.mk (below_step (by repeat (first | (with_reducible first | exact HB.out | apply below_alloc | apply pw_below_drewN | apply below_drew1) | exact HB.out)) hb); clear HB; have HO126 := n0_; have HB := n1_; clear n0_ n1_; (try clear hb); (try clear hb2); (try clear hk); (try clear hi); (try clear ho0)))
                                have n0_ := Aside0.mk (Kd.S_drew HO126.out)
                                have n1_ := Aside0.mk (below_drew1 HB.out)
                                clear HO126
                                clear HB
                                have HO126 := n0_
                                have HB := n1_
                                clear n0_ n1_
                                obtain ⟨Ao27, co27, eo27⟩ := Kd.S_slice HO126.out
                                (first | subst eo27 | (injection eo27 with f1_ f2_ f3_; have f4_ := f1_.symm; have f5_ := f3_.symm; clear f1_ f2_ f3_; subst f4_; subst f5_))
                                have p127 : 0 ≤ (a1 : Int) := of_decide_eq_true (by first | (with_reducible assumption) | assumption)
                                have q127 : a1 < (t124.length : Int) := of_decide_eq_true (by first | (with_reducible assumption) | assumption)
                                obtain ⟨ad127, A127_0, c127_0, e127, hx127_0, hl127_0, hi127_0⟩ := at_L1 (Kd.S_reads' HO126.out).2.2 a1 p127 q127
                                cases e127
                                obtain ⟨ce127, hce127, hMe127, hcc127⟩ := Kd.S_get HO126.out [] a1 p127 (by first | exact q127 | exact of_decide_eq_true (by first | (with_reducible assumption) | assumption) | (have e_ := (Kd.S_reads' HO126.out).1; omega))
                                obtain ⟨ve127_0, rfl, ge127_0⟩ := hMe127
                                have hv127_0 := hcc127 0 _ rfl
                                rw [Nat.add_zero, show ((Kd.slice 3 (Kd.int .i64))).sz = 1 from rfl, Nat.mul_one] at hv127_0
                                replace hv127_0 := Option.some.inj (hv127_0.symm.trans hx127_0)
                                rw [hv127_0] at ge127_0
                                have HL127_0 := Aside0.mk (show Kd.R (Kd.int .i64) 3 _ _ _ _ (rd_L1 t124 a1) from ge127_0)
                                clear hv127_0 ge127_0
                                have HX127_0 := Aside0.mk hx127_0
                                clear hcc127 hce127
                                have HR127_0 := Aside0.mk hi127_0
                                have HC127_0 := Aside0.mk hl127_0
                                clear hi127_0 hl127_0
                                replace p127 := eq_true p127
                                replace q127 := eq_true q127
                                have p128 : 0 ≤ (a2 : Int) := of_decide_eq_true (by first | (with_reducible assumption) | assumption)
                                have q128 : a2 < (l0.length : Int) := of_decide_eq_true (by first | (with_reducible assumption) | assumption)
                                obtain ⟨ad128, A128_0, c128_0, e128, hx128_0, hl128_0, hi128_0⟩ := at_L1 HR0.out a2 p128 q128
                                have hw128_0 := hx128_0
                                cases e128
                                replace hx128_0 := (HB.out.cell (World.block_lt_of_cell? w _ hx128_0)).trans hx128_0
                                have HR128_0 := Aside0.mk hi128_0
                                have HC128_0 := Aside0.mk hl128_0
                                clear hi128_0 hl128_0
                                replace p128 := eq_true p128
                                replace q128 := eq_true q128
                                have p129 : 0 ≤ (a1 : Int) := of_decide_eq_true (by first | (with_reducible assumption) | assumption)
                                have q129 : a1 < ((rd_L1 l0 a2).length : Int) := of_decide_eq_true (by first | (with_reducible assumption) | assumption)
                                obtain ⟨ad129, e129, hx129_0⟩ := Kd.at_int HR128_0.out a1 p129 q129
                                have hw129_0 := hx129_0
                                cases e129
                                replace hx129_0 := (HB.out.cell (World.block_lt_of_cell? w _ hx129_0)).trans hx129_0
                                replace p129 := eq_true p129
                                replace q129 := eq_true q129
                                have p19 : 0 ≤ (a2 : Int) := of_decide_eq_true (by first | (with_reducible assumption) | assumption)
                                have q19 : (a2 : Int) < (((rd_L1 t124 a1).length : Int) : Int) := of_decide_eq_true (by first | (with_reducible assumption) | assumption)
                                obtain ⟨go19, co19, eo19, gb19, gl19, cl19, HG19⟩ := Kd.R_form HL127_0.out (by omega)
                                (first | cases eo19 | (injection eo19 with ea_ en_ ec_; (first | subst ea_ | (injection ea_ with ea_; subst ea_)); subst ec_; clear en_))
                                have GB19 := Aside0.mk gb19
                                have GG19 := Aside0.mk HG19
                                clear gb19 gl19 HG19
                                obtain ⟨hx19_0, hf19_0⟩ := Kd.R_celln 0 HL127_0.out (a2 : Int) p19 q19
                                replace p19 := eq_true p19
                                replace q19 := eq_true q19
                                have hq28 : (a1 : Int) < (t124.length : Int) := (by have h_ : (a1 : Int) < ((t124.length : Int) : Int) := of_decide_eq_true (by first | (with_reducible assumption) | assumption); first | exact h_ | (have e_ := (Kd.S_reads' HO126.out).1; omega) | simpa only [List.length_set, List.length_set] using h_)
                                obtain ⟨oki28, ce28, hcl28, hM28, hcc28, hok28, hbk28⟩ := Kd.S_borrow HO126.out [] (a1 : Int) (of_decide_eq_true (by first | (with_reducible assumption) | assumption)) (by first | exact hq28 | (have e_ := (Kd.S_reads' HO126.out).1; omega))
                                obtain ⟨ve28_0, rfl, ge28_0⟩ := hM28
                                have hv28 := hcc28 0 _ rfl
                                rw [Nat.add_zero, show ((Kd.slice 3 (Kd.int .i64))).sz = 1 from rfl, Nat.mul_one] at hv28
                                replace hv28 := Option.some.inj (hv28.symm.trans HX127_0.out)
                                subst hv28
                                clear hcc28 hcl28
                                replace ge28_0 := (show Kd.R (Kd.int .i64) 3 _ _ _ _ (rd_L1 t124 a1) from ge28_0)
                                have HP28 := Kd.R_putg ge28_0 (a2 : Int) (rd (rd_L1 l0 a2) a1)
                                rw [← Ny130.out] at HP28
                                have HS28 := hbk28 HP28.2 (fun k_ e_ => by injection e_ with e_; subst e_; exact ge28_0.1 _ rfl) (x' := y130) (Kd.M_row HP28.1)
                                rw [← Ny132.out] at HS28
                                have HQ28 := Aside0.mk HS28
                                clear HP28 HS28 hbk28 hok28
                                refine start_ (n := 14) (S := fun w' => w'.cell? (ad127.add (a1).toNat) = some (.slice _ (rd_L1 t124 a1).length _) ∧ w'.cell? (ad128.add (a2).toNat) = some (.slice (some ad129) (rd_L1 l0 a2).length c128_0) ∧ w'.cell? (ad129.add (a1).toNat) = some (.int .i64 (rd (rd_L1 l0 a2) a1))) (ds := [13]) #[false, false, false, false, false, false, false, false, false, false, false, false, false, false] (by kernel_rfl) rfl rfl ⟨hx127_0, ((HB.out.cell (World.block_lt_of_cell? w _ hw128_0)).trans hw128_0), ((HB.out.cell (World.block_lt_of_cell? w _ hw129_0)).trans hw129_0)⟩ (fun hHeld => ?_); refine with_tabW verditerref05_Switch.tab9 verditerref05_Switch.bits9 (fun HT_ HW_ => ?_)
                                generalize w25.drew = w26 at HO126 HB GG19 HL127_0 HQ28 HR127_0 HR128_0 HX127_0 hf19_0 hx127_0 hx128_0 hx129_0 hx19_0 hHeld ⊢
                                refine pure_ (i := 0) (N := some 34) (v := ?_) (a' := ?_) #[true, false, false, false, false, false, false, false, false, false, false, false, false, false] rfl rfl (any_of HT_.out (by kernel_rfl)) (fun _ _ _ h => h) (Or.inl ⟨by rfl, ?_⟩) ?_ ?_
                                rotate_left
                                · intro w'
                                  go_simp
                                  with_reducible rfl
                                rotate_left
                                · simp only [Act.put, List.setIfInBounds_toArray, List.set_cons_zero, List.set_cons_succ, i64_w, i32_w]
                                  rfl
                                refine pure_ (i := 1) (N := some 35) (v := ?_) (a' := ?_) #[true, true, false, false, false, false, false, false, false, false, false, false, false, false] rfl rfl (any_of HT_.out (by kernel_rfl)) (fun _ _ _ h => h) (Or.inl ⟨by rfl, ?_⟩) ?_ ?_
                                rotate_left
                                · intro w'
                                  go_simp
                                  with_reducible rfl
                                rotate_left
                                · simp only [Act.put, List.setIfInBounds_toArray, List.set_cons_zero, List.set_cons_succ, i64_w, i32_w]
                                  rfl
                                refine pure_ (i := 2) (N := some 36) (v := ?_) (a' := ?_) #[true, true, true, false, false, false, false, false, false, false, false, false, false, false] rfl rfl (any_of HT_.out (by kernel_rfl)) (fun _ _ _ h => h) (Or.inl ⟨by rfl, ?_⟩) ?_ ?_
                                rotate_left
                                · intro w'
                                  go_simp
                                  with_reducible rfl
                                rotate_left
                                · simp only [Act.put, List.setIfInBounds_toArray, List.set_cons_zero, List.set_cons_succ, i64_w, i32_w]
                                  rfl
                                refine pure_ (i := 4) (N := some 38) (v := ?_) (a' := ?_) #[true, true, true, false, true, false, false, false, false, false, false, false, false, false] rfl rfl (any_of HT_.out (by kernel_rfl)) (fun _ _ _ h => h) (Or.inl ⟨by rfl, ?_⟩) ?_ ?_
                                rotate_left
                                · intro w'
                                  go_simp
                                  with_reducible rfl
                                rotate_left
                                · simp only [Act.put, List.setIfInBounds_toArray, List.set_cons_zero, List.set_cons_succ, i64_w, i32_w]
                                  rfl
                                refine pure_ (i := 5) (N := some 39) (v := ?_) (a' := ?_) #[true, true, true, false, true, true, false, false, false, false, false, false, false, false] rfl rfl (any_of HT_.out (by kernel_rfl)) (fun _ _ _ h => h) (Or.inl ⟨by rfl, ?_⟩) ?_ ?_
                                rotate_left
                                · intro w'
                                  go_simp
                                  with_reducible rfl
                                rotate_left
                                · simp only [Act.put, List.setIfInBounds_toArray, List.set_cons_zero, List.set_cons_succ, i64_w, i32_w]
                                  rfl
                                refine pure_ (i := 6) (N := some 40) (v := ?_) (a' := ?_) #[true, true, true, false, true, true, true, false, false, false, false, false, false, false] rfl rfl (any_of HT_.out (by kernel_rfl)) (fun _ _ _ h => h) (Or.inl ⟨by rfl, ?_⟩) ?_ ?_
                                rotate_left
                                · intro w'
                                  go_simp
                                  with_reducible rfl
                                rotate_left
                                · simp only [Act.put, List.setIfInBounds_toArray, List.set_cons_zero, List.set_cons_succ, i64_w, i32_w]
                                  rfl
                                refine pure_ (i := 7) (N := some 41) (v := ?_) (a' := ?_) #[true, true, true, false, true, true, true, true, false, false, false, false, false, false] rfl rfl (any_of HT_.out (by kernel_rfl)) (fun _ _ _ h => h) (Or.inl ⟨by rfl, ?_⟩) ?_ ?_
                                rotate_left
                                · intro w'
                                  go_simp
                                  with_reducible rfl
                                rotate_left
                                · simp only [Act.put, List.setIfInBounds_toArray, List.set_cons_zero, List.set_cons_succ, i64_w, i32_w]
                                  rfl
                                refine pure_ (i := 9) (N := some 43) (v := ?_) (a' := ?_) #[true, true, true, false, true, true, true, true, false, true, false, false, false, false] rfl rfl (any_of HT_.out (by kernel_rfl)) (fun _ _ _ h => h) (Or.inl ⟨by rfl, ?_⟩) ?_ ?_
                                rotate_left
                                · intro w'
                                  go_simp
                                  with_reducible rfl
                                rotate_left
                                · simp only [Act.put, List.setIfInBounds_toArray, List.set_cons_zero, List.set_cons_succ, i64_w, i32_w]
                                  rfl
                                refine take_ (i := 3) (N := some 37) (v := ?_) (a' := ?_) #[true, true, true, true, true, true, true, true, false, true, false, false, false, false] rfl rfl (take_ofW HT_.out HW_.out (by kernel_rfl)) (fun _ _ _ h => h) (Or.inl ⟨by rfl, ?_⟩) hHeld ?_ ?_
                                rotate_left
                                · rintro w' ⟨s0, s1, s2⟩
                                  go_simp
                                  with_reducible rfl
                                rotate_left
                                · simp only [Act.put, List.setIfInBounds_toArray, List.set_cons_zero, List.set_cons_succ, i64_w, i32_w]
                                  rfl
                                refine take_ (i := 8) (N := some 42) (v := ?_) (a' := ?_) #[true, true, true, true, true, true, true, true, true, true, false, false, false, false] rfl rfl (take_ofW HT_.out HW_.out (by kernel_rfl)) (fun _ _ _ h => h) (Or.inl ⟨by rfl, ?_⟩) hHeld ?_ ?_
                                rotate_left
                                · rintro w' ⟨s0, s1, s2⟩
                                  go_simp
                                  with_reducible rfl
                                rotate_left
                                · simp only [Act.put, List.setIfInBounds_toArray, List.set_cons_zero, List.set_cons_succ, i64_w, i32_w]
                                  rfl
                                refine pure_ (i := 10) (N := some 44) (v := ?_) (a' := ?_) #[true, true, true, true, true, true, true, true, true, true, true, false, false, false] rfl rfl (any_of HT_.out (by kernel_rfl)) (fun _ _ _ h => h) (Or.inl ⟨by rfl, ?_⟩) ?_ ?_
                                rotate_left
                                · intro w'
                                  go_simp
                                  with_reducible rfl
                                rotate_left
                                · simp only [Act.put, List.setIfInBounds_toArray, List.set_cons_zero, List.set_cons_succ, i64_w, i32_w]
                                  rfl
                                refine take_ (i := 11) (N := some 45) (v := ?_) (a' := ?_) #[true, true, true, true, true, true, true, true, true, true, true, true, false, false] rfl rfl (take_ofW HT_.out HW_.out (by kernel_rfl)) (fun _ _ _ h => h) (Or.inl ⟨by rfl, ?_⟩) hHeld ?_ ?_
                                rotate_left
                                · rintro w' ⟨s0, s1, s2⟩
                                  go_simp
                                  with_reducible rfl
                                rotate_left
                                · simp only [Act.put, List.setIfInBounds_toArray, List.set_cons_zero, List.set_cons_succ, i64_w, i32_w]
                                  rfl
                                refine pure_ (i := 12) (N := some 46) (v := ?_) (a' := ?_) #[true, true, true, true, true, true, true, true, true, true, true, true, true, false] rfl rfl (any_of HT_.out (by kernel_rfl)) (fun _ _ _ h => h) (Or.inl ⟨by rfl, ?_⟩) ?_ ?_
                                rotate_left
                                · intro w'
                                  go_simp
                                  with_reducible rfl
                                rotate_left
                                · simp only [Act.put, List.setIfInBounds_toArray, List.set_cons_zero, List.set_cons_succ, i64_w, i32_w]
                                  rfl
                                refine last_ (i := 13) (N := none) #[true, true, true, true, true, true, true, true, true, true, true, true, true, true] rfl rfl (one_of HT_.out (by kernel_rfl)) (by decide) (fun K hK => ?_)
                                refine skip_ (w1 := ?_) (by rfl) rfl ?_ ?_
                                rotate_left
                                · go_simp
                                  rfl
                                refine hK.out _ _ ?_
                                clear hK K
                                refine done_ (done_of HT_.out (by kernel_rfl)) ?_
                                try go_wp2
                                have n0_ : Aside0 (Kd.S (Kd.slice 3 (Kd.int .i64)) 27 (w26.setCell ⟨go19, (a2 : Int).toNat, none⟩ (.int .i64 (rd (rd_L1 l0 a2) a1))) w.heap.size (fun _ => True) (.slice (some ad127) t124.length co27) y132) := ⟨by (with_reducible repeat (first | apply Kd.S_alloc | apply Kd.S_drewN | apply Kd.S_drew)); exact HQ28.out⟩
                                have n1_ : Aside0 (Below w.heap.size w (w26.setCell ⟨go19, (a2 : Int).toNat, none⟩ (.int .i64 (rd (rd_L1 l0 a2) a1)))) := ⟨by repeat (first | (with_reducible first | exact HB.out | apply below_alloc | apply pw_below_drewN | apply below_drew1 | refine below_set ?_ GB19.out) | exact HB.out)⟩
                                (try clear HO126)
                                (try clear HB)
                                generalize (w26.setCell ⟨go19, (a2 : Int).toNat, none⟩ (.int .i64 (rd (rd_L1 l0 a2) a1))) = w30 at n0_ n1_ ⊢
                                have HO126 := n0_
                                have HB := n1_
                                clear n0_ n1_
                                have n0_ := Aside0.mk (Kd.S_drew HO126.out)
                                have n1_ := Aside0.mk (below_drew1 HB.out)
                                clear HO126
                                clear HB
                                have HO126 := n0_
                                have HB := n1_
                                clear n0_ n1_
                                have p133 : 0 ≤ (a2 : Int) := of_decide_eq_true (by first | (with_reducible assumption) | assumption)
                                have q133 : a2 < (y132.length : Int) := (by have h_ : (a2 : Int) < ((t124.length : Int) : Int) := of_decide_eq_true (by first | (with_reducible assumption) | assumption); first | (have e_ := (Kd.S_reads' HO126.out).1; omega) | simpa only [Ny132.out, List.length_set] using h_)
                                have ql133 : ((a2 : Int) < ((t124.length : Int) : Int)) = True := eq_true (of_decide_eq_true (by first | (with_reducible assumption) | assumption))
                                obtain ⟨ad133, A133_0, c133_0, e133, hx133_0, hl133_0, hi133_0⟩ := at_L1 (Kd.S_reads' HO126.out).2.2 a2 p133 q133
                                obtain rfl : ad127 = ad133 := (by injection e133)
                                obtain ⟨ce133, hce133, hMe133, hcc133⟩ := Kd.S_get HO126.out [] a2 p133 (by first | exact q133 | exact of_decide_eq_true (by first | (with_reducible assumption) | assumption) | (have e_ := (Kd.S_reads' HO126.out).1; omega))
                                obtain ⟨ve133_0, rfl, ge133_0⟩ := hMe133
                                have hv133_0 := hcc133 0 _ rfl
                                rw [Nat.add_zero, show ((Kd.slice 3 (Kd.int .i64))).sz = 1 from rfl, Nat.mul_one] at hv133_0
                                replace hv133_0 := Option.some.inj (hv133_0.symm.trans hx133_0)
                                rw [hv133_0] at ge133_0
                                have HL133_0 := Aside0.mk (show Kd.R (Kd.int .i64) 3 _ _ _ _ (rd_L1 y132 a2) from ge133_0)
                                clear hv133_0 ge133_0
                                have HX133_0 := Aside0.mk hx133_0
                                clear hcc133 hce133
                                have HR133_0 := Aside0.mk hi133_0
                                have HC133_0 := Aside0.mk hl133_0
                                clear hi133_0 hl133_0
                                replace p133 := eq_true p133
                                replace q133 := eq_true q133
                                have p134 : 0 ≤ (a1 : Int) := of_decide_eq_true (by first | (with_reducible assumption) | assumption)
                                have q134 : a1 < (l0.length : Int) := of_decide_eq_true (by first | (with_reducible assumption) | assumption)
                                obtain ⟨ad134, A134_0, c134_0, e134, hx134_0, hl134_0, hi134_0⟩ := at_L1 HR0.out a1 p134 q134
                                have hw134_0 := hx134_0
                                obtain rfl : ad128 = ad134 := (by injection e134)
                                replace hx134_0 := (HB.out.cell (World.block_lt_of_cell? w _ hx134_0)).trans hx134_0
                                have HR134_0 := Aside0.mk hi134_0
                                have HC134_0 := Aside0.mk hl134_0
                                clear hi134_0 hl134_0
                                replace p134 := eq_true p134
                                replace q134 := eq_true q134
                                have p135 : 0 ≤ (a2 : Int) := of_decide_eq_true (by first | (with_reducible assumption) | assumption)
                                have q135 : a2 < ((rd_L1 l0 a1).length : Int) := of_decide_eq_true (by first | (with_reducible assumption) | assumption)
                                obtain ⟨ad135, e135, hx135_0⟩ := Kd.at_int HR134_0.out a2 p135 q135
                                have hw135_0 := hx135_0
                                cases e135
                                replace hx135_0 := (HB.out.cell (World.block_lt_of_cell? w _ hx135_0)).trans hx135_0
                                replace p135 := eq_true p135
                                replace q135 := eq_true q135
                                have p24 : 0 ≤ (a1 : Int) := of_decide_eq_true (by first | (with_reducible assumption) | assumption)
                                have q24 : (a1 : Int) < (((rd_L1 y132 a2).length : Int) : Int) := of_decide_eq_true (by first | (with_reducible assumption) | assumption)
                                obtain ⟨go24, co24, eo24, gb24, gl24, cl24, HG24⟩ := Kd.R_form HL133_0.out (by omega)
                                (first | cases eo24 | (injection eo24 with ea_ en_ ec_; (first | subst ea_ | (injection ea_ with ea_; subst ea_)); subst ec_; clear en_))
                                have GB24 := Aside0.mk gb24
                                have GG24 := Aside0.mk HG24
                                clear gb24 gl24 HG24
                                obtain ⟨hx24_0, hf24_0⟩ := Kd.R_celln 0 HL133_0.out (a1 : Int) p24 q24
                                replace p24 := eq_true p24
                                replace q24 := eq_true q24
                                have hq32 : (a2 : Int) < (y132.length : Int) := (by have h_ : (a2 : Int) < ((t124.length : Int) : Int) := of_decide_eq_true (by first | (with_reducible assumption) | assumption); first | exact h_ | (have e_ := (Kd.S_reads' HO126.out).1; omega) | simpa only [Ny132.out, List.length_set] using h_)
                                obtain ⟨oki32, ce32, hcl32, hM32, hcc32, hok32, hbk32⟩ := Kd.S_borrow HO126.out [] (a2 : Int) (of_decide_eq_true (by first | (with_reducible assumption) | assumption)) (by first | exact hq32 | (have e_ := (Kd.S_reads' HO126.out).1; omega))
                                obtain ⟨ve32_0, rfl, ge32_0⟩ := hM32
                                have hv32 := hcc32 0 _ rfl
                                rw [Nat.add_zero, show ((Kd.slice 3 (Kd.int .i64))).sz = 1 from rfl, Nat.mul_one] at hv32
                                replace hv32 := Option.some.inj (hv32.symm.trans HX133_0.out)
                                subst hv32
                                clear hcc32 hcl32
                                replace ge32_0 := (show Kd.R (Kd.int .i64) 3 _ _ _ _ (rd_L1 y132 a2) from ge32_0)
                                have HP32 := Kd.R_putg ge32_0 (a1 : Int) (rd (rd_L1 l0 a1) a2)
                                rw [← Ny136.out] at HP32
                                have HS32 := hbk32 HP32.2 (fun k_ e_ => by injection e_ with e_; subst e_; exact ge32_0.1 _ rfl) (x' := y136) (Kd.M_row HP32.1)
                                rw [← Ny138.out] at HS32
                                have HQ32 := Aside0.mk HS32
                                clear HP32 HS32 hbk32 hok32
                                refine start_ (n := 14) (S := fun w' => w'.cell? (ad127.add (a2).toNat) = some (.slice _ (rd_L1 y132 a2).length _) ∧ w'.cell? (ad128.add (a1).toNat) = some (.slice (some ad135) (rd_L1 l0 a1).length c134_0) ∧ w'.cell? (ad135.add (a2).toNat) = some (.int .i64 (rd (rd_L1 l0 a1) a2))) (ds := [13]) #[false, false, false, false, false, false, false, false, false, false, false, false, false, false] (by kernel_rfl) rfl rfl ⟨hx133_0, ((HB.out.cell (World.block_lt_of_cell? w _ hw134_0)).trans hw134_0), ((HB.out.cell (World.block_lt_of_cell? w _ hw135_0)).trans hw135_0)⟩ (fun hHeld => ?_); refine with_tabW verditerref05_Switch.tab10 verditerref05_Switch.bits10 (fun HT_ HW_ => ?_)
                                generalize w30.drew = w31 at HO126 HB GG24 HL133_0 HQ28 HQ32 HR133_0 HR134_0 HX133_0 hf24_0 hx133_0 hx134_0 hx135_0 hx24_0 hHeld ⊢
                                refine pure_ (i := 0) (N := some 47) (v := ?_) (a' := ?_) #[true, false, false, false, false, false, false, false, false, false, false, false, false, false] rfl rfl (any_of HT_.out (by kernel_rfl)) (fun _ _ _ h => h) (Or.inl ⟨by rfl, ?_⟩) ?_ ?_
                                rotate_left
                                · intro w'
                                  go_simp
                                  with_reducible rfl
                                rotate_left
                                · simp only [Act.put, List.setIfInBounds_toArray, List.set_cons_zero, List.set_cons_succ, i64_w, i32_w]
                                  rfl
                                refine pure_ (i := 1) (N := some 48) (v := ?_) (a' := ?_) #[true, true, false, false, false, false, false, false, false, false, false, false, false, false] rfl rfl (any_of HT_.out (by kernel_rfl)) (fun _ _ _ h => h) (Or.inl ⟨by rfl, ?_⟩) ?_ ?_
                                rotate_left
                                · intro w'
                                  go_simp
                                  with_reducible rfl
                                rotate_left
                                · simp only [Act.put, List.setIfInBounds_toArray, List.set_cons_zero, List.set_cons_succ, i64_w, i32_w]
                                  rfl
                                refine pure_ (i := 2) (N := some 49) (v := ?_) (a' := ?_) #[true, true, true, false, false, false, false, false, false, false, false, false, false, false] rfl rfl (any_of HT_.out (by kernel_rfl)) (fun _ _ _ h => h) (Or.inl ⟨by rfl, ?_⟩) ?_ ?_
                                rotate_left
                                · intro w'
                                  go_simp
                                  with_reducible rfl
                                rotate_left
                                · simp only [Act.put, List.setIfInBounds_toArray, List.set_cons_zero, List.set_cons_succ, i64_w, i32_w]
                                  rfl
                                refine pure_ (i := 4) (N := some 51) (v := ?_) (a' := ?_) #[true, true, true, false, true, false, false, false, false, false, false, false, false, false] rfl rfl (any_of HT_.out (by kernel_rfl)) (fun _ _ _ h => h) (Or.inl ⟨by rfl, ?_⟩) ?_ ?_
                                rotate_left
                                · intro w'
                                  go_simp
                                  with_reducible rfl
                                rotate_left
                                · simp only [Act.put, List.setIfInBounds_toArray, List.set_cons_zero, List.set_cons_succ, i64_w, i32_w]
                                  rfl
                                refine pure_ (i := 5) (N := some 52) (v := ?_) (a' := ?_) #[true, true, true, false, true, true, false, false, false, false, false, false, false, false] rfl rfl (any_of HT_.out (by kernel_rfl)) (fun _ _ _ h => h) (Or.inl ⟨by rfl, ?_⟩) ?_ ?_
                                rotate_left
                                · intro w'
                                  go_simp
                                  with_reducible rfl
                                rotate_left
                                · simp only [Act.put, List.setIfInBounds_toArray, List.set_cons_zero, List.set_cons_succ, i64_w, i32_w]
                                  rfl
                                refine pure_ (i := 6) (N := some 53) (v := ?_) (a' := ?_) #[true, true, true, false, true, true, true, false, false, false, false, false, false, false] rfl rfl (any_of HT_.out (by kernel_rfl)) (fun _ _ _ h => h) (Or.inl ⟨by rfl, ?_⟩) ?_ ?_
                                rotate_left
                                · intro w'
                                  go_simp
                                  with_reducible rfl
                                rotate_left
                                · simp only [Act.put, List.setIfInBounds_toArray, List.set_cons_zero, List.set_cons_succ, i64_w, i32_w]
                                  rfl
                                refine pure_ (i := 7) (N := some 54) (v := ?_) (a' := ?_) #[true, true, true, false, true, true, true, true, false, false, false, false, false, false] rfl rfl (any_of HT_.out (by kernel_rfl)) (fun _ _ _ h => h) (Or.inl ⟨by rfl, ?_⟩) ?_ ?_
                                rotate_left
                                · intro w'
                                  go_simp
                                  with_reducible rfl
                                rotate_left
                                · simp only [Act.put, List.setIfInBounds_toArray, List.set_cons_zero, List.set_cons_succ, i64_w, i32_w]
                                  rfl
                                refine pure_ (i := 9) (N := some 56) (v := ?_) (a' := ?_) #[true, true, true, false, true, true, true, true, false, true, false, false, false, false] rfl rfl (any_of HT_.out (by kernel_rfl)) (fun _ _ _ h => h) (Or.inl ⟨by rfl, ?_⟩) ?_ ?_
                                rotate_left
                                · intro w'
                                  go_simp
                                  with_reducible rfl
                                rotate_left
                                · simp only [Act.put, List.setIfInBounds_toArray, List.set_cons_zero, List.set_cons_succ, i64_w, i32_w]
                                  rfl
                                refine take_ (i := 3) (N := some 50) (v := ?_) (a' := ?_) #[true, true, true, true, true, true, true, true, false, true, false, false, false, false] rfl rfl (take_ofW HT_.out HW_.out (by kernel_rfl)) (fun _ _ _ h => h) (Or.inl ⟨by rfl, ?_⟩) hHeld ?_ ?_
                                rotate_left
                                · rintro w' ⟨s0, s1, s2⟩
                                  go_simp
                                  with_reducible rfl
                                rotate_left
                                · simp only [Act.put, List.setIfInBounds_toArray, List.set_cons_zero, List.set_cons_succ, i64_w, i32_w]
                                  rfl
                                refine take_ (i := 8) (N := some 55) (v := ?_) (a' := ?_) #[true, true, true, true, true, true, true, true, true, true, false, false, false, false] rfl rfl (take_ofW HT_.out HW_.out (by kernel_rfl)) (fun _ _ _ h => h) (Or.inl ⟨by rfl, ?_⟩) hHeld ?_ ?_
                                rotate_left
                                · rintro w' ⟨s0, s1, s2⟩
                                  go_simp
                                  with_reducible rfl
                                rotate_left
                                · simp only [Act.put, List.setIfInBounds_toArray, List.set_cons_zero, List.set_cons_succ, i64_w, i32_w]
                                  rfl
                                refine pure_ (i := 10) (N := some 57) (v := ?_) (a' := ?_) #[true, true, true, true, true, true, true, true, true, true, true, false, false, false] rfl rfl (any_of HT_.out (by kernel_rfl)) (fun _ _ _ h => h) (Or.inl ⟨by rfl, ?_⟩) ?_ ?_
                                rotate_left
                                · intro w'
                                  go_simp
                                  with_reducible rfl
                                rotate_left
                                · simp only [Act.put, List.setIfInBounds_toArray, List.set_cons_zero, List.set_cons_succ, i64_w, i32_w]
                                  rfl
                                refine take_ (i := 11) (N := some 58) (v := ?_) (a' := ?_) #[true, true, true, true, true, true, true, true, true, true, true, true, false, false] rfl rfl (take_ofW HT_.out HW_.out (by kernel_rfl)) (fun _ _ _ h => h) (Or.inl ⟨by rfl, ?_⟩) hHeld ?_ ?_
                                rotate_left
                                · rintro w' ⟨s0, s1, s2⟩
                                  go_simp
                                  with_reducible rfl
                                rotate_left
                                · simp only [Act.put, List.setIfInBounds_toArray, List.set_cons_zero, List.set_cons_succ, i64_w, i32_w]
                                  rfl
                                refine pure_ (i := 12) (N := some 59) (v := ?_) (a' := ?_) #[true, true, true, true, true, true, true, true, true, true, true, true, true, false] rfl rfl (any_of HT_.out (by kernel_rfl)) (fun _ _ _ h => h) (Or.inl ⟨by rfl, ?_⟩) ?_ ?_
                                rotate_left
                                · intro w'
                                  go_simp
                                  with_reducible rfl
                                rotate_left
                                · simp only [Act.put, List.setIfInBounds_toArray, List.set_cons_zero, List.set_cons_succ, i64_w, i32_w]
                                  rfl
                                refine last_ (i := 13) (N := none) #[true, true, true, true, true, true, true, true, true, true, true, true, true, true] rfl rfl (one_of HT_.out (by kernel_rfl)) (by decide) (fun K hK => ?_)
                                refine skip_ (w1 := ?_) (by rfl) rfl ?_ ?_
                                rotate_left
                                · go_simp
                                  rfl
                                refine hK.out _ _ ?_
                                clear hK K
                                refine done_ (done_of HT_.out (by kernel_rfl)) ?_
                                try go_wp2
                                go_ret2
                                exact ⟨_, by first | rfl | (simp [errW_none, errW_some] <;> rfl) | (simp [*, errW_none, errW_some] <;> rfl), by (with_reducible repeat (first | apply Kd.S_alloc | apply Kd.S_drewN | apply Kd.S_drew)); exact HQ32.out, by repeat (first | (with_reducible first | exact HB.out | apply below_alloc | apply pw_below_drewN | apply below_drew1 | refine below_set ?_ GB24.out) | exact HB.out)⟩
                              · rw [if_neg c23] at H
                                exact absurd H (by simp)
                            · rw [if_neg c22] at H
                              exact absurd H (by simp)
                          · rw [if_neg c21] at H
                            exact absurd H (by simp)
                        · rw [if_neg c20] at H
                          exact absurd H (by simp)
                      · rw [if_neg c18] at H
                        exact absurd H (by simp)
                    · rw [if_neg c17] at H
                      exact absurd H (by simp)
                  · rw [if_neg c16] at H
                    exact absurd H (by simp)
                · rw [if_neg c15] at H
                  exact absurd H (by simp)
              · rw [if_neg c14] at H
                exact absurd H (by simp)
            · rw [if_neg c13] at H
              exact absurd H (by simp)
  · rw [if_neg c5] at H
    have c5b0 : (t121 == 0) = false := beq_eq_false_iff_ne.mpr c5
    have c5b1 : (t121 != 0) = true := bne_iff_ne.mpr c5
    simp only [Option.some.injEq, Prod.mk.injEq] at H
    obtain ⟨rfl, rfl⟩ := H
    go_enter Try.func50, Try.ntmps50
    go_wp2_with (first | ((with_reducible refine gate_callee (f := 40) rfl ?_); refine goesL_ (some 11) rfl rfl Try.func40 (by kernel_rfl) rfl #[.slice A0 l0.length c0] rfl (by (try simp only [List.map_toArray, List.map_cons, List.map_nil]); first | done | rfl | (simp only [List.length_drop, List.length_take]; rfl)) ?_; (with_reducible refine (verditerref05_Validate.calls _ _ l0 t121 _ ?side1 ?side2 A4.out).mono ?_); (case side1 => repeat (first | exact HR0.out | (with_reducible refine Kd.C_alloc ?_ _) | (with_reducible refine Kd.C_drewN ?_ _) | (with_reducible refine Kd.C_drew ?_))); (case side2 => exact HC0.out); rintro e w' ⟨rfl, ⟨nd, rfl⟩⟩; refine ⟨_, rfl, ?_⟩))
    go_ret2
    exact ⟨_, by first | rfl | (simp [errW_none, errW_some] <;> rfl) | (simp [*, errW_none, errW_some] <;> rfl), by first | exact Kd.S_nil _ _ _ _ _ | exact Kd.N_nil _ _ _ _ _ | exact Kd.V_nil _ _ _ _ _ | exact Kd.Q_nil _ _ _ _ _ | exact Kd.R_nil _ _ _ _ _, by repeat (first | (with_reducible first | exact HB.out | apply below_alloc | apply pw_below_drewN | apply below_drew1) | exact HB.out)⟩

/-! ### sun_clone: function 81 -/
def sun_clone.l0 : Nat → List (List Int) → List (List Int) → Int → Int → Option ((List (List Int)))
  | 0, _, _, _, _ => none
  | k + 1, x3, x6, x7, x8 => if x8 < x7 then (if 0 ≤ x8 then (if x8 < (x6.length : Int) then ((slices_Clone_int_int.f (rd_L1 x6 x8)).bind fun t140 => (if x3.length < 5864062014805 then (sun_clone.l0 k (x3 ++ [t140]) x6 x7 (wrap64 (x8 + 1))) else (none))) else (none)) else (none)) else (some x3)
def sun_clone.f (k : Nat) (l0 : List (List Int)) : Option ((List (List Int))) := sun_clone.l0 k ([] : List (List Int)) l0 (l0.length : Int) 0
theorem sun_clone.mono_l : ∀ k, (∀ y0 y1 y2 y3, LeO (sun_clone.l0 k y0 y1 y2 y3) (sun_clone.l0 (k + 1) y0 y1 y2 y3))
  | 0 => fun _ _ _ _ r h => by simp [sun_clone.l0] at h
  | k + 1 => by
    have ih0 := sun_clone.mono_l k
    · intro y0 y1 y2 y3
      unfold sun_clone.l0
      repeat' first
      | (with_reducible exact ih0 _ _ _ _)
      | (with_reducible exact LeO.refl _)
      | (with_reducible exact LeO.none _)
      | (with_reducible refine LeO.ite ?_ ?_)
      | (with_reducible refine LeO.bind ?_ (fun _ => ?_))
      | exact ih0 _ _ _ _
      | exact LeO.none _
      | refine LeO.ite ?_ ?_
      | refine LeO.bind ?_ (fun _ => ?_)
theorem sun_clone.mono : ∀ a0 k, LeO (sun_clone.f k a0) (sun_clone.f (k + 1) a0) := by
  intro a0 k
  have ih0 := sun_clone.mono_l k
  unfold sun_clone.f
  repeat' first
      | (with_reducible exact ih0 _ _ _ _)
      | (with_reducible exact LeO.refl _)
      | (with_reducible exact LeO.none _)
      | (with_reducible refine LeO.ite ?_ ?_)
      | (with_reducible refine LeO.bind ?_ (fun _ => ?_))
      | exact ih0 _ _ _ _
      | exact LeO.none _
      | refine LeO.ite ?_ ?_
      | refine LeO.bind ?_ (fun _ => ?_)
set_option maxHeartbeats 8000000 in
set_option maxRecDepth 100000 in
theorem sun_clone.calls (k : Nat) (A0 : Option Addr) (c0 : Nat) (l0 : List (List Int)) (r : List (List Int)) (w : World) (hr0 : Kd.C (Kd.slice 3 (Kd.int .i64)) w A0 l0.length l0) (hc0 : l0.length ≤ c0) (h : sun_clone.f k l0 = some r) :
    Calls Try.prog 81 #[.slice A0 l0.length c0] w fun e w' => ∃ v0_ : Value, e = .returned (v0_) ∧ Kd.S (Kd.slice 3 (Kd.int .i64)) 27 w' w.heap.size (fun _ => True) v0_ r ∧ Below w.heap.size w w' := by
  have HR0 := Aside0.mk hr0
  have HC0 := Aside0.mk hc0
  clear hr0 hc0
  have HB := Aside0.mk (Below.refl w.heap.size w)
  have H : (sun_clone.l0 k ([] : List (List Int)) l0 (l0.length : Int) 0) = some r := h
  clear h
  have H' := Aside0.mk H
  clear H
  go_enter Try.func81, Try.ntmps81
  go_wp2
  go_loopg [3, 8] k (fun kq v3 v8 w' => ∃ (x3_1 : List (List Int)) (x8_1 : Int), v8 = .int .i64 x8_1 ∧ Aside0 (sun_clone.l0 kq x3_1 l0 (l0.length : Int) x8_1 = some r) ∧ Aside0 (kq ≤ k) ∧ Aside0 (Kd.S (Kd.slice 3 (Kd.int .i64)) 27 w' w.heap.size (fun _ => True) v3 x3_1) ∧ Aside0 (Below w.heap.size w w'))
  case atStart => exact ⟨(([] : List (List Int))), (0), (by first | rfl | (simp; done) | (simp [*]; done)), H', ⟨Nat.le_refl _⟩, ⟨by first | exact Kd.S_nil _ _ _ _ _ | exact Kd.N_nil _ _ _ _ _ | exact Kd.V_nil _ _ _ _ _ | exact Kd.Q_nil _ _ _ _ _ | exact Kd.R_nil _ _ _ _ _⟩, ⟨by repeat (first | (with_reducible first | exact HB.out | apply below_alloc | apply pw_below_drewN | apply below_drew1) | exact HB.out)⟩⟩
  case round =>
    clear H'
    obtain ⟨x3_1, x8_1, rfl, HA, HK1, HO_3, HB⟩ := hrel
    cases gk with
    | zero => exact absurd HA.out (by simp [sun_clone.l0])
    | succ k1 =>
      have H := HA.out
      clear HA
      simp only [sun_clone.l0] at H
      by_cases c2 : x8_1 < (l0.length : Int)
      · rw [if_pos c2] at H
        have c2b0 : decide (x8_1 < (l0.length : Int)) = true := decide_eq_true c2
        clear c2
        by_cases c3 : 0 ≤ x8_1
        · rw [if_pos c3] at H
          have c3b0 : decide (0 ≤ x8_1) = true := decide_eq_true c3
          clear c3
          by_cases c4 : x8_1 < (l0.length : Int)
          · rw [if_pos c4] at H
            have c4b0 : decide (x8_1 < (l0.length : Int)) = true := decide_eq_true c4
            clear c4
            replace H := Option.bind_eq_some_iff.mp H
            obtain ⟨t140, A50, H⟩ := H
            replace H : (if x3_1.length < 5864062014805 then (sun_clone.l0 k1 (x3_1 ++ [t140]) l0 (l0.length : Int) (wrap64 (x8_1 + 1))) else (none)) = some r := H
            have A5 := Aside0.mk A50
            clear A50
            by_cases c6 : x3_1.length < 5864062014805
            · rw [if_pos c6] at H
              have LMc6 := Aside0.mk c6
              clear c6
              obtain ⟨y143, hy143⟩ : ∃ y_ : List (List Int), y_ = (x3_1 ++ [t140]) := ⟨_, rfl⟩
              replace H : (sun_clone.l0 k1 y143 l0 (l0.length : Int) (wrap64 (x8_1 + 1))) = some r := by first | (rw [hy143]; with_reducible exact H) | (have H2_ := (Option.bind_some _ _).symm.trans H; rw [hy143]; with_reducible exact H2_) | (have H2_ := (Option.bind_some _ _).symm.trans H; with_reducible exact H2_) | with_reducible exact H | (rw [hy143]; exact H) | exact H
              have Ny143 := Aside0.mk hy143
              clear hy143
              have H' := Aside0.mk H
              clear H
              have p139 : 0 ≤ (x8_1 : Int) := of_decide_eq_true (by first | (with_reducible assumption) | assumption)
              have q139 : x8_1 < (l0.length : Int) := of_decide_eq_true (by first | (with_reducible assumption) | assumption)
              obtain ⟨ad139, A139_0, c139_0, e139, hx139_0, hl139_0, hi139_0⟩ := at_L1 HR0.out x8_1 p139 q139
              cases e139
              replace hx139_0 := (HB.out.cell (World.block_lt_of_cell? w _ hx139_0)).trans hx139_0
              have HR139_0 := Aside0.mk hi139_0
              have HC139_0 := Aside0.mk hl139_0
              clear hi139_0 hl139_0
              replace p139 := eq_true p139
              replace q139 := eq_true q139
              go_wp2_with (first | ((with_reducible refine gate_callee (f := 91) rfl ?_); refine goesL_ (some 14) rfl rfl Try.func91 (by kernel_rfl) rfl #[.slice A139_0 (rd_L1 l0 x8_1).length c139_0] rfl (by (try simp only [List.map_toArray, List.map_cons, List.map_nil]); first | done | rfl | (simp only [List.length_drop, List.length_take]; rfl)) ?_; (with_reducible refine (slices_Clone_int_int.calls _ _ (rd_L1 l0 x8_1) t140 _ ?side1 ?side2 A5.out).mono ?_); (case side1 => repeat (first | exact (Kd.C_below HR139_0.out HB.out) | (with_reducible refine Kd.C_alloc ?_ _) | (with_reducible refine Kd.C_drewN ?_ _) | (with_reducible refine Kd.C_drew ?_))); (case side2 => exact HC139_0.out); rintro e w7 ⟨v141, rfl, ho0, hb⟩; refine ⟨_, rfl, ?_⟩; have n0_ := Aside0.mk (Kd.S_elder' (by (with_reducible repeat (first | apply Kd.S_alloc | apply Kd.S_drewN | apply Kd.S_drew)); exact HO_3.out) (Kd.R_base ho0) hb); have n1_ := Aside0.mk (Kd.R_lower ho0 (below_size (by repeat (first | (with_reducible first | exact HB.out | apply below_alloc | apply pw_below_drewN | apply below_drew1) | exact HB.out)))); have n2_ := Aside0.mk (below_step (by repeat (first | (with_reducible first | exact HB.out | apply below_alloc | apply pw_below_drewN | apply below_drew1) | exact HB.out)) hb); clear HO_3; clear HB; have HO_3 := n0_; have HO142 := n1_; have HB := n2_; clear n0_ n1_ n2_; (try clear hb); (try clear hb2); (try clear hk); (try clear hi); (try clear ho0); obtain ⟨Ao9, co9, eo9⟩ := Kd.R_slice HO142.out; subst eo9) | ((with_reducible refine gate_builtin (b := .append) (xs := #[.tmp 12, .tmp 15]) rfl ?_); at_builtin; refine Kd.S_append (Kd.slice 3 (Kd.int .i64)) (w0 := w) w.heap.size rfl (.tmp 12) (.tmp 15) 22 27 (.slice none 0 0) 24 rfl Try.underlying22 info27 rfl (by decide) (by omega) u3 x3_1 t140 [.slice Ao9 t140.length co9] (fun _ => True) (fun k_ => some k_ = (.slice Ao9 t140.length co9 : Value).ownBlock) rfl rfl ?aP (fun k_ hk_ => ((Kd.R_mono (ok' := fun k_ => ((fun _ => True)) k_ ∧ some k_ ≠ (u3 : Value).ownBlock) (Kd.R_apart' (HO142.out) (Kd.S_typed HO_3.out) (by decide)) (fun k_ hk => ⟨trivial, hk.2⟩))).1 k_ hk_.symm) ?aF ?aO ?aB ?aS ?aL ?_; (case aP => exact Kd.M_row (Kd.R_mono (Kd.R_tight rfl (Kd.R_mono (ok' := fun k_ => ((fun _ => True)) k_ ∧ some k_ ≠ (u3 : Value).ownBlock) (Kd.R_apart' (HO142.out) (Kd.S_typed HO_3.out) (by decide)) (fun k_ hk => ⟨trivial, hk.2⟩))) (fun _ h_ => h_))); (case aB => exact (by repeat (first | (with_reducible first | exact HB.out | apply below_alloc | apply pw_below_drewN | apply below_drew1) | exact HB.out))); (case aF => exact (fun _ _ => trivial)); (case aO => exact (by (with_reducible repeat (first | apply Kd.S_alloc | apply Kd.S_drewN | apply Kd.S_drew)); exact Kd.S_mono HO_3.out (fun k_ hk => ⟨trivial, fun e_ => hk.2 e_⟩))); (case aS => exact (below_size (by repeat (first | (with_reducible first | exact HB.out | apply below_alloc | apply pw_below_drewN | apply below_drew1) | exact HB.out)))); (case aL => have := LMc6.out; omega); intro v144 w8 ho hb hg hat; rw [← Ny143.out] at ho; have n0_ := Aside0.mk (hb); have n1_ := Aside0.mk (ho); clear HB; clear HO_3; clear HO142; have HB := n0_; have HO145 := n1_; clear n0_ n1_; clear ho hb hg hat))
              go_roundg k1
              case measure => have := HK1.out; omega
              case rel => exact ⟨(y143), (wrap64 (x8_1 + 1)), (by first | rfl | (simp; done) | (simp [*]; done)), H', ⟨by have := HK1.out; omega⟩, ⟨by (with_reducible repeat (first | apply Kd.S_alloc | apply Kd.S_drewN | apply Kd.S_drew)); exact HO145.out⟩, ⟨by repeat (first | (with_reducible first | exact HB.out | apply below_alloc | apply pw_below_drewN | apply below_drew1) | exact HB.out)⟩⟩
            · rw [if_neg c6] at H
              exact absurd H (by simp)
          · rw [if_neg c4] at H
            exact absurd H (by simp)
        · rw [if_neg c3] at H
          exact absurd H (by simp)
      · rw [if_neg c2] at H
        have c2b0 : decide (x8_1 < (l0.length : Int)) = false := decide_eq_false c2
        clear c2
        obtain rfl := Option.some.inj H
        go_wp2
        go_ret
        exact ⟨_, by first | rfl | (simp [errW_none, errW_some] <;> rfl) | (simp [*, errW_none, errW_some] <;> rfl), by (with_reducible repeat (first | apply Kd.S_alloc | apply Kd.S_drewN | apply Kd.S_drew)); exact HO_3.out, by repeat (first | (with_reducible first | exact HB.out | apply below_alloc | apply pw_below_drewN | apply below_drew1) | exact HB.out)⟩

end Go.Proofs.Ytbnjffhcpkfnhaa.QC
