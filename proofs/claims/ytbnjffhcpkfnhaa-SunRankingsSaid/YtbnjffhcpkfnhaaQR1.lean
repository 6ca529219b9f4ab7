/- Written by a program of this seat over the kit's print: each function's Lean form, and that the machine's call comes to it. -/
import Derived.Test.YtbnjffhcpkfnhaaQR0
namespace Go.Proofs.Ytbnjffhcpkfnhaa.QR
open Go.RowKit Go.Proofs.YtbnjffhcpkfnhaaW.PrintWords Go.Proofs.YtbnjffhcpkfnhaaW.PrintLast Go.Proofs.YtbnjffhcpkfnhaaW.PrintMore Go.Proofs.Ytbnjffhcpkfnhaa.H Go.Proofs.Ytbnjffhcpkfnhaa.QA Go.Proofs.Ytbnjffhcpkfnhaa.QO
attribute [local go_sem] max2_int min2_int max_two min_two max_three min_three max_four min_four   -- for this text's walks alone
set_option linter.unusedVariables false
set_option linter.unusedSimpArgs false

/-! ### verditerref05_fewest: function 87 -/
mutual
def verditerref05_fewest.l0 : Nat → List (List Int) → List Int → Int → Option (List Int)
  | 0, _, _, _ => none
  | k + 1, x0, x3, x4 => if x4 < (x3.length : Int) then (if 0 ≤ x4 then (verditerref05_fewest.l1 k x0 (x3.set (x4 : Int).toNat (wrap64 ((x0.length : Int) * (x0.length : Int)))) x4 0) else (none)) else (some x3)
def verditerref05_fewest.l1 : Nat → List (List Int) → List Int → Int → Int → Option (List Int)
  | 0, _, _, _, _ => none
  | k + 1, x0, x3, x4, x5 => if x5 < (x0.length : Int) then (if 0 ≤ (IntKind.u64.wrap (x5)) then (if (Go.bits .and .i64 (shr .i64 x4 (IntKind.u64.wrap (x5))) 1) = 0 then (verditerref05_fewest.l1 k x0 x3 x4 (wrap64 (x5 + 1))) else (if 0 ≤ (wrap64 (x4 - (shl .i64 1 (IntKind.u64.wrap (x5))))) then (if (wrap64 (x4 - (shl .i64 1 (IntKind.u64.wrap (x5))))) < (x3.length : Int) then (verditerref05_fewest.l2 k x0 x3 x4 x5 (wrap64 (x4 - (shl .i64 1 (IntKind.u64.wrap (x5))))) (rd x3 (wrap64 (x4 - (shl .i64 1 (IntKind.u64.wrap (x5)))))) 0) else (none)) else (none))) else (none)) else (verditerref05_fewest.l0 k x0 x3 (wrap64 (x4 + 1)))
def verditerref05_fewest.l2 : Nat → List (List Int) → List Int → Int → Int → Int → Int → Int → Option (List Int)
  | 0, _, _, _, _, _, _, _ => none
  | k + 1, x0, x3, x4, x5, x6, x7, x8 => if x8 < (x0.length : Int) then (if 0 ≤ (IntKind.u64.wrap (x8)) then (if (Go.bits .and .i64 (shr .i64 x6 (IntKind.u64.wrap (x8))) 1) = 1 then (if 0 ≤ x5 then (if x5 < (x0.length : Int) then (if 0 ≤ x8 then (if x8 < ((rd_L1 x0 x5).length : Int) then (verditerref05_fewest.l2 k x0 x3 x4 x5 x6 (wrap64 (x7 + (rd (rd_L1 x0 x5) x8))) (wrap64 (x8 + 1))) else (none)) else (none)) else (none)) else (none)) else (verditerref05_fewest.l2 k x0 x3 x4 x5 x6 x7 (wrap64 (x8 + 1)))) else (none)) else (if 0 ≤ x4 then (if x4 < (x3.length : Int) then (verditerref05_fewest.l1 k x0 (x3.set (x4 : Int).toNat (mn (rd x3 x4) x7)) x4 (wrap64 (x5 + 1))) else (none)) else (none))
end
def verditerref05_fewest.f (k : Nat) (l0 : List (List Int)) : Option (List Int) := if 0 ≤ (IntKind.u64.wrap ((l0.length : Int))) then (if 0 ≤ (shl .i64 1 (IntKind.u64.wrap ((l0.length : Int)))) then (if (shl .i64 1 (IntKind.u64.wrap ((l0.length : Int))) : Int).toNat ≤ 35184372088832 then (verditerref05_fewest.l0 k l0 (List.replicate (shl .i64 1 (IntKind.u64.wrap ((l0.length : Int))) : Int).toNat 0) 1) else (none)) else (none)) else (none)
theorem verditerref05_fewest.mono_l : ∀ k, (∀ y0 y1 y2, LeO (verditerref05_fewest.l0 k y0 y1 y2) (verditerref05_fewest.l0 (k + 1) y0 y1 y2)) ∧ (∀ y0 y1 y2 y3, LeO (verditerref05_fewest.l1 k y0 y1 y2 y3) (verditerref05_fewest.l1 (k + 1) y0 y1 y2 y3)) ∧ (∀ y0 y1 y2 y3 y4 y5 y6, LeO (verditerref05_fewest.l2 k y0 y1 y2 y3 y4 y5 y6) (verditerref05_fewest.l2 (k + 1) y0 y1 y2 y3 y4 y5 y6))
  | 0 => ⟨fun _ _ _ r h => by simp [verditerref05_fewest.l0] at h, fun _ _ _ _ r h => by simp [verditerref05_fewest.l1] at h, fun _ _ _ _ _ _ _ r h => by simp [verditerref05_fewest.l2] at h⟩
  | k + 1 => by
    obtain ⟨ih0, ih1, ih2⟩ := verditerref05_fewest.mono_l k
    refine ⟨?_, ?_, ?_⟩
    · intro y0 y1 y2
      unfold verditerref05_fewest.l0
      repeat' first
      | (with_reducible exact ih0 _ _ _)
      | (with_reducible exact ih1 _ _ _ _)
      | (with_reducible exact ih2 _ _ _ _ _ _ _)
      | (with_reducible exact LeO.refl _)
      | (with_reducible exact LeO.none _)
      | (with_reducible refine LeO.ite ?_ ?_)
      | (with_reducible refine LeO.bind ?_ (fun _ => ?_))
      | exact ih0 _ _ _
      | exact ih1 _ _ _ _
      | exact ih2 _ _ _ _ _ _ _
      | exact LeO.none _
      | refine LeO.ite ?_ ?_
      | refine LeO.bind ?_ (fun _ => ?_)
    · intro y0 y1 y2 y3
      unfold verditerref05_fewest.l1
      repeat' first
      | (with_reducible exact ih0 _ _ _)
      | (with_reducible exact ih1 _ _ _ _)
      | (with_reducible exact ih2 _ _ _ _ _ _ _)
      | (with_reducible exact LeO.refl _)
      | (with_reducible exact LeO.none _)
      | (with_reducible refine LeO.ite ?_ ?_)
      | (with_reducible refine LeO.bind ?_ (fun _ => ?_))
      | exact ih0 _ _ _
      | exact ih1 _ _ _ _
      | exact ih2 _ _ _ _ _ _ _
      | exact LeO.none _
      | refine LeO.ite ?_ ?_
      | refine LeO.bind ?_ (fun _ => ?_)
    · intro y0 y1 y2 y3 y4 y5 y6
      unfold verditerref05_fewest.l2
      repeat' first
      | (with_reducible exact ih0 _ _ _)
      | (with_reducible exact ih1 _ _ _ _)
      | (with_reducible exact ih2 _ _ _ _ _ _ _)
      | (with_reducible exact LeO.refl _)
      | (with_reducible exact LeO.none _)
      | (with_reducible refine LeO.ite ?_ ?_)
      | (with_reducible refine LeO.bind ?_ (fun _ => ?_))
      | exact ih0 _ _ _
      | exact ih1 _ _ _ _
      | exact ih2 _ _ _ _ _ _ _
      | exact LeO.none _
      | refine LeO.ite ?_ ?_
      | refine LeO.bind ?_ (fun _ => ?_)
theorem verditerref05_fewest.mono : ∀ a0 k, LeO (verditerref05_fewest.f k a0) (verditerref05_fewest.f (k + 1) a0) := by
  intro a0 k
  obtain ⟨ih0, ih1, ih2⟩ := verditerref05_fewest.mono_l k
  unfold verditerref05_fewest.f
  repeat' first
      | (with_reducible exact ih0 _ _ _)
      | (with_reducible exact ih1 _ _ _ _)
      | (with_reducible exact ih2 _ _ _ _ _ _ _)
      | (with_reducible exact LeO.refl _)
      | (with_reducible exact LeO.none _)
      | (with_reducible refine LeO.ite ?_ ?_)
      | (with_reducible refine LeO.bind ?_ (fun _ => ?_))
      | exact ih0 _ _ _
      | exact ih1 _ _ _ _
      | exact ih2 _ _ _ _ _ _ _
      | exact LeO.none _
      | refine LeO.ite ?_ ?_
      | refine LeO.bind ?_ (fun _ => ?_)
set_option maxHeartbeats 8000000 in
set_option maxRecDepth 100000 in
theorem verditerref05_fewest.calls (k : Nat) (A0 : Option Addr) (c0 : Nat) (l0 : List (List Int)) (r : List Int) (w : World) (hr0 : Kd.C (Kd.slice 3 (Kd.int .i64)) w A0 l0.length l0) (hc0 : l0.length ≤ c0) (h : verditerref05_fewest.f k l0 = some r) :
    Calls Try.prog 87 #[.slice A0 l0.length c0] w fun e w' => ∃ v0_ : Value, e = .returned (v0_) ∧ Kd.R (Kd.int .i64) 3 w' w.heap.size (fun _ => True) v0_ r ∧ Below w.heap.size w w' := by
  have HR0 := Aside0.mk hr0
  have HC0 := Aside0.mk hc0
  clear hr0 hc0
  have HB := Aside0.mk (Below.refl w.heap.size w)
  have H : (if 0 ≤ (IntKind.u64.wrap ((l0.length : Int))) then (if 0 ≤ (shl .i64 1 (IntKind.u64.wrap ((l0.length : Int)))) then (if (shl .i64 1 (IntKind.u64.wrap ((l0.length : Int))) : Int).toNat ≤ 35184372088832 then (verditerref05_fewest.l0 k l0 (List.replicate (shl .i64 1 (IntKind.u64.wrap ((l0.length : Int))) : Int).toNat 0) 1) else (none)) else (none)) else (none)) = some r := h
  clear h
  obtain ⟨ji2, hji2⟩ : ∃ j_ : Int, (IntKind.u64.wrap ((l0.length : Int))) = j_ := ⟨_, rfl⟩
  replace H : (if 0 ≤ (ji2) then (if 0 ≤ (shl .i64 1 (ji2)) then (if (shl .i64 1 (ji2) : Int).toNat ≤ 35184372088832 then (verditerref05_fewest.l0 k l0 (List.replicate (shl .i64 1 (ji2) : Int).toNat 0) 1) else (none)) else (none)) else (none)) = some r := by first | (rw [hji2] at H; exact H) | (simp only [hji2] at H ⊢; exact H)
  by_cases c3 : 0 ≤ (ji2)
  · rw [if_pos c3] at H
    have c3b0 := eq_true c3
    have c3b1 : decide (0 ≤ (ji2)) = true := decide_eq_true c3
    clear c3
    obtain ⟨ji4, hji4⟩ : ∃ j_ : Int, (shl .i64 1 (ji2)) = j_ := ⟨_, rfl⟩
    replace H : (if 0 ≤ (ji4) then (if (ji4 : Int).toNat ≤ 35184372088832 then (verditerref05_fewest.l0 k l0 (List.replicate (ji4 : Int).toNat 0) 1) else (none)) else (none)) = some r := by first | (rw [hji4] at H; exact H) | (simp only [hji4] at H ⊢; exact H)
    have hji4_ : (IntKind.i64.wrap (1 * 2 ^ min (ji2).toNat 64)) = ji4 := hji4
    have hji4z : (ji2) ≤ 64 → (IntKind.i64.wrap (1 * 2 ^ (ji2).toNat)) = ji4 := shl_small hji4
    have hji4u : (IntKind.i64.wrap (2 ^ min (ji2).toNat 64)) = ji4 := by have h_ := hji4_; rw [Int.one_mul] at h_; exact h_
    have hji4v : (ji2) ≤ 64 → (IntKind.i64.wrap (2 ^ (ji2).toNat)) = ji4 := fun hle_ => by have h_ := hji4z hle_; rw [Int.one_mul] at h_; exact h_
    have hji4y : (wrap64 (1 * 2 ^ min (ji2).toNat 64)) = ji4 := (i64_w _).symm.trans hji4_
    have hji4x : (ji2) ≤ 64 → (wrap64 (1 * 2 ^ (ji2).toNat)) = ji4 := fun h_ => (i64_w _).symm.trans (hji4z h_)
    by_cases c5 : 0 ≤ (ji4)
    · rw [if_pos c5] at H
      have c5b0 := eq_true c5
      have c5b1 : decide (0 ≤ (ji4)) = true := decide_eq_true c5
      clear c5
      by_cases c6 : (ji4 : Int).toNat ≤ 35184372088832
      · rw [if_pos c6] at H
        have c6b0 := eq_true c6
        have c6b1 : decide ((ji4 : Int).toNat ≤ 35184372088832) = true := decide_eq_true c6
        clear c6
        obtain ⟨y101, hy101⟩ : ∃ y_ : List Int, y_ = (List.replicate (ji4 : Int).toNat 0) := ⟨_, rfl⟩
        replace H : (verditerref05_fewest.l0 k l0 y101 1) = some r := by first | (rw [hy101]; with_reducible exact H) | (have H2_ := (Option.bind_some _ _).symm.trans H; rw [hy101]; with_reducible exact H2_) | (have H2_ := (Option.bind_some _ _).symm.trans H; with_reducible exact H2_) | with_reducible exact H | (rw [hy101]; exact H) | exact H
        have Ny101 := Aside0.mk hy101
        clear hy101
        have H' := Aside0.mk H
        clear H
        go_enter Try.func87, Try.ntmps87
        go_wp2_with (first | ((with_reducible refine gate_dst (N := 13) rfl ?_); refine Kd.R_make (Kd.int .i64) _ 3 rfl (N := 13) rfl 27 _ _ rfl ji4 rfl rfl Try.underlying27 (.int .i64 0) 8 info3 rfl (by decide) (by omega) 0 (ok := fun _ => True) (okp := fun _ => True) rfl (fun _ hk => hk) trivial (of_decide_eq_true (by first | (with_reducible assumption) | assumption)) (Nat.le_trans (Nat.mul_le_mul_right _ (of_decide_eq_true (by first | (with_reducible assumption) | assumption) : ji4.toNat ≤ 35184372088832)) (by omega)) (Below.refl _ _) (Nat.le_refl _) ?_; intro v102 w7 ho8 hb hg_ hnew_; clear hg_ hnew_; (first | rw [← Ny101.out] at ho8 | (simp only [Int.reduceToNat] at ho8; rw [← Ny101.out] at ho8)); have n0_ := Aside0.mk (Kd.R_lower ho8 (below_size (by repeat (first | (with_reducible first | exact HB.out | apply below_alloc | apply pw_below_drewN | apply below_drew1) | exact HB.out)))); have n1_ := Aside0.mk (below_step (by repeat (first | (with_reducible first | exact HB.out | apply below_alloc | apply pw_below_drewN | apply below_drew1) | exact HB.out)) hb); clear HB; have HO103 := n0_; have HB := n1_; clear n0_ n1_; clear hb ho8))
        go_loopg [4] k (fun kq v4 w' => ∃ (x3_1 : List Int) (x4_1 : Int), v4 = .int .i64 x4_1 ∧ Aside0 (verditerref05_fewest.l0 kq l0 x3_1 x4_1 = some r) ∧ Aside0 (kq ≤ k) ∧ Aside0 (Kd.R (Kd.int .i64) 3 w' w.heap.size (fun _ => True) v102 x3_1) ∧ Aside0 (Below w.heap.size w w'))
        case atStart => exact ⟨(y101), (1), (by first | rfl | (simp; done) | (simp [*]; done)), H', ⟨Nat.le_refl _⟩, ⟨by (with_reducible repeat (first | apply Kd.R_alloc | apply Kd.R_drewN | apply Kd.R_drew)); exact HO103.out⟩, ⟨by repeat (first | (with_reducible first | exact HB.out | apply below_alloc | apply pw_below_drewN | apply below_drew1) | exact HB.out)⟩⟩
        case round =>
          clear H'
          try clear p2
          try clear c3
          try clear c3b0
          try clear c3b1
          try clear c5
          try clear c5b0
          try clear c5b1
          try clear c6
          try clear c6b0
          try clear c6b1
          try clear p6
          try clear c8
          obtain ⟨x3_1, x4_1, rfl, HA, HK1, HO_3, HB⟩ := hrel
          cases gk with
          | zero => exact absurd HA.out (by simp [verditerref05_fewest.l0])
          | succ k1 =>
            have H := HA.out
            clear HA
            simp only [verditerref05_fewest.l0] at H
            by_cases c9 : x4_1 < (x3_1.length : Int)
            · rw [if_pos c9] at H
              have c9b0 : decide (x4_1 < (x3_1.length : Int)) = true := decide_eq_true c9
              clear c9
              by_cases c10 : 0 ≤ x4_1
              · rw [if_pos c10] at H
                have c10b0 : decide (0 ≤ x4_1) = true := decide_eq_true c10
                clear c10
                obtain ⟨y104, hy104⟩ : ∃ y_ : List Int, y_ = (x3_1.set (x4_1 : Int).toNat (wrap64 ((l0.length : Int) * (l0.length : Int)))) := ⟨_, rfl⟩
                replace H : (verditerref05_fewest.l1 k1 l0 y104 x4_1 0) = some r := by first | (rw [hy104]; with_reducible exact H) | (have H2_ := (Option.bind_some _ _).symm.trans H; rw [hy104]; with_reducible exact H2_) | (have H2_ := (Option.bind_some _ _).symm.trans H; with_reducible exact H2_) | with_reducible exact H | (rw [hy104]; exact H) | exact H
                have Ny104 := Aside0.mk hy104
                clear hy104
                have H' := Aside0.mk H
                clear H
                obtain ⟨Ao12, co12, eo12⟩ := Kd.R_slice HO_3.out
                subst eo12
                have p11 : 0 ≤ (x4_1 : Int) := of_decide_eq_true (by first | (with_reducible assumption) | assumption)
                have q11 : (x4_1 : Int) < ((x3_1.length : Int) : Int) := of_decide_eq_true (by first | (with_reducible assumption) | assumption)
                obtain ⟨go11, co11, eo11, gb11, gl11, cl11, HG11⟩ := Kd.R_form HO_3.out (by omega)
                (first | cases eo11 | (injection eo11 with ea_ en_ ec_; (first | subst ea_ | (injection ea_ with ea_; subst ea_)); subst ec_; clear en_))
                have GB11 := Aside0.mk gb11
                have GG11 := Aside0.mk HG11
                clear gb11 gl11 HG11
                obtain ⟨hx11_0, hf11_0⟩ := Kd.R_celln 0 HO_3.out (x4_1 : Int) p11 q11
                replace p11 := eq_true p11
                replace q11 := eq_true q11
                have HP13 := Kd.R_putg HO_3.out (x4_1 : Int) (wrap64 ((l0.length : Int) * (l0.length : Int)))
                go_wp2_with (first | ((with_reducible refine gate_store (t := 3) (p := 27) rfl ?_); refine store_event (t := 3) (p := 27) (v := ?vo_w14) (w1 := (wr.setCell ⟨go11, (x4_1 : Int).toNat, none⟩ (.int .i64 (wrap64 ((l0.length : Int) * (l0.length : Int)))))) ?hg ?ho ?hn ?hr ?_; (case ho => rfl); (case hg => rfl); (case hn => rfl); (case hr => first | (go_simp; done) | (go_simp; rfl)); intro w14 hw; have hg : wr.grownBy w14 (some go11) := (by rw [hw]; exact HP13.2); have hp_ : Kd.R (Kd.int .i64) 3 w14 w.heap.size (fun _ => True) (.slice (some ⟨go11, 0, none⟩) x3_1.length co12) y104 := (by rw [hw, Ny104.out]; exact HP13.1); clear HP13; have n0_ := Aside0.mk (hp_); have n1_ := Aside0.mk ((by rw [hw]; exact below_set (HB.out) GB11.out : Below w.heap.size w w14)); clear HO_3; clear HB; have HO_3 := n0_; have HB := n1_; clear n0_ n1_; clear hg hw hp_))
                go_loopg [5] k1 (fun kq v5 w' => ∃ (x3_2 : List Int) (x5_2 : Int), v5 = .int .i64 x5_2 ∧ Aside0 (verditerref05_fewest.l1 kq l0 x3_2 x4_1 x5_2 = some r) ∧ Aside0 (kq ≤ k1) ∧ Aside0 (Kd.R (Kd.int .i64) 3 w' w.heap.size (fun _ => True) (.slice (some ⟨go11, 0, none⟩) x3_1.length co12) x3_2) ∧ Aside0 (Below w.heap.size w w'))
                case atStart => exact ⟨(y104), (0), (by first | rfl | (simp; done) | (simp [*]; done)), H', ⟨Nat.le_refl _⟩, ⟨by (with_reducible repeat (first | apply Kd.R_alloc | apply Kd.R_drewN | apply Kd.R_drew)); exact HO_3.out⟩, ⟨by repeat (first | (with_reducible first | exact HB.out | apply below_alloc | apply pw_below_drewN | apply below_drew1) | exact HB.out)⟩⟩
                case round =>
                  clear H'
                  try clear c1
                  try clear p1
                  try clear q1
                  try clear hx1
                  try clear hf1
                  try clear p2
                  try clear c3
                  try clear c3b0
                  try clear c3b1
                  try clear c5
                  try clear c5b0
                  try clear c5b1
                  try clear c6
                  try clear c6b0
                  try clear c6b1
                  try clear p6
                  try clear c8
                  try clear c9
                  try clear c9b0
                  try clear c10
                  try clear c10b0
                  try clear p11
                  try clear q11
                  try clear hx11
                  try clear hf11
                  try clear hx11_0
                  try clear p11
                  try clear p2
                  try clear p6
                  try clear q11
                  obtain ⟨x3_2, x5_2, rfl, HA, HK2, HO_3, HB⟩ := hrel
                  have hl3_2 := (Kd.R_reads' HO_3.out).1
                  rw [hl3_2] at HO_3
                  (try simp only [hl3_2])
                  cases gk with
                  | zero => exact absurd HA.out (by simp [verditerref05_fewest.l1])
                  | succ k2 =>
                    have H := HA.out
                    clear HA
                    simp only [verditerref05_fewest.l1] at H
                    by_cases c15 : x5_2 < (l0.length : Int)
                    · rw [if_pos c15] at H
                      have c15b0 : decide (x5_2 < (l0.length : Int)) = true := decide_eq_true c15
                      clear c15
                      obtain ⟨ji16, hji16⟩ : ∃ j_ : Int, (IntKind.u64.wrap (x5_2)) = j_ := ⟨_, rfl⟩
                      replace H : (if 0 ≤ (ji16) then (if (Go.bits .and .i64 (shr .i64 x4_1 (ji16)) 1) = 0 then (verditerref05_fewest.l1 k2 l0 x3_2 x4_1 (wrap64 (x5_2 + 1))) else (if 0 ≤ (wrap64 (x4_1 - (shl .i64 1 (ji16)))) then (if (wrap64 (x4_1 - (shl .i64 1 (ji16)))) < (x3_2.length : Int) then (verditerref05_fewest.l2 k2 l0 x3_2 x4_1 x5_2 (wrap64 (x4_1 - (shl .i64 1 (ji16)))) (rd x3_2 (wrap64 (x4_1 - (shl .i64 1 (ji16))))) 0) else (none)) else (none))) else (none)) = some r := by first | (rw [hji16] at H; exact H) | (simp only [hji16] at H ⊢; exact H)
                      by_cases c17 : 0 ≤ (ji16)
                      · rw [if_pos c17] at H
                        have c17b0 := eq_true c17
                        have c17b1 : decide (0 ≤ (ji16)) = true := decide_eq_true c17
                        clear c17
                        obtain ⟨ji18, hji18⟩ : ∃ j_ : Int, (shr .i64 x4_1 (ji16)) = j_ := ⟨_, rfl⟩
                        replace H : (if (Go.bits .and .i64 (ji18) 1) = 0 then (verditerref05_fewest.l1 k2 l0 x3_2 x4_1 (wrap64 (x5_2 + 1))) else (if 0 ≤ (wrap64 (x4_1 - (shl .i64 1 (ji16)))) then (if (wrap64 (x4_1 - (shl .i64 1 (ji16)))) < (x3_2.length : Int) then (verditerref05_fewest.l2 k2 l0 x3_2 x4_1 x5_2 (wrap64 (x4_1 - (shl .i64 1 (ji16)))) (rd x3_2 (wrap64 (x4_1 - (shl .i64 1 (ji16))))) 0) else (none)) else (none))) = some r := by first | (rw [hji18] at H; exact H) | (simp only [hji18] at H ⊢; exact H)
                        have hji18_ : (x4_1 / 2 ^ min (ji16).toNat 64) = ji18 := hji18
                        have hji18z : (ji16) ≤ 64 → (x4_1 / 2 ^ (ji16).toNat) = ji18 := shr_small hji18
                        by_cases c19 : (Go.bits .and .i64 (ji18) 1) = 0
                        · rw [if_pos c19] at H
                          have c19b0 : ((Go.bits .and .i64 (ji18) 1) == 0) = true := beq_iff_eq.mpr c19
                          have c19b1 : ((Go.bits .and .i64 (ji18) 1) != 0) = false := bne_eq_false_iff_eq.mpr c19
                          clear c19
                          have H' := Aside0.mk H
                          clear H
                          go_wp2
                          (try simp only [← hl3_2])
                          go_roundg k2
                          case measure => have := HK1.out; have := HK2.out; omega
                          case rel => exact ⟨(x3_2), (wrap64 (x5_2 + 1)), (by first | rfl | (simp; done) | (simp [*]; done)), H', ⟨by have := HK1.out; have := HK2.out; omega⟩, ⟨by (try simp only [hl3_2]); (with_reducible repeat (first | apply Kd.R_alloc | apply Kd.R_drewN | apply Kd.R_drew)); exact HO_3.out⟩, ⟨by repeat (first | (with_reducible first | exact HB.out | apply below_alloc | apply pw_below_drewN | apply below_drew1) | exact HB.out)⟩⟩
                        · rw [if_neg c19] at H
                          have c19b0 : ((Go.bits .and .i64 (ji18) 1) == 0) = false := beq_eq_false_iff_ne.mpr c19
                          have c19b1 : ((Go.bits .and .i64 (ji18) 1) != 0) = true := bne_iff_ne.mpr c19
                          have c20b0 := eq_true (of_decide_eq_true (by first | (with_reducible assumption) | assumption) : 0 ≤ (ji16))
                          obtain ⟨ji21, hji21⟩ : ∃ j_ : Int, (shl .i64 1 (ji16)) = j_ := ⟨_, rfl⟩
                          replace H : (if 0 ≤ (wrap64 (x4_1 - (ji21))) then (if (wrap64 (x4_1 - (ji21))) < (x3_2.length : Int) then (verditerref05_fewest.l2 k2 l0 x3_2 x4_1 x5_2 (wrap64 (x4_1 - (ji21))) (rd x3_2 (wrap64 (x4_1 - (ji21)))) 0) else (none)) else (none)) = some r := by first | (rw [hji21] at H; exact H) | (simp only [hji21] at H ⊢; exact H)
                          have hji21_ : (IntKind.i64.wrap (1 * 2 ^ min (ji16).toNat 64)) = ji21 := hji21
                          have hji21z : (ji16) ≤ 64 → (IntKind.i64.wrap (1 * 2 ^ (ji16).toNat)) = ji21 := shl_small hji21
                          have hji21u : (IntKind.i64.wrap (2 ^ min (ji16).toNat 64)) = ji21 := by have h_ := hji21_; rw [Int.one_mul] at h_; exact h_
                          have hji21v : (ji16) ≤ 64 → (IntKind.i64.wrap (2 ^ (ji16).toNat)) = ji21 := fun hle_ => by have h_ := hji21z hle_; rw [Int.one_mul] at h_; exact h_
                          have hji21y : (wrap64 (1 * 2 ^ min (ji16).toNat 64)) = ji21 := (i64_w _).symm.trans hji21_
                          have hji21x : (ji16) ≤ 64 → (wrap64 (1 * 2 ^ (ji16).toNat)) = ji21 := fun h_ => (i64_w _).symm.trans (hji21z h_)
                          obtain ⟨ji22, hji22⟩ : ∃ j_ : Int, (wrap64 (x4_1 - (ji21))) = j_ := ⟨_, rfl⟩
                          replace H : (if 0 ≤ (ji22) then (if (ji22) < (x3_2.length : Int) then (verditerref05_fewest.l2 k2 l0 x3_2 x4_1 x5_2 ji22 (rd x3_2 (ji22)) 0) else (none)) else (none)) = some r := by first | (rw [hji22] at H; exact H) | (simp only [hji22] at H ⊢; exact H)
                          have hji22w : (IntKind.i64.wrap (x4_1 - (ji21))) = ji22 := (i64_w _).trans hji22
                          by_cases c23 : 0 ≤ (ji22)
                          · rw [if_pos c23] at H
                            have c23b0 : decide (0 ≤ (ji22)) = true := decide_eq_true c23
                            clear c23
                            by_cases c24 : (ji22) < (x3_2.length : Int)
                            · rw [if_pos c24] at H
                              have c24b0 : decide ((ji22) < (x3_2.length : Int)) = true := decide_eq_true c24
                              clear c24
                              have H' := Aside0.mk H
                              clear H
                              have p105 : 0 ≤ ((ji22) : Int) := of_decide_eq_true (by first | (with_reducible assumption) | assumption)
                              have q105 : (ji22) < (x3_2.length : Int) := of_decide_eq_true (by first | (with_reducible assumption) | assumption)
                              obtain ⟨ad105, e105, hx105_0⟩ := Kd.at_int (Kd.R_reads' HO_3.out).2.2 (ji22) p105 q105
                              obtain rfl : (⟨go11, 0, none⟩ : Addr) = ad105 := (by injection e105)
                              (first | simp only [add_plain] at hx105_0 | simp only [add_at] at hx105_0 | simp only [Addr.add, Nat.zero_add] at hx105_0 | skip)
                              replace p105 := eq_true p105
                              replace q105 := eq_true q105
                              go_wp2
                              go_loopg [7, 8] k2 (fun kq v7 v8 w' => ∃ (x7_3 : Int) (x8_3 : Int), v7 = .int .i64 x7_3 ∧ v8 = .int .i64 x8_3 ∧ Aside0 (verditerref05_fewest.l2 kq l0 x3_2 x4_1 x5_2 ji22 x7_3 x8_3 = some r) ∧ Aside0 (kq ≤ k2) ∧ Aside0 (Kd.R (Kd.int .i64) 3 w' w.heap.size (fun _ => True) (.slice (some ⟨go11, 0, none⟩) x3_2.length co12) x3_2) ∧ Aside0 (Below w.heap.size w w'))
                              case atStart => exact ⟨(rd x3_2 (ji22)), (0), (by first | rfl | (simp; done) | (simp only [← hji22] <;> (first | rfl | simp)) | (simp [*]; done)), (by first | rfl | (simp; done) | (simp [*]; done)), H', ⟨Nat.le_refl _⟩, ⟨by (try simp only [hl3_2]); (with_reducible repeat (first | apply Kd.R_alloc | apply Kd.R_drewN | apply Kd.R_drew)); exact HO_3.out⟩, ⟨by repeat (first | (with_reducible first | exact HB.out | apply below_alloc | apply pw_below_drewN | apply below_drew1) | exact HB.out)⟩⟩
                              case round =>
                                clear H'
                                try clear c1
                                try clear p1
                                try clear q1
                                try clear hx1
                                try clear hf1
                                try clear c2
                                try clear p2
                                try clear c3
                                try clear c3b0
                                try clear c3b1
                                try clear c5
                                try clear c5b0
                                try clear c5b1
                                try clear c6
                                try clear c6b0
                                try clear c6b1
                                try clear p6
                                try clear c8
                                try clear c9
                                try clear c9b0
                                try clear c10
                                try clear c10b0
                                try clear p10
                                try clear q10
                                try clear hx10
                                try clear p11
                                try clear q11
                                try clear hx11
                                try clear hf11
                                try clear c15
                                try clear c15b0
                                try clear c17
                                try clear c17b0
                                try clear c17b1
                                try clear c19
                                try clear c19b0
                                try clear c19b1
                                try clear c20
                                try clear c20b0
                                try clear c23
                                try clear c23b0
                                try clear c24
                                try clear c24b0
                                try clear hx105_0
                                try clear hx11_0
                                try clear p1
                                try clear p105
                                try clear p11
                                try clear p2
                                try clear p6
                                try clear q1
                                try clear q105
                                try clear q11
                                obtain ⟨x7_3, x8_3, rfl, rfl, HA, HK3, HO_3, HB⟩ := hrel
                                cases gk with
                                | zero => exact absurd HA.out (by simp [verditerref05_fewest.l2])
                                | succ k3 =>
                                  have H := HA.out
                                  clear HA
                                  simp only [verditerref05_fewest.l2] at H
                                  by_cases c25 : x8_3 < (l0.length : Int)
                                  · rw [if_pos c25] at H
                                    have c25b0 : decide (x8_3 < (l0.length : Int)) = true := decide_eq_true c25
                                    clear c25
                                    obtain ⟨ji26, hji26⟩ : ∃ j_ : Int, (IntKind.u64.wrap (x8_3)) = j_ := ⟨_, rfl⟩
                                    replace H : (if 0 ≤ (ji26) then (if (Go.bits .and .i64 (shr .i64 ji22 (ji26)) 1) = 1 then (if 0 ≤ x5_2 then (if x5_2 < (l0.length : Int) then (if 0 ≤ x8_3 then (if x8_3 < ((rd_L1 l0 x5_2).length : Int) then (verditerref05_fewest.l2 k3 l0 x3_2 x4_1 x5_2 ji22 (wrap64 (x7_3 + (rd (rd_L1 l0 x5_2) x8_3))) (wrap64 (x8_3 + 1))) else (none)) else (none)) else (none)) else (none)) else (verditerref05_fewest.l2 k3 l0 x3_2 x4_1 x5_2 ji22 x7_3 (wrap64 (x8_3 + 1)))) else (none)) = some r := by first | (rw [hji26] at H; exact H) | (simp only [hji26] at H ⊢; exact H)
                                    by_cases c27 : 0 ≤ (ji26)
                                    · rw [if_pos c27] at H
                                      have c27b0 := eq_true c27
                                      have c27b1 : decide (0 ≤ (ji26)) = true := decide_eq_true c27
                                      clear c27
                                      obtain ⟨ji28, hji28⟩ : ∃ j_ : Int, (shr .i64 ji22 (ji26)) = j_ := ⟨_, rfl⟩
                                      replace H : (if (Go.bits .and .i64 (ji28) 1) = 1 then (if 0 ≤ x5_2 then (if x5_2 < (l0.length : Int) then (if 0 ≤ x8_3 then (if x8_3 < ((rd_L1 l0 x5_2).length : Int) then (verditerref05_fewest.l2 k3 l0 x3_2 x4_1 x5_2 ji22 (wrap64 (x7_3 + (rd (rd_L1 l0 x5_2) x8_3))) (wrap64 (x8_3 + 1))) else (none)) else (none)) else (none)) else (none)) else (verditerref05_fewest.l2 k3 l0 x3_2 x4_1 x5_2 ji22 x7_3 (wrap64 (x8_3 + 1)))) = some r := by first | (rw [hji28] at H; exact H) | (simp only [hji28] at H ⊢; exact H)
                                      have hji28_ : (ji22 / 2 ^ min (ji26).toNat 64) = ji28 := hji28
                                      have hji28z : (ji26) ≤ 64 → (ji22 / 2 ^ (ji26).toNat) = ji28 := shr_small hji28
                                      by_cases c29 : (Go.bits .and .i64 (ji28) 1) = 1
                                      · rw [if_pos c29] at H
                                        have c29b0 : ((Go.bits .and .i64 (ji28) 1) == 1) = true := beq_iff_eq.mpr c29
                                        have c29b1 : ((Go.bits .and .i64 (ji28) 1) != 1) = false := bne_eq_false_iff_eq.mpr c29
                                        clear c29
                                        by_cases c30 : 0 ≤ x5_2
                                        · rw [if_pos c30] at H
                                          have c30b0 : decide (0 ≤ x5_2) = true := decide_eq_true c30
                                          clear c30
                                          by_cases c31 : x5_2 < (l0.length : Int)
                                          · rw [if_pos c31] at H
                                            have c31b0 : decide (x5_2 < (l0.length : Int)) = true := decide_eq_true c31
                                            clear c31
                                            by_cases c32 : 0 ≤ x8_3
                                            · rw [if_pos c32] at H
                                              have c32b0 : decide (0 ≤ x8_3) = true := decide_eq_true c32
                                              clear c32
                                              by_cases c33 : x8_3 < ((rd_L1 l0 x5_2).length : Int)
                                              · rw [if_pos c33] at H
                                                have c33b0 : decide (x8_3 < ((rd_L1 l0 x5_2).length : Int)) = true := decide_eq_true c33
                                                clear c33
                                                have H' := Aside0.mk H
                                                clear H
                                                have p106 : 0 ≤ (x5_2 : Int) := of_decide_eq_true (by first | (with_reducible assumption) | assumption)
                                                have q106 : x5_2 < (l0.length : Int) := of_decide_eq_true (by first | (with_reducible assumption) | assumption)
                                                obtain ⟨ad106, A106_0, c106_0, e106, hx106_0, hl106_0, hi106_0⟩ := at_L1 HR0.out x5_2 p106 q106
                                                cases e106
                                                replace hx106_0 := (HB.out.cell (World.block_lt_of_cell? w _ hx106_0)).trans hx106_0
                                                have HR106_0 := Aside0.mk hi106_0
                                                have HC106_0 := Aside0.mk hl106_0
                                                clear hi106_0 hl106_0
                                                replace p106 := eq_true p106
                                                replace q106 := eq_true q106
                                                have p107 : 0 ≤ (x8_3 : Int) := of_decide_eq_true (by first | (with_reducible assumption) | assumption)
                                                have q107 : x8_3 < ((rd_L1 l0 x5_2).length : Int) := of_decide_eq_true (by first | (with_reducible assumption) | assumption)
                                                obtain ⟨ad107, e107, hx107_0⟩ := Kd.at_int HR106_0.out x8_3 p107 q107
                                                cases e107
                                                replace hx107_0 := (HB.out.cell (World.block_lt_of_cell? w _ hx107_0)).trans hx107_0
                                                replace p107 := eq_true p107
                                                replace q107 := eq_true q107
                                                go_wp2
                                                go_roundg k3
                                                case measure => have := HK1.out; have := HK2.out; have := HK3.out; omega
                                                case rel => exact ⟨(wrap64 (x7_3 + (rd (rd_L1 l0 x5_2) x8_3))), (wrap64 (x8_3 + 1)), (by first | rfl | (simp; done) | (simp [*]; done)), (by first | rfl | (simp; done) | (simp [*]; done)), H', ⟨by have := HK1.out; have := HK2.out; have := HK3.out; omega⟩, ⟨by (try simp only [hl3_2]); (with_reducible repeat (first | apply Kd.R_alloc | apply Kd.R_drewN | apply Kd.R_drew)); exact HO_3.out⟩, ⟨by repeat (first | (with_reducible first | exact HB.out | apply below_alloc | apply pw_below_drewN | apply below_drew1) | exact HB.out)⟩⟩
                                              · rw [if_neg c33] at H
                                                exact absurd H (by simp)
                                            · rw [if_neg c32] at H
                                              exact absurd H (by simp)
                                          · rw [if_neg c31] at H
                                            exact absurd H (by simp)
                                        · rw [if_neg c30] at H
                                          exact absurd H (by simp)
                                      · rw [if_neg c29] at H
                                        have c29b0 : ((Go.bits .and .i64 (ji28) 1) == 1) = false := beq_eq_false_iff_ne.mpr c29
                                        have c29b1 : ((Go.bits .and .i64 (ji28) 1) != 1) = true := bne_iff_ne.mpr c29
                                        have H' := Aside0.mk H
                                        clear H
                                        go_wp2
                                        go_roundg k3
                                        case measure => have := HK1.out; have := HK2.out; have := HK3.out; omega
                                        case rel => exact ⟨(x7_3), (wrap64 (x8_3 + 1)), (by first | rfl | (simp; done) | (simp [*]; done)), (by first | rfl | (simp; done) | (simp [*]; done)), H', ⟨by have := HK1.out; have := HK2.out; have := HK3.out; omega⟩, ⟨by (try simp only [hl3_2]); (with_reducible repeat (first | apply Kd.R_alloc | apply Kd.R_drewN | apply Kd.R_drew)); exact HO_3.out⟩, ⟨by repeat (first | (with_reducible first | exact HB.out | apply below_alloc | apply pw_below_drewN | apply below_drew1) | exact HB.out)⟩⟩
                                    · rw [if_neg c27] at H
                                      exact absurd H (by simp)
                                  · rw [if_neg c25] at H
                                    have c25b0 : decide (x8_3 < (l0.length : Int)) = false := decide_eq_false c25
                                    clear c25
                                    by_cases c34 : 0 ≤ x4_1
                                    · rw [if_pos c34] at H
                                      have c34b0 : decide (0 ≤ x4_1) = true := decide_eq_true c34
                                      clear c34
                                      by_cases c35 : x4_1 < (x3_2.length : Int)
                                      · rw [if_pos c35] at H
                                        have c35b0 : decide (x4_1 < (x3_2.length : Int)) = true := decide_eq_true c35
                                        clear c35
                                        obtain ⟨ji36, hji36⟩ : ∃ j_ : Int, (mn (rd x3_2 x4_1) x7_3) = j_ := ⟨_, rfl⟩
                                        replace H : (verditerref05_fewest.l1 k3 l0 (x3_2.set (x4_1 : Int).toNat (ji36)) x4_1 (wrap64 (x5_2 + 1))) = some r := by first | (rw [hji36] at H; exact H) | (simp only [hji36] at H ⊢; exact H)
                                        have hji36_ : (if x7_3 < (rd x3_2 x4_1) then x7_3 else (rd x3_2 x4_1)) = ji36 := hji36
                                        obtain ⟨y109, hy109⟩ : ∃ y_ : List Int, y_ = (x3_2.set (x4_1 : Int).toNat (ji36)) := ⟨_, rfl⟩
                                        replace H : (verditerref05_fewest.l1 k3 l0 y109 x4_1 (wrap64 (x5_2 + 1))) = some r := by first | (rw [hy109]; with_reducible exact H) | (have H2_ := (Option.bind_some _ _).symm.trans H; rw [hy109]; with_reducible exact H2_) | (have H2_ := (Option.bind_some _ _).symm.trans H; with_reducible exact H2_) | with_reducible exact H | (rw [hy109]; exact H) | exact H
                                        have Ny109 := Aside0.mk hy109
                                        clear hy109
                                        have H' := Aside0.mk H
                                        clear H
                                        have p108 : 0 ≤ (x4_1 : Int) := of_decide_eq_true (by first | (with_reducible assumption) | assumption)
                                        have q108 : x4_1 < (x3_2.length : Int) := of_decide_eq_true (by first | (with_reducible assumption) | assumption)
                                        obtain ⟨ad108, e108, hx108_0⟩ := Kd.at_int (Kd.R_reads' HO_3.out).2.2 x4_1 p108 q108
                                        obtain rfl : (⟨go11, 0, none⟩ : Addr) = ad108 := (by injection e108)
                                        (first | simp only [add_plain] at hx108_0 | simp only [add_at] at hx108_0 | simp only [Addr.add, Nat.zero_add] at hx108_0 | skip)
                                        replace p108 := eq_true p108
                                        replace q108 := eq_true q108
                                        have p37 : 0 ≤ (x4_1 : Int) := of_decide_eq_true (by first | (with_reducible assumption) | assumption)
                                        have q37 : (x4_1 : Int) < ((x3_2.length : Int) : Int) := of_decide_eq_true (by first | (with_reducible assumption) | assumption)
                                        obtain ⟨hx37_0, hf37_0⟩ := Kd.R_celln 0 HO_3.out (x4_1 : Int) p37 q37
                                        replace p37 := eq_true p37
                                        replace q37 := eq_true q37
                                        have HP38 := Kd.R_putg HO_3.out (x4_1 : Int) ji36
                                        go_wp2_with (first | ((with_reducible refine gate_store (t := 3) (p := 78) rfl ?_); refine store_event (t := 3) (p := 78) (v := ?vo_w39) (w1 := (wr.setCell ⟨go11, (x4_1 : Int).toNat, none⟩ (.int .i64 ji36))) ?hg ?ho ?hn ?hr ?_; (case ho => rfl); (case hg => rfl); (case hn => rfl); (case hr => first | (go_simp; done) | (go_simp; rfl)); intro w39 hw; have hg : wr.grownBy w39 (some go11) := (by rw [hw]; exact HP38.2); have hp_ : Kd.R (Kd.int .i64) 3 w39 w.heap.size (fun _ => True) (.slice (some ⟨go11, 0, none⟩) x3_2.length co12) y109 := (by rw [hw, Ny109.out]; exact HP38.1); clear HP38; have n0_ := Aside0.mk (hp_); have n1_ := Aside0.mk ((by rw [hw]; exact below_set (HB.out) GB11.out : Below w.heap.size w w39)); clear HO_3; clear HB; have HO_3 := n0_; have HB := n1_; clear n0_ n1_; clear hg hw hp_))
                                        (try simp only [← hl3_2])
                                        go_roundg k3
                                        case measure => have := HK1.out; have := HK2.out; have := HK3.out; omega
                                        case rel => exact ⟨(y109), (wrap64 (x5_2 + 1)), (by first | rfl | (simp; done) | (simp [*]; done)), H', ⟨by have := HK1.out; have := HK2.out; have := HK3.out; omega⟩, ⟨by (try simp only [hl3_2]); (with_reducible repeat (first | apply Kd.R_alloc | apply Kd.R_drewN | apply Kd.R_drew)); exact HO_3.out⟩, ⟨by repeat (first | (with_reducible first | exact HB.out | apply below_alloc | apply pw_below_drewN | apply below_drew1) | exact HB.out)⟩⟩
                                      · rw [if_neg c35] at H
                                        exact absurd H (by simp)
                                    · rw [if_neg c34] at H
                                      exact absurd H (by simp)
                            · rw [if_neg c24] at H
                              exact absurd H (by simp)
                          · rw [if_neg c23] at H
                            exact absurd H (by simp)
                      · rw [if_neg c17] at H
                        exact absurd H (by simp)
                    · rw [if_neg c15] at H
                      have c15b0 : decide (x5_2 < (l0.length : Int)) = false := decide_eq_false c15
                      clear c15
                      have H' := Aside0.mk H
                      clear H
                      go_wp2
                      (try simp only [← hl3_2])
                      go_roundg k2
                      case measure => have := HK1.out; have := HK2.out; omega
                      case rel => exact ⟨(x3_2), (wrap64 (x4_1 + 1)), (by first | rfl | (simp; done) | (simp [*]; done)), H', ⟨by have := HK1.out; have := HK2.out; omega⟩, ⟨by (try simp only [hl3_2]); (with_reducible repeat (first | apply Kd.R_alloc | apply Kd.R_drewN | apply Kd.R_drew)); exact HO_3.out⟩, ⟨by repeat (first | (with_reducible first | exact HB.out | apply below_alloc | apply pw_below_drewN | apply below_drew1) | exact HB.out)⟩⟩
              · rw [if_neg c10] at H
                exact absurd H (by simp)
            · rw [if_neg c9] at H
              have c9b0 : decide (x4_1 < (x3_1.length : Int)) = false := decide_eq_false c9
              clear c9
              obtain rfl := Option.some.inj H
              obtain ⟨Ao40, co40, eo40⟩ := Kd.R_slice HO_3.out
              subst eo40
              go_wp2
              go_ret
              exact ⟨_, by first | rfl | (simp [errW_none, errW_some] <;> rfl) | (simp only [← hji2, ← hji4]; first | rfl | (simp [errW_none, errW_some] <;> rfl)) | (simp [*, errW_none, errW_some] <;> rfl), by (with_reducible repeat (first | apply Kd.R_alloc | apply Kd.R_drewN | apply Kd.R_drew)); exact HO_3.out, by repeat (first | (with_reducible first | exact HB.out | apply below_alloc | apply pw_below_drewN | apply below_drew1) | exact HB.out)⟩
      · rw [if_neg c6] at H
        exact absurd H (by simp)
    · rw [if_neg c5] at H
      exact absurd H (by simp)
  · rw [if_neg c3] at H
    exact absurd H (by simp)

/-! ### verditerref05_Fewest: function 55 -/
def verditerref05_Fewest.f (k : Nat) (l0 : List (List Int)) : Option (Int × Int) := (verditerref05_Validate.f l0).bind fun t110 => (if t110 = 0 then ((verditerref05_fewest.f k l0).bind fun t111 => (if 0 ≤ (wrap64 ((t111.length : Int) - 1)) then (if (wrap64 ((t111.length : Int) - 1)) < (t111.length : Int) then (some (rd t111 (wrap64 ((t111.length : Int) - 1)), 0)) else (none)) else (none))) else (some (0, t110)))
theorem verditerref05_Fewest.mono : ∀ a0 k, LeO (verditerref05_Fewest.f k a0) (verditerref05_Fewest.f (k + 1) a0) := by
  intro a0 k
  unfold verditerref05_Fewest.f
  repeat' first
      | (with_reducible exact verditerref05_fewest.mono _ _)
      | (with_reducible exact LeO.refl _)
      | (with_reducible exact LeO.none _)
      | (with_reducible refine LeO.ite ?_ ?_)
      | (with_reducible refine LeO.bind ?_ (fun _ => ?_))
      | exact verditerref05_fewest.mono _ _
      | exact LeO.none _
      | refine LeO.ite ?_ ?_
      | refine LeO.bind ?_ (fun _ => ?_)
set_option maxHeartbeats 8000000 in
set_option maxRecDepth 100000 in
theorem verditerref05_Fewest.calls (k : Nat) (A0 : Option Addr) (c0 : Nat) (l0 : List (List Int)) (r1 : Int) (r2 : Int) (w : World) (hr0 : Kd.C (Kd.slice 3 (Kd.int .i64)) w A0 l0.length l0) (hc0 : l0.length ≤ c0) (h : verditerref05_Fewest.f k l0 = some (r1, r2)) :
    Calls Try.prog 55 #[.slice A0 l0.length c0] w fun e w' => e = .returned (.tuple #[.int .i64 r1, .int .i64 r2]) ∧ Below w.heap.size w w' := by
  have HR0 := Aside0.mk hr0
  have HC0 := Aside0.mk hc0
  clear hr0 hc0
  have HB := Aside0.mk (Below.refl w.heap.size w)
  have H : ((verditerref05_Validate.f l0).bind fun t110 => (if t110 = 0 then ((verditerref05_fewest.f k l0).bind fun t111 => (if 0 ≤ (wrap64 ((t111.length : Int) - 1)) then (if (wrap64 ((t111.length : Int) - 1)) < (t111.length : Int) then (some (rd t111 (wrap64 ((t111.length : Int) - 1)), 0)) else (none)) else (none))) else (some (0, t110)))) = some (r1, r2) := h
  clear h
  replace H := Option.bind_eq_some_iff.mp H
  obtain ⟨t110, A20, H⟩ := H
  replace H : (if t110 = 0 then ((verditerref05_fewest.f k l0).bind fun t111 => (if 0 ≤ (wrap64 ((t111.length : Int) - 1)) then (if (wrap64 ((t111.length : Int) - 1)) < (t111.length : Int) then (some (rd t111 (wrap64 ((t111.length : Int) - 1)), 0)) else (none)) else (none))) else (some (0, t110))) = some (r1, r2) := H
  have A2 := Aside0.mk A20
  clear A20
  by_cases c3 : t110 = 0
  · rw [if_pos c3] at H
    have c3b0 : (t110 == 0) = true := beq_iff_eq.mpr c3
    have c3b1 : (t110 != 0) = false := bne_eq_false_iff_eq.mpr c3
    clear c3
    replace H := Option.bind_eq_some_iff.mp H
    obtain ⟨t111, A40, H⟩ := H
    replace H : (if 0 ≤ (wrap64 ((t111.length : Int) - 1)) then (if (wrap64 ((t111.length : Int) - 1)) < (t111.length : Int) then (some (rd t111 (wrap64 ((t111.length : Int) - 1)), 0)) else (none)) else (none)) = some (r1, r2) := H
    have A4 := Aside0.mk A40
    clear A40
    obtain ⟨ji5, hji5⟩ : ∃ j_ : Int, (wrap64 ((t111.length : Int) - 1)) = j_ := ⟨_, rfl⟩
    replace H : (if 0 ≤ (ji5) then (if (ji5) < (t111.length : Int) then (some (rd t111 (ji5), 0)) else (none)) else (none)) = some (r1, r2) := by first | (rw [hji5] at H; exact H) | (simp only [hji5] at H ⊢; exact H)
    (try rw [hji5] at A2)
    (try rw [hji5] at A4)
    have hji5w : (IntKind.i64.wrap ((t111.length : Int) - 1)) = ji5 := (i64_w _).trans hji5
    by_cases c6 : 0 ≤ (ji5)
    · rw [if_pos c6] at H
      have c6b0 : decide (0 ≤ (ji5)) = true := decide_eq_true c6
      clear c6
      by_cases c7 : (ji5) < (t111.length : Int)
      · rw [if_pos c7] at H
        have c7b0 : decide ((ji5) < (t111.length : Int)) = true := decide_eq_true c7
        clear c7
        simp only [Option.some.injEq, Prod.mk.injEq] at H
        obtain ⟨rfl, rfl⟩ := H
        go_enter Try.func55, Try.ntmps55
        go_wp2_with (first | ((with_reducible refine gate_callee (f := 40) rfl ?_); refine goesL_ (some 7) rfl rfl Try.func40 (by kernel_rfl) rfl #[.slice A0 l0.length c0] rfl (by (try simp only [List.map_toArray, List.map_cons, List.map_nil]); first | done | rfl | (simp only [List.length_drop, List.length_take]; rfl)) ?_; (with_reducible refine (verditerref05_Validate.calls _ _ l0 t110 _ ?side1 ?side2 A2.out).mono ?_); (case side1 => repeat (first | exact HR0.out | (with_reducible refine Kd.C_alloc ?_ _) | (with_reducible refine Kd.C_drewN ?_ _) | (with_reducible refine Kd.C_drew ?_))); (case side2 => exact HC0.out); rintro e w' ⟨rfl, ⟨nd, rfl⟩⟩; refine ⟨_, rfl, ?_⟩) | ((with_reducible refine gate_callee (f := 87) rfl ?_); refine goesL_ (some 12) rfl rfl Try.func87 (by kernel_rfl) rfl #[.slice A0 l0.length c0] rfl (by (try simp only [List.map_toArray, List.map_cons, List.map_nil]); first | done | rfl | (simp only [List.length_drop, List.length_take]; rfl)) ?_; (with_reducible refine (verditerref05_fewest.calls k _ _ l0 t111 _ ?side1 ?side2 A4.out).mono ?_); (case side1 => repeat (first | exact HR0.out | (with_reducible refine Kd.C_alloc ?_ _) | (with_reducible refine Kd.C_drewN ?_ _) | (with_reducible refine Kd.C_drew ?_))); (case side2 => exact HC0.out); rintro e w8 ⟨v112, rfl, ho0, hb⟩; refine ⟨_, rfl, ?_⟩; have n0_ := Aside0.mk (Kd.R_lower ho0 (below_size (by repeat (first | (with_reducible first | exact HB.out | apply below_alloc | apply pw_below_drewN | apply below_drew1) | exact HB.out)))); have n1_ := Aside0.mk (below_step (by repeat (first | (with_reducible first | exact HB.out | apply below_alloc | apply pw_below_drewN | apply below_drew1) | exact HB.out)) hb); clear HB; have HO113 := n0_; have HB := n1_; clear n0_ n1_; (try clear hb); (try clear hb2); (try clear hk); (try clear hi); (try clear ho0); obtain ⟨Ao9, co9, eo9⟩ := Kd.R_slice HO113.out; subst eo9; have p114 : 0 ≤ ((ji5) : Int) := of_decide_eq_true (by first | (with_reducible assumption) | assumption); have q114 : (ji5) < (t111.length : Int) := of_decide_eq_true (by first | (with_reducible assumption) | assumption); obtain ⟨ad114, e114, hx114_0⟩ := Kd.at_int (Kd.R_reads' HO113.out).2.2 (ji5) p114 q114; cases e114; replace p114 := eq_true p114; replace q114 := eq_true q114))
        go_ret2
        exact ⟨by first | rfl | (simp [errW_none, errW_some] <;> rfl) | (simp only [← hji5]; first | rfl | (simp [errW_none, errW_some] <;> rfl)) | (simp [*, errW_none, errW_some] <;> rfl), by repeat (first | (with_reducible first | exact HB.out | apply below_alloc | apply pw_below_drewN | apply below_drew1) | exact HB.out)⟩
      · rw [if_neg c7] at H
        exact absurd H (by simp)
    · rw [if_neg c6] at H
      exact absurd H (by simp)
  · rw [if_neg c3] at H
    have c3b0 : (t110 == 0) = false := beq_eq_false_iff_ne.mpr c3
    have c3b1 : (t110 != 0) = true := bne_iff_ne.mpr c3
    simp only [Option.some.injEq, Prod.mk.injEq] at H
    obtain ⟨rfl, rfl⟩ := H
    go_enter Try.func55, Try.ntmps55
    go_wp2_with (first | ((with_reducible refine gate_callee (f := 40) rfl ?_); refine goesL_ (some 7) rfl rfl Try.func40 (by kernel_rfl) rfl #[.slice A0 l0.length c0] rfl (by (try simp only [List.map_toArray, List.map_cons, List.map_nil]); first | done | rfl | (simp only [List.length_drop, List.length_take]; rfl)) ?_; (with_reducible refine (verditerref05_Validate.calls _ _ l0 t110 _ ?side1 ?side2 A2.out).mono ?_); (case side1 => repeat (first | exact HR0.out | (with_reducible refine Kd.C_alloc ?_ _) | (with_reducible refine Kd.C_drewN ?_ _) | (with_reducible refine Kd.C_drew ?_))); (case side2 => exact HC0.out); rintro e w' ⟨rfl, ⟨nd, rfl⟩⟩; refine ⟨_, rfl, ?_⟩))
    go_ret2
    exact ⟨by first | rfl | (simp [errW_none, errW_some] <;> rfl) | (simp [*, errW_none, errW_some] <;> rfl), by repeat (first | (with_reducible first | exact HB.out | apply below_alloc | apply pw_below_drewN | apply below_drew1) | exact HB.out)⟩

end Go.Proofs.Ytbnjffhcpkfnhaa.QR
