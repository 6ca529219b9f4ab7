/- Written by a program of this seat over the kit's print: each function's Lean form, and that the machine's call comes to it. -/
import Derived.Test.YtbnjffhcpkfnhaaQK0
import Derived.Test.YtbnjffhcpkfnhaaQK1
namespace Go.Proofs.Ytbnjffhcpkfnhaa.QK
open Go.RowKit Go.Proofs.YtbnjffhcpkfnhaaW.PrintWords Go.Proofs.YtbnjffhcpkfnhaaW.PrintLast Go.Proofs.YtbnjffhcpkfnhaaW.PrintMore Go.Proofs.Ytbnjffhcpkfnhaa.H Go.Proofs.Ytbnjffhcpkfnhaa.QA
attribute [local go_sem] max2_int min2_int max_two min_two max_three min_three max_four min_four   -- for this text's walks alone
set_option linter.unusedVariables false
set_option linter.unusedSimpArgs false

/-! ### verditerlaw05_sunKings: function 19 -/
mutual
def verditerlaw05_sunKings.j0 : Nat → List (List Int) → List Int → Int → Bool → Option (Bool)
  | 0, _, _, _, _ => none
  | k + 1, x0, x5, x6, x33 => if x33 = true then (some false) else (if x6 = 0 then ((sun_Wins.f x0).bind fun bt124 => (if bt124.2 = 0 then (if (bt124.1.length : Int) = (x0.length : Int) then (if (x5.length : Int) = 2 then (verditerlaw05_sunKings.j1 k x0 x5 bt124.1 true) else (verditerlaw05_sunKings.j1 k x0 x5 bt124.1 ((x5.length : Int) == 0))) else (verditerlaw05_sunKings.j1 k x0 x5 bt124.1 true)) else (verditerlaw05_sunKings.j1 k x0 x5 bt124.1 true))) else ((verditerlaw05_known.f).bind fun t123 => (some t123)))
def verditerlaw05_sunKings.j1 : Nat → List (List Int) → List Int → List Int → Bool → Option (Bool)
  | 0, _, _, _, _ => none
  | k + 1, x0, x5, x7, x60 => if x60 = true then (some false) else (verditerlaw05_sunKings.l0 k x0 x5 x7 0 0)
def verditerlaw05_sunKings.l0 : Nat → List (List Int) → List Int → List Int → Int → Int → Option (Bool)
  | 0, _, _, _, _, _ => none
  | k + 1, x0, x5, x7, x9, x10 => if x10 < (x7.length : Int) then (if 0 ≤ x10 then (verditerlaw05_sunKings.l0 k x0 x5 x7 (mx x9 (rd x7 x10)) (wrap64 (x10 + 1))) else (none)) else (verditerlaw05_sunKings.l1 k x0 x5 x7 x9 0)
def verditerlaw05_sunKings.l1 : Nat → List (List Int) → List Int → List Int → Int → Int → Option (Bool)
  | 0, _, _, _, _, _ => none
  | k + 1, x0, x5, x7, x9, x11 => if x11 < (x7.length : Int) then (if 0 ≤ x11 then (if (rd x7 x11) = x9 then ((verditerref01_Has.f k x5 x11).bind fun t130 => (if t130 = true then (verditerlaw05_sunKings.l1 k x0 x5 x7 x9 (wrap64 (x11 + 1))) else (some false))) else (verditerlaw05_sunKings.l1 k x0 x5 x7 x9 (wrap64 (x11 + 1)))) else (none)) else (if (((x5.length : Int) == 1) == (x9 == (wrap64 ((x0.length : Int) - 1)))) = true then ((verditerlaw05_known.f).bind fun t131 => (some t131)) else (some false))
end
def verditerlaw05_sunKings.f (k : Nat) (l0 : List (List Int)) : Option (Bool) := (verditerlaw05_Long.f k l0).bind fun t112 => (if t112 = true then ((verditerlaw05_known.f).bind fun t113 => (some t113)) else ((verditerref05_Kings.f k l0).bind fun bt114 => ((sun_Kings.f l0).bind fun bt118 => ((verditerref01_SameInts.f k bt118.1 bt114.1).bind fun t122 => (if t122 = true then (verditerlaw05_sunKings.j0 k l0 bt118.1 bt118.2 (bt118.2 != bt114.2)) else (verditerlaw05_sunKings.j0 k l0 bt118.1 bt118.2 true))))))
theorem verditerlaw05_sunKings.mono_l : ∀ k, (∀ y0 y1 y2 y3, LeO (verditerlaw05_sunKings.j0 k y0 y1 y2 y3) (verditerlaw05_sunKings.j0 (k + 1) y0 y1 y2 y3)) ∧ (∀ y0 y1 y2 y3, LeO (verditerlaw05_sunKings.j1 k y0 y1 y2 y3) (verditerlaw05_sunKings.j1 (k + 1) y0 y1 y2 y3)) ∧ (∀ y0 y1 y2 y3 y4, LeO (verditerlaw05_sunKings.l0 k y0 y1 y2 y3 y4) (verditerlaw05_sunKings.l0 (k + 1) y0 y1 y2 y3 y4)) ∧ (∀ y0 y1 y2 y3 y4, LeO (verditerlaw05_sunKings.l1 k y0 y1 y2 y3 y4) (verditerlaw05_sunKings.l1 (k + 1) y0 y1 y2 y3 y4))
  | 0 => ⟨fun _ _ _ _ r h => by simp [verditerlaw05_sunKings.j0] at h, fun _ _ _ _ r h => by simp [verditerlaw05_sunKings.j1] at h, fun _ _ _ _ _ r h => by simp [verditerlaw05_sunKings.l0] at h, fun _ _ _ _ _ r h => by simp [verditerlaw05_sunKings.l1] at h⟩
  | k + 1 => by
    obtain ⟨ih0, ih1, ih2, ih3⟩ := verditerlaw05_sunKings.mono_l k
    refine ⟨?_, ?_, ?_, ?_⟩
    · intro y0 y1 y2 y3
      unfold verditerlaw05_sunKings.j0
      repeat' first
      | (with_reducible exact ih0 _ _ _ _)
      | (with_reducible exact ih1 _ _ _ _)
      | (with_reducible exact ih2 _ _ _ _ _)
      | (with_reducible exact ih3 _ _ _ _ _)
      | (with_reducible exact verditerlaw05_Long.mono _ _)
      | (with_reducible exact verditerref01_Has.mono _ _ _)
      | (with_reducible exact verditerref01_SameInts.mono _ _ _)
      | (with_reducible exact verditerref05_Kings.mono _ _)
      | (with_reducible exact LeO.refl _)
      | (with_reducible exact LeO.none _)
      | (with_reducible refine LeO.ite ?_ ?_)
      | (with_reducible refine LeO.bind ?_ (fun _ => ?_))
      | exact ih0 _ _ _ _
      | exact ih1 _ _ _ _
      | exact ih2 _ _ _ _ _
      | exact ih3 _ _ _ _ _
      | exact verditerlaw05_Long.mono _ _
      | exact verditerref01_Has.mono _ _ _
      | exact verditerref01_SameInts.mono _ _ _
      | exact verditerref05_Kings.mono _ _
      | exact LeO.none _
      | refine LeO.ite ?_ ?_
      | refine LeO.bind ?_ (fun _ => ?_)
    · intro y0 y1 y2 y3
      unfold verditerlaw05_sunKings.j1
      repeat' first
      | (with_reducible exact ih0 _ _ _ _)
      | (with_reducible exact ih1 _ _ _ _)
      | (with_reducible exact ih2 _ _ _ _ _)
      | (with_reducible exact ih3 _ _ _ _ _)
      | (with_reducible exact verditerlaw05_Long.mono _ _)
      | (with_reducible exact verditerref01_Has.mono _ _ _)
      | (with_reducible exact verditerref01_SameInts.mono _ _ _)
      | (with_reducible exact verditerref05_Kings.mono _ _)
      | (with_reducible exact LeO.refl _)
      | (with_reducible exact LeO.none _)
      | (with_reducible refine LeO.ite ?_ ?_)
      | (with_reducible refine LeO.bind ?_ (fun _ => ?_))
      | exact ih0 _ _ _ _
      | exact ih1 _ _ _ _
      | exact ih2 _ _ _ _ _
      | exact ih3 _ _ _ _ _
      | exact verditerlaw05_Long.mono _ _
      | exact verditerref01_Has.mono _ _ _
      | exact verditerref01_SameInts.mono _ _ _
      | exact verditerref05_Kings.mono _ _
      | exact LeO.none _
      | refine LeO.ite ?_ ?_
      | refine LeO.bind ?_ (fun _ => ?_)
    · intro y0 y1 y2 y3 y4
      unfold verditerlaw05_sunKings.l0
      repeat' first
      | (with_reducible exact ih0 _ _ _ _)
      | (with_reducible exact ih1 _ _ _ _)
      | (with_reducible exact ih2 _ _ _ _ _)
      | (with_reducible exact ih3 _ _ _ _ _)
      | (with_reducible exact verditerlaw05_Long.mono _ _)
      | (with_reducible exact verditerref01_Has.mono _ _ _)
      | (with_reducible exact verditerref01_SameInts.mono _ _ _)
      | (with_reducible exact verditerref05_Kings.mono _ _)
      | (with_reducible exact LeO.refl _)
      | (with_reducible exact LeO.none _)
      | (with_reducible refine LeO.ite ?_ ?_)
      | (with_reducible refine LeO.bind ?_ (fun _ => ?_))
      | exact ih0 _ _ _ _
      | exact ih1 _ _ _ _
      | exact ih2 _ _ _ _ _
      | exact ih3 _ _ _ _ _
      | exact verditerlaw05_Long.mono _ _
      | exact verditerref01_Has.mono _ _ _
      | exact verditerref01_SameInts.mono _ _ _
      | exact verditerref05_Kings.mono _ _
      | exact LeO.none _
      | refine LeO.ite ?_ ?_
      | refine LeO.bind ?_ (fun _ => ?_)
    · intro y0 y1 y2 y3 y4
      unfold verditerlaw05_sunKings.l1
      repeat' first
      | (with_reducible exact ih0 _ _ _ _)
      | (with_reducible exact ih1 _ _ _ _)
      | (with_reducible exact ih2 _ _ _ _ _)
      | (with_reducible exact ih3 _ _ _ _ _)
      | (with_reducible exact verditerlaw05_Long.mono _ _)
      | (with_reducible exact verditerref01_Has.mono _ _ _)
      | (with_reducible exact verditerref01_SameInts.mono _ _ _)
      | (with_reducible exact verditerref05_Kings.mono _ _)
      | (with_reducible exact LeO.refl _)
      | (with_reducible exact LeO.none _)
      | (with_reducible refine LeO.ite ?_ ?_)
      | (with_reducible refine LeO.bind ?_ (fun _ => ?_))
      | exact ih0 _ _ _ _
      | exact ih1 _ _ _ _
      | exact ih2 _ _ _ _ _
      | exact ih3 _ _ _ _ _
      | exact verditerlaw05_Long.mono _ _
      | exact verditerref01_Has.mono _ _ _
      | exact verditerref01_SameInts.mono _ _ _
      | exact verditerref05_Kings.mono _ _
      | exact LeO.none _
      | refine LeO.ite ?_ ?_
      | refine LeO.bind ?_ (fun _ => ?_)
theorem verditerlaw05_sunKings.mono : ∀ a0 k, LeO (verditerlaw05_sunKings.f k a0) (verditerlaw05_sunKings.f (k + 1) a0) := by
  intro a0 k
  obtain ⟨ih0, ih1, ih2, ih3⟩ := verditerlaw05_sunKings.mono_l k
  unfold verditerlaw05_sunKings.f
  repeat' first
      | (with_reducible exact ih0 _ _ _ _)
      | (with_reducible exact ih1 _ _ _ _)
      | (with_reducible exact ih2 _ _ _ _ _)
      | (with_reducible exact ih3 _ _ _ _ _)
      | (with_reducible exact verditerlaw05_Long.mono _ _)
      | (with_reducible exact verditerref01_Has.mono _ _ _)
      | (with_reducible exact verditerref01_SameInts.mono _ _ _)
      | (with_reducible exact verditerref05_Kings.mono _ _)
      | (with_reducible exact LeO.refl _)
      | (with_reducible exact LeO.none _)
      | (with_reducible refine LeO.ite ?_ ?_)
      | (with_reducible refine LeO.bind ?_ (fun _ => ?_))
      | exact ih0 _ _ _ _
      | exact ih1 _ _ _ _
      | exact ih2 _ _ _ _ _
      | exact ih3 _ _ _ _ _
      | exact verditerlaw05_Long.mono _ _
      | exact verditerref01_Has.mono _ _ _
      | exact verditerref01_SameInts.mono _ _ _
      | exact verditerref05_Kings.mono _ _
      | exact LeO.none _
      | refine LeO.ite ?_ ?_
      | refine LeO.bind ?_ (fun _ => ?_)
set_option maxHeartbeats 8000000 in
set_option maxRecDepth 100000 in
theorem verditerlaw05_sunKings.calls (k : Nat) (A0 : Option Addr) (c0 : Nat) (l0 : List (List Int)) (r : Bool) (w : World) (hr0 : Kd.C (Kd.slice 3 (Kd.int .i64)) w A0 l0.length l0) (hc0 : l0.length ≤ c0) (h : verditerlaw05_sunKings.f k l0 = some r) :
    Calls Try.prog 19 #[.slice A0 l0.length c0] w fun e w' => e = .returned (.bool r) ∧ Below w.heap.size w w' := by
  have HR0 := Aside0.mk hr0
  have HC0 := Aside0.mk hc0
  clear hr0 hc0
  have HB := Aside0.mk (Below.refl w.heap.size w)
  have H : ((verditerlaw05_Long.f k l0).bind fun t112 => (if t112 = true then ((verditerlaw05_known.f).bind fun t113 => (some t113)) else ((verditerref05_Kings.f k l0).bind fun bt114 => ((sun_Kings.f l0).bind fun bt118 => ((verditerref01_SameInts.f k bt118.1 bt114.1).bind fun t122 => (if t122 = true then (verditerlaw05_sunKings.j0 k l0 bt118.1 bt118.2 (bt118.2 != bt114.2)) else (verditerlaw05_sunKings.j0 k l0 bt118.1 bt118.2 true))))))) = some r := h
  clear h
  replace H := Option.bind_eq_some_iff.mp H
  obtain ⟨t112, A20, H⟩ := H
  replace H : (if t112 = true then ((verditerlaw05_known.f).bind fun t113 => (some t113)) else ((verditerref05_Kings.f k l0).bind fun bt114 => ((sun_Kings.f l0).bind fun bt118 => ((verditerref01_SameInts.f k bt118.1 bt114.1).bind fun t122 => (if t122 = true then (verditerlaw05_sunKings.j0 k l0 bt118.1 bt118.2 (bt118.2 != bt114.2)) else (verditerlaw05_sunKings.j0 k l0 bt118.1 bt118.2 true)))))) = some r := H
  have A2 := Aside0.mk A20
  clear A20
  by_cases c3 : t112 = true
  · subst c3
    have H1 : ((verditerlaw05_known.f).bind fun t113 => (some t113)) = some r := by rw [if_pos rfl] at H; exact H
    clear H
    have H := H1
    clear H1
    replace H := Option.bind_eq_some_iff.mp H
    obtain ⟨t113, A40, H⟩ := H
    replace H : (some t113) = some r := H
    have A4 := Aside0.mk A40
    clear A40
    obtain rfl := Option.some.inj H
    go_enter Try.func19, Try.ntmps19
    go_wp2_with (first | ((with_reducible refine gate_callee (f := 33) rfl ?_); refine goesL_ (some 13) rfl rfl Try.func33 (by kernel_rfl) rfl #[.slice A0 l0.length c0] rfl (by (try simp only [List.map_toArray, List.map_cons, List.map_nil]); first | done | rfl | (simp only [List.length_drop, List.length_take]; rfl)) ?_; (with_reducible refine (verditerlaw05_Long.calls k _ _ l0 true _ ?side1 ?side2 A2.out).mono ?_); (case side1 => repeat (first | exact HR0.out | (with_reducible refine Kd.C_alloc ?_ _) | (with_reducible refine Kd.C_drewN ?_ _) | (with_reducible refine Kd.C_drew ?_))); (case side2 => exact HC0.out); rintro e w' ⟨rfl, ⟨nd, rfl⟩⟩; refine ⟨_, rfl, ?_⟩) | ((with_reducible refine gate_callee (f := 34) rfl ?_); refine goesL_ (some 14) rfl rfl Try.func34 (by kernel_rfl) rfl #[] rfl (by (try simp only [List.map_toArray, List.map_cons, List.map_nil]); first | done | rfl | (simp only [List.length_drop, List.length_take]; rfl)) ?_; (with_reducible refine (verditerlaw05_known.calls  t113 _ A4.out).mono ?_); rintro e w5 ⟨rfl, hb⟩; refine ⟨_, rfl, ?_⟩; have n0_ := Aside0.mk (below_step (by repeat (first | (with_reducible first | exact HB.out | apply below_alloc | apply pw_below_drewN | apply below_drew1) | exact HB.out)) hb); clear HB; have HB := n0_; clear n0_; (try clear hb); (try clear hb2); (try clear hk); (try clear hi)))
    go_ret
    exact ⟨by first | rfl | (simp [errW_none, errW_some] <;> rfl) | (simp [*, errW_none, errW_some] <;> rfl), by repeat (first | (with_reducible first | exact HB.out | apply below_alloc | apply pw_below_drewN | apply below_drew1) | exact HB.out)⟩
  · replace c3 := Bool.eq_false_iff.mpr c3
    subst c3
    have H1 : ((verditerref05_Kings.f k l0).bind fun bt114 => ((sun_Kings.f l0).bind fun bt118 => ((verditerref01_SameInts.f k bt118.1 bt114.1).bind fun t122 => (if t122 = true then (verditerlaw05_sunKings.j0 k l0 bt118.1 bt118.2 (bt118.2 != bt114.2)) else (verditerlaw05_sunKings.j0 k l0 bt118.1 bt118.2 true))))) = some r := by rw [if_neg (show ¬ (false = true) by decide)] at H; exact H
    clear H
    have H := H1
    clear H1
    replace H := Option.bind_eq_some_iff.mp H
    obtain ⟨⟨t114, t115⟩, A60, H⟩ := H
    replace H : ((sun_Kings.f l0).bind fun bt118 => ((verditerref01_SameInts.f k bt118.1 t114).bind fun t122 => (if t122 = true then (verditerlaw05_sunKings.j0 k l0 bt118.1 bt118.2 (bt118.2 != t115)) else (verditerlaw05_sunKings.j0 k l0 bt118.1 bt118.2 true)))) = some r := H
    have A6 := Aside0.mk A60
    clear A60
    replace H := Option.bind_eq_some_iff.mp H
    obtain ⟨⟨t118, t119⟩, A70, H⟩ := H
    replace H : ((verditerref01_SameInts.f k t118 t114).bind fun t122 => (if t122 = true then (verditerlaw05_sunKings.j0 k l0 t118 t119 (t119 != t115)) else (verditerlaw05_sunKings.j0 k l0 t118 t119 true))) = some r := H
    have A7 := Aside0.mk A70
    clear A70
    have HC8 := Aside0.mk H
    clear H
    go_enter Try.func19, Try.ntmps19
    go_upto_region 5 with (first | ((with_reducible refine gate_callee (f := 33) rfl ?_); refine goesL_ (some 13) rfl rfl Try.func33 (by kernel_rfl) rfl #[.slice A0 l0.length c0] rfl (by (try simp only [List.map_toArray, List.map_cons, List.map_nil]); first | done | rfl | (simp only [List.length_drop, List.length_take]; rfl)) ?_; (with_reducible refine (verditerlaw05_Long.calls k _ _ l0 false _ ?side1 ?side2 A2.out).mono ?_); (case side1 => repeat (first | exact HR0.out | (with_reducible refine Kd.C_alloc ?_ _) | (with_reducible refine Kd.C_drewN ?_ _) | (with_reducible refine Kd.C_drew ?_))); (case side2 => exact HC0.out); rintro e w' ⟨rfl, ⟨nd, rfl⟩⟩; refine ⟨_, rfl, ?_⟩) | ((with_reducible refine gate_callee (f := 42) rfl ?_); refine goesL_ (some 17) rfl rfl Try.func42 (by kernel_rfl) rfl #[.slice A0 l0.length c0] rfl (by (try simp only [List.map_toArray, List.map_cons, List.map_nil]); first | done | rfl | (simp only [List.length_drop, List.length_take]; rfl)) ?_; (with_reducible refine (verditerref05_Kings.calls k _ _ l0 t114 t115 _ ?side1 ?side2 A6.out).mono ?_); (case side1 => repeat (first | exact HR0.out | (with_reducible refine Kd.C_alloc ?_ _) | (with_reducible refine Kd.C_drewN ?_ _) | (with_reducible refine Kd.C_drew ?_))); (case side2 => exact HC0.out); rintro e w9 ⟨v116, rfl, ho0, hb⟩; refine ⟨_, rfl, ?_⟩; have n0_ := Aside0.mk (Kd.R_lower ho0 (below_size (by repeat (first | (with_reducible first | exact HB.out | apply below_alloc | apply pw_below_drewN | apply below_drew1) | exact HB.out)))); have n1_ := Aside0.mk (below_step (by repeat (first | (with_reducible first | exact HB.out | apply below_alloc | apply pw_below_drewN | apply below_drew1) | exact HB.out)) hb); clear HB; have HO117 := n0_; have HB := n1_; clear n0_ n1_; (try clear hb); (try clear hb2); (try clear hk); (try clear hi); (try clear ho0)) | ((with_reducible refine gate_callee (f := 43) rfl ?_); refine goesL_ (some 22) rfl rfl Try.func43 (by kernel_rfl) rfl #[.slice A0 l0.length c0] rfl (by (try simp only [List.map_toArray, List.map_cons, List.map_nil]); first | done | rfl | (simp only [List.length_drop, List.length_take]; rfl)) ?_; (with_reducible refine (sun_Kings.calls _ _ l0 t118 t119 _ ?side1 ?side2 A7.out).mono ?_); (case side1 => repeat (first | exact (Kd.C_below HR0.out HB.out) | (with_reducible refine Kd.C_alloc ?_ _) | (with_reducible refine Kd.C_drewN ?_ _) | (with_reducible refine Kd.C_drew ?_))); (case side2 => exact HC0.out); rintro e w10 ⟨v120, rfl, ho0, hb⟩; refine ⟨_, rfl, ?_⟩; have n0_ := Aside0.mk (Kd.R_elder' (by (with_reducible repeat (first | apply Kd.R_alloc | apply Kd.R_drewN | apply Kd.R_drew)); exact HO117.out) (Kd.R_base ho0) hb); have n1_ := Aside0.mk (Kd.R_lower (Kd.R_new' ho0 (Kd.R_lt (by (with_reducible repeat (first | apply Kd.R_alloc | apply Kd.R_drewN | apply Kd.R_drew)); exact HO117.out))) (below_size (by repeat (first | (with_reducible first | exact HB.out | apply below_alloc | apply pw_below_drewN | apply below_drew1) | exact HB.out)))); have n2_ := Aside0.mk (below_step (by repeat (first | (with_reducible first | exact HB.out | apply below_alloc | apply pw_below_drewN | apply below_drew1) | exact HB.out)) hb); clear HO117; clear HB; have HO117 := n0_; have HO121 := n1_; have HB := n2_; clear n0_ n1_ n2_; (try clear hb); (try clear hb2); (try clear hk); (try clear hi); (try clear ho0)))
    (try simp only [Act.put, List.setIfInBounds_toArray, List.set_cons_zero, List.set_cons_succ])
    go_cut [33] (fun v33 wc => ∃ (kq : Nat) (x33_7 : Bool), v33 = .bool x33_7 ∧ Aside0 (verditerlaw05_sunKings.j0 kq l0 t118 t119 x33_7 = some r) ∧ Aside0 (kq ≤ k) ∧ Aside0 (Kd.R (Kd.int .i64) 3 wc w.heap.size (fun _ => True) v120 t118) ∧ Aside0 (Below w.heap.size w wc))
    case first =>
      have H := HC8.out
      clear HC8
      replace H := Option.bind_eq_some_iff.mp H
      obtain ⟨t122, A110, H⟩ := H
      replace H : (if t122 = true then (verditerlaw05_sunKings.j0 k l0 t118 t119 (t119 != t115)) else (verditerlaw05_sunKings.j0 k l0 t118 t119 true)) = some r := H
      have A11 := Aside0.mk A110
      clear A110
      by_cases c12 : t122 = true
      · subst c12
        have H1 : (verditerlaw05_sunKings.j0 k l0 t118 t119 (t119 != t115)) = some r := by rw [if_pos rfl] at H; exact H
        clear H
        have H := H1
        clear H1
        have H' := Aside0.mk H
        clear H
        obtain ⟨Ao13, co13, eo13⟩ := Kd.R_slice HO121.out
        subst eo13
        obtain ⟨Ao14, co14, eo14⟩ := Kd.R_slice HO117.out
        subst eo14
        go_wp2_with (first | ((with_reducible refine gate_callee (f := 41) rfl ?_); refine goesL_ (some 27) rfl rfl Try.func41 (by kernel_rfl) rfl #[.slice Ao13 t118.length co13, .slice Ao14 t114.length co14] rfl (by (try simp only [List.map_toArray, List.map_cons, List.map_nil]); first | done | rfl | (simp only [List.length_drop, List.length_take]; rfl)) ?_; (with_reducible refine (verditerref01_SameInts.calls k _ _ t118 _ _ t114 true _ ?side1 ?side2 ?side3 ?side4 A11.out).mono ?_); (case side1 => repeat (first | exact (Kd.R_reads' HO121.out).2.2 | (with_reducible refine Kd.C_alloc ?_ _) | (with_reducible refine Kd.C_drewN ?_ _) | (with_reducible refine Kd.C_drew ?_))); (case side2 => exact (Kd.R_reads' HO121.out).2.1); (case side3 => repeat (first | exact (Kd.R_reads' HO117.out).2.2 | (with_reducible refine Kd.C_alloc ?_ _) | (with_reducible refine Kd.C_drewN ?_ _) | (with_reducible refine Kd.C_drew ?_))); (case side4 => exact (Kd.R_reads' HO117.out).2.1); rintro e w' ⟨rfl, ⟨nd, rfl⟩⟩; refine ⟨_, rfl, ?_⟩))
        go_meet
        case rel => exact ⟨_, ((t119 != t115)), (by first | rfl | (simp; done) | (simp [*]; done)), H', ⟨by first | omega | exact Nat.le_refl _⟩, ⟨by (with_reducible repeat (first | apply Kd.R_alloc | apply Kd.R_drewN | apply Kd.R_drew)); exact Kd.R_mono HO121.out (fun _ hk => trivial)⟩, ⟨by repeat (first | (with_reducible first | exact HB.out | apply below_alloc | apply pw_below_drewN | apply below_drew1) | exact HB.out)⟩⟩
      · replace c12 := Bool.eq_false_iff.mpr c12
        subst c12
        have H1 : (verditerlaw05_sunKings.j0 k l0 t118 t119 true) = some r := by rw [if_neg (show ¬ (false = true) by decide)] at H; exact H
        clear H
        have H := H1
        clear H1
        have H' := Aside0.mk H
        clear H
        obtain ⟨Ao15, co15, eo15⟩ := Kd.R_slice HO121.out
        subst eo15
        obtain ⟨Ao16, co16, eo16⟩ := Kd.R_slice HO117.out
        subst eo16
        go_wp2_with (first | ((with_reducible refine gate_callee (f := 41) rfl ?_); refine goesL_ (some 27) rfl rfl Try.func41 (by kernel_rfl) rfl #[.slice Ao15 t118.length co15, .slice Ao16 t114.length co16] rfl (by (try simp only [List.map_toArray, List.map_cons, List.map_nil]); first | done | rfl | (simp only [List.length_drop, List.length_take]; rfl)) ?_; (with_reducible refine (verditerref01_SameInts.calls k _ _ t118 _ _ t114 false _ ?side1 ?side2 ?side3 ?side4 A11.out).mono ?_); (case side1 => repeat (first | exact (Kd.R_reads' HO121.out).2.2 | (with_reducible refine Kd.C_alloc ?_ _) | (with_reducible refine Kd.C_drewN ?_ _) | (with_reducible refine Kd.C_drew ?_))); (case side2 => exact (Kd.R_reads' HO121.out).2.1); (case side3 => repeat (first | exact (Kd.R_reads' HO117.out).2.2 | (with_reducible refine Kd.C_alloc ?_ _) | (with_reducible refine Kd.C_drewN ?_ _) | (with_reducible refine Kd.C_drew ?_))); (case side4 => exact (Kd.R_reads' HO117.out).2.1); rintro e w' ⟨rfl, ⟨nd, rfl⟩⟩; refine ⟨_, rfl, ?_⟩))
        go_meet
        case rel => exact ⟨_, (true), (by first | rfl | (simp; done) | (simp [*]; done)), H', ⟨by first | omega | exact Nat.le_refl _⟩, ⟨by (with_reducible repeat (first | apply Kd.R_alloc | apply Kd.R_drewN | apply Kd.R_drew)); exact Kd.R_mono HO121.out (fun _ hk => trivial)⟩, ⟨by repeat (first | (with_reducible first | exact HB.out | apply below_alloc | apply pw_below_drewN | apply below_drew1) | exact HB.out)⟩⟩
    case rest =>
      clear HC8
      try clear c1
      try clear p2
      try clear c3
      try clear c4
      try clear c12
      obtain ⟨kq, x33_7, rfl, HA, HJ7, HO_5, HB⟩ := hcut
      cases kq with
      | zero => exact absurd HA.out (by simp [verditerlaw05_sunKings.j0])
      | succ kj7 =>
        have H := HA.out
        clear HA
        simp only [verditerlaw05_sunKings.j0] at H
        by_cases c17 : x33_7 = true
        · subst c17
          have H1 : (some false) = some r := by rw [if_pos rfl] at H; exact H
          clear H
          have H := H1
          clear H1
          obtain rfl := Option.some.inj H
          go_wp2
          go_ret
          exact ⟨by first | rfl | (simp [errW_none, errW_some] <;> rfl) | (simp [*, errW_none, errW_some] <;> rfl), by repeat (first | (with_reducible first | exact HB.out | apply below_alloc | apply pw_below_drewN | apply below_drew1) | exact HB.out)⟩
        · replace c17 := Bool.eq_false_iff.mpr c17
          subst c17
          have H1 : (if t119 = 0 then ((sun_Wins.f l0).bind fun bt124 => (if bt124.2 = 0 then (if (bt124.1.length : Int) = (l0.length : Int) then (if (t118.length : Int) = 2 then (verditerlaw05_sunKings.j1 kj7 l0 t118 bt124.1 true) else (verditerlaw05_sunKings.j1 kj7 l0 t118 bt124.1 ((t118.length : Int) == 0))) else (verditerlaw05_sunKings.j1 kj7 l0 t118 bt124.1 true)) else (verditerlaw05_sunKings.j1 kj7 l0 t118 bt124.1 true))) else ((verditerlaw05_known.f).bind fun t123 => (some t123))) = some r := by rw [if_neg (show ¬ (false = true) by decide)] at H; exact H
          clear H
          have H := H1
          clear H1
          by_cases c18 : t119 = 0
          · rw [if_pos c18] at H
            have c18b0 : (t119 == 0) = true := beq_iff_eq.mpr c18
            have c18b1 : (t119 != 0) = false := bne_eq_false_iff_eq.mpr c18
            clear c18
            replace H := Option.bind_eq_some_iff.mp H
            obtain ⟨⟨t124, t125⟩, A190, H⟩ := H
            replace H : (if t125 = 0 then (if (t124.length : Int) = (l0.length : Int) then (if (t118.length : Int) = 2 then (verditerlaw05_sunKings.j1 kj7 l0 t118 t124 true) else (verditerlaw05_sunKings.j1 kj7 l0 t118 t124 ((t118.length : Int) == 0))) else (verditerlaw05_sunKings.j1 kj7 l0 t118 t124 true)) else (verditerlaw05_sunKings.j1 kj7 l0 t118 t124 true)) = some r := H
            have A19 := Aside0.mk A190
            clear A190
            have HC20 := Aside0.mk H
            clear H
            go_upto_region 10 with (first | ((with_reducible refine gate_callee (f := 37) rfl ?_); refine goesL_ (some 39) rfl rfl Try.func37 (by kernel_rfl) rfl #[.slice A0 l0.length c0] rfl (by (try simp only [List.map_toArray, List.map_cons, List.map_nil]); first | done | rfl | (simp only [List.length_drop, List.length_take]; rfl)) ?_; (with_reducible refine (sun_Wins.calls _ _ l0 t124 t125 _ ?side1 ?side2 A19.out).mono ?_); (case side1 => repeat (first | exact (Kd.C_below HR0.out HB.out) | (with_reducible refine Kd.C_alloc ?_ _) | (with_reducible refine Kd.C_drewN ?_ _) | (with_reducible refine Kd.C_drew ?_))); (case side2 => exact HC0.out); rintro e w21 ⟨v126, rfl, ho0, hb⟩; refine ⟨_, rfl, ?_⟩; have n0_ := Aside0.mk (Kd.R_elder' (by (with_reducible repeat (first | apply Kd.R_alloc | apply Kd.R_drewN | apply Kd.R_drew)); exact HO_5.out) (Kd.R_base ho0) hb); have n1_ := Aside0.mk (Kd.R_lower (Kd.R_new' ho0 (Kd.R_lt (by (with_reducible repeat (first | apply Kd.R_alloc | apply Kd.R_drewN | apply Kd.R_drew)); exact HO_5.out))) (below_size (by repeat (first | (with_reducible first | exact HB.out | apply below_alloc | apply pw_below_drewN | apply below_drew1) | exact HB.out)))); have n2_ := Aside0.mk (below_step (by repeat (first | (with_reducible first | exact HB.out | apply below_alloc | apply pw_below_drewN | apply below_drew1) | exact HB.out)) hb); clear HO_5; clear HB; have HO_5 := n0_; have HO127 := n1_; have HB := n2_; clear n0_ n1_ n2_; (try clear hb); (try clear hb2); (try clear hk); (try clear hi); (try clear ho0)))
            (try simp only [Act.put, List.setIfInBounds_toArray, List.set_cons_zero, List.set_cons_succ])
            go_cut [60] (fun v60 wc => ∃ (kq : Nat) (x60_19 : Bool), v60 = .bool x60_19 ∧ Aside0 (verditerlaw05_sunKings.j1 kq l0 t118 t124 x60_19 = some r) ∧ Aside0 (kq ≤ kj7) ∧ Aside0 (Kd.R (Kd.int .i64) 3 wc w.heap.size (fun k_ => some k_ ≠ (v126 : Value).ownBlock) v120 t118) ∧ Aside0 (Kd.R (Kd.int .i64) 3 wc w.heap.size (fun k_ => some k_ ≠ (v120 : Value).ownBlock) v126 t124) ∧ Aside0 (Below w.heap.size w wc))
            case first =>
              have H := HC20.out
              clear HC20
              by_cases c22 : t125 = 0
              · rw [if_pos c22] at H
                have c22b0 : (t125 == 0) = true := beq_iff_eq.mpr c22
                have c22b1 : (t125 != 0) = false := bne_eq_false_iff_eq.mpr c22
                clear c22
                (first | rw [c22b0] | (simp only [i64_w, i32_w]; rw [c22b0]) | skip)
                by_cases c23 : (t124.length : Int) = (l0.length : Int)
                · rw [if_pos c23] at H
                  have c23b0 : ((t124.length : Int) == (l0.length : Int)) = true := beq_iff_eq.mpr c23
                  have c23b1 : ((t124.length : Int) != (l0.length : Int)) = false := bne_eq_false_iff_eq.mpr c23
                  have c23b2 : (t124.length == l0.length) = true := by first | simpa using c23 | (simp at c23 ⊢; omega)
                  clear c23
                  by_cases c24 : (t118.length : Int) = 2
                  · rw [if_pos c24] at H
                    have c24b0 : ((t118.length : Int) == 2) = true := beq_iff_eq.mpr c24
                    have c24b1 : ((t118.length : Int) != 2) = false := bne_eq_false_iff_eq.mpr c24
                    clear c24
                    have H' := Aside0.mk H
                    clear H
                    obtain ⟨Ao25, co25, eo25⟩ := Kd.R_slice HO127.out
                    subst eo25
                    obtain ⟨Ao26, co26, eo26⟩ := Kd.R_slice HO_5.out
                    subst eo26
                    go_wp2
                    go_meet
                    case rel => exact ⟨_, (true), (by first | rfl | (simp; done) | (simp [*]; done)), H', ⟨by have := HJ7.out; first | omega | exact Nat.le_refl _⟩, ⟨by (with_reducible repeat (first | apply Kd.R_alloc | apply Kd.R_drewN | apply Kd.R_drew)); exact Kd.R_mono HO_5.out (fun _ hk => hk.2)⟩, ⟨by (with_reducible repeat (first | apply Kd.R_alloc | apply Kd.R_drewN | apply Kd.R_drew)); exact Kd.R_mono HO127.out (fun _ hk => hk.2)⟩, ⟨by repeat (first | (with_reducible first | exact HB.out | apply below_alloc | apply pw_below_drewN | apply below_drew1) | exact HB.out)⟩⟩
                  · rw [if_neg c24] at H
                    have c24b0 : ((t118.length : Int) == 2) = false := beq_eq_false_iff_ne.mpr c24
                    have c24b1 : ((t118.length : Int) != 2) = true := bne_iff_ne.mpr c24
                    have H' := Aside0.mk H
                    clear H
                    obtain ⟨Ao27, co27, eo27⟩ := Kd.R_slice HO127.out
                    subst eo27
                    obtain ⟨Ao28, co28, eo28⟩ := Kd.R_slice HO_5.out
                    subst eo28
                    go_wp2
                    go_meet
                    case rel => exact ⟨_, (((t118.length : Int) == 0)), (by first | rfl | (simp; done) | (simp [*]; done)), H', ⟨by have := HJ7.out; first | omega | exact Nat.le_refl _⟩, ⟨by (with_reducible repeat (first | apply Kd.R_alloc | apply Kd.R_drewN | apply Kd.R_drew)); exact Kd.R_mono HO_5.out (fun _ hk => hk.2)⟩, ⟨by (with_reducible repeat (first | apply Kd.R_alloc | apply Kd.R_drewN | apply Kd.R_drew)); exact Kd.R_mono HO127.out (fun _ hk => hk.2)⟩, ⟨by repeat (first | (with_reducible first | exact HB.out | apply below_alloc | apply pw_below_drewN | apply below_drew1) | exact HB.out)⟩⟩
                · rw [if_neg c23] at H
                  have c23b0 : ((t124.length : Int) == (l0.length : Int)) = false := beq_eq_false_iff_ne.mpr c23
                  have c23b1 : ((t124.length : Int) != (l0.length : Int)) = true := bne_iff_ne.mpr c23
                  have c23b2 : (t124.length == l0.length) = false := by first | simpa using c23 | (simp at c23 ⊢; omega)
                  have H' := Aside0.mk H
                  clear H
                  obtain ⟨Ao29, co29, eo29⟩ := Kd.R_slice HO127.out
                  subst eo29
                  go_wp2
                  go_meet
                  case rel => exact ⟨_, (true), (by first | rfl | (simp; done) | (simp [*]; done)), H', ⟨by have := HJ7.out; first | omega | exact Nat.le_refl _⟩, ⟨by (with_reducible repeat (first | apply Kd.R_alloc | apply Kd.R_drewN | apply Kd.R_drew)); exact Kd.R_mono HO_5.out (fun _ hk => hk.2)⟩, ⟨by (with_reducible repeat (first | apply Kd.R_alloc | apply Kd.R_drewN | apply Kd.R_drew)); exact Kd.R_mono HO127.out (fun _ hk => hk.2)⟩, ⟨by repeat (first | (with_reducible first | exact HB.out | apply below_alloc | apply pw_below_drewN | apply below_drew1) | exact HB.out)⟩⟩
              · rw [if_neg c22] at H
                have c22b0 : (t125 == 0) = false := beq_eq_false_iff_ne.mpr c22
                have c22b1 : (t125 != 0) = true := bne_iff_ne.mpr c22
                (first | rw [c22b0] | (simp only [i64_w, i32_w]; rw [c22b0]) | skip)
                have H' := Aside0.mk H
                clear H
                go_wp2
                go_meet
                case rel => exact ⟨_, (true), (by first | rfl | (simp; done) | (simp [*]; done)), H', ⟨by have := HJ7.out; first | omega | exact Nat.le_refl _⟩, ⟨by (with_reducible repeat (first | apply Kd.R_alloc | apply Kd.R_drewN | apply Kd.R_drew)); exact Kd.R_mono HO_5.out (fun _ hk => hk.2)⟩, ⟨by (with_reducible repeat (first | apply Kd.R_alloc | apply Kd.R_drewN | apply Kd.R_drew)); exact Kd.R_mono HO127.out (fun _ hk => hk.2)⟩, ⟨by repeat (first | (with_reducible first | exact HB.out | apply below_alloc | apply pw_below_drewN | apply below_drew1) | exact HB.out)⟩⟩
            case rest =>
              clear HC20
              try clear c1
              try clear c2
              try clear p2
              try clear c3
              try clear c4
              try clear c12
              try clear c17
              try clear c18
              try clear c18b0
              try clear c18b1
              try clear c19
              try clear c22
              try clear c22b0
              try clear c22b1
              try clear c23
              try clear c23b0
              try clear c23b1
              try clear c23b2
              try clear c24
              try clear c24b0
              try clear c24b1
              try clear p2
              obtain ⟨kq, x60_19, rfl, HA, HJ19, HO_5, HO_7, HB⟩ := hcut
              cases kq with
              | zero => exact absurd HA.out (by simp [verditerlaw05_sunKings.j1])
              | succ kj19 =>
                have H := HA.out
                clear HA
                simp only [verditerlaw05_sunKings.j1] at H
                by_cases c30 : x60_19 = true
                · subst c30
                  have H1 : (some false) = some r := by rw [if_pos rfl] at H; exact H
                  clear H
                  have H := H1
                  clear H1
                  obtain rfl := Option.some.inj H
                  go_wp2
                  go_ret
                  exact ⟨by first | rfl | (simp [errW_none, errW_some] <;> rfl) | (simp [*, errW_none, errW_some] <;> rfl), by repeat (first | (with_reducible first | exact HB.out | apply below_alloc | apply pw_below_drewN | apply below_drew1) | exact HB.out)⟩
                · replace c30 := Bool.eq_false_iff.mpr c30
                  subst c30
                  have H1 : (verditerlaw05_sunKings.l0 kj19 l0 t118 t124 0 0) = some r := by rw [if_neg (show ¬ (false = true) by decide)] at H; exact H
                  clear H
                  have H := H1
                  clear H1
                  have H' := Aside0.mk H
                  clear H
                  go_wp2
                  go_loopg [9, 10] kj19 (fun kq v9 v10 w' => ∃ (x9_3 : Int) (x10_3 : Int), v9 = .int .i64 x9_3 ∧ v10 = .int .i64 x10_3 ∧ Aside0 (verditerlaw05_sunKings.l0 kq l0 t118 t124 x9_3 x10_3 = some r) ∧ Aside0 (kq ≤ kj19) ∧ Aside0 (Kd.R (Kd.int .i64) 3 w' w.heap.size (fun k_ => some k_ ≠ (v126 : Value).ownBlock) v120 t118) ∧ Aside0 (Kd.R (Kd.int .i64) 3 w' w.heap.size (fun k_ => some k_ ≠ (v120 : Value).ownBlock) v126 t124) ∧ Aside0 (Below w.heap.size w w'))
                  case atStart => exact ⟨(0), (0), (by first | rfl | (simp; done) | (simp [*]; done)), (by first | rfl | (simp; done) | (simp [*]; done)), H', ⟨Nat.le_refl _⟩, ⟨by (with_reducible repeat (first | apply Kd.R_alloc | apply Kd.R_drewN | apply Kd.R_drew)); exact HO_5.out⟩, ⟨by (with_reducible repeat (first | apply Kd.R_alloc | apply Kd.R_drewN | apply Kd.R_drew)); exact HO_7.out⟩, ⟨by repeat (first | (with_reducible first | exact HB.out | apply below_alloc | apply pw_below_drewN | apply below_drew1) | exact HB.out)⟩⟩
                  case round =>
                    clear H'
                    try clear c1
                    try clear c2
                    try clear p2
                    try clear c3
                    try clear c4
                    try clear c12
                    try clear c17
                    try clear c18
                    try clear c18b0
                    try clear c18b1
                    try clear c19
                    try clear c22
                    try clear c22b0
                    try clear c22b1
                    try clear c23
                    try clear c23b0
                    try clear c23b1
                    try clear c23b2
                    try clear c24
                    try clear c24b0
                    try clear c24b1
                    try clear c30
                    try clear p2
                    obtain ⟨x9_3, x10_3, rfl, rfl, HA, HK3, HO_5, HO_7, HB⟩ := hrel
                    cases gk with
                    | zero => exact absurd HA.out (by simp [verditerlaw05_sunKings.l0])
                    | succ k3 =>
                      have H := HA.out
                      clear HA
                      simp only [verditerlaw05_sunKings.l0] at H
                      by_cases c31 : x10_3 < (t124.length : Int)
                      · rw [if_pos c31] at H
                        have c31b0 : decide (x10_3 < (t124.length : Int)) = true := decide_eq_true c31
                        clear c31
                        by_cases c32 : 0 ≤ x10_3
                        · rw [if_pos c32] at H
                          have c32b0 : decide (0 ≤ x10_3) = true := decide_eq_true c32
                          clear c32
                          obtain ⟨ji33, hji33⟩ : ∃ j_ : Int, (mx x9_3 (rd t124 x10_3)) = j_ := ⟨_, rfl⟩
                          replace H : (verditerlaw05_sunKings.l0 k3 l0 t118 t124 ji33 (wrap64 (x10_3 + 1))) = some r := by first | (rw [hji33] at H; exact H) | (simp only [hji33] at H ⊢; exact H)
                          have hji33_ : (if x9_3 < (rd t124 x10_3) then (rd t124 x10_3) else x9_3) = ji33 := hji33
                          have H' := Aside0.mk H
                          clear H
                          obtain ⟨Ao34, co34, eo34⟩ := Kd.R_slice HO_7.out
                          subst eo34
                          have p128 : 0 ≤ (x10_3 : Int) := of_decide_eq_true (by first | (with_reducible assumption) | assumption)
                          have q128 : x10_3 < (t124.length : Int) := of_decide_eq_true (by first | (with_reducible assumption) | assumption)
                          obtain ⟨ad128, e128, hx128_0⟩ := Kd.at_int (Kd.R_reads' HO_7.out).2.2 x10_3 p128 q128
                          cases e128
                          replace p128 := eq_true p128
                          replace q128 := eq_true q128
                          go_wp2
                          go_roundg k3
                          case measure => have := HJ7.out; have := HJ19.out; have := HK3.out; omega
                          case rel => exact ⟨(ji33), (wrap64 (x10_3 + 1)), (by first | rfl | (simp; done) | (simp only [← hji33] <;> (first | rfl | simp)) | (simp [*]; done)), (by first | rfl | (simp; done) | (simp [*]; done)), H', ⟨by have := HJ7.out; have := HJ19.out; have := HK3.out; omega⟩, ⟨by (with_reducible repeat (first | apply Kd.R_alloc | apply Kd.R_drewN | apply Kd.R_drew)); exact HO_5.out⟩, ⟨by (with_reducible repeat (first | apply Kd.R_alloc | apply Kd.R_drewN | apply Kd.R_drew)); exact HO_7.out⟩, ⟨by repeat (first | (with_reducible first | exact HB.out | apply below_alloc | apply pw_below_drewN | apply below_drew1) | exact HB.out)⟩⟩
                        · rw [if_neg c32] at H
                          exact absurd H (by simp)
                      · rw [if_neg c31] at H
                        have c31b0 : decide (x10_3 < (t124.length : Int)) = false := decide_eq_false c31
                        clear c31
                        have H' := Aside0.mk H
                        clear H
                        obtain ⟨Ao35, co35, eo35⟩ := Kd.R_slice HO_7.out
                        subst eo35
                        go_wp2
                        go_loopg [11] k3 (fun kq v11 w' => ∃ (x11_4 : Int), v11 = .int .i64 x11_4 ∧ Aside0 (verditerlaw05_sunKings.l1 kq l0 t118 t124 x9_3 x11_4 = some r) ∧ Aside0 (kq ≤ k3) ∧ Aside0 (Kd.R (Kd.int .i64) 3 w' w.heap.size (fun k_ => some k_ ≠ ((.slice Ao35 t124.length co35) : Value).ownBlock) v120 t118) ∧ Aside0 (Kd.R (Kd.int .i64) 3 w' w.heap.size (fun k_ => some k_ ≠ (v120 : Value).ownBlock) (.slice Ao35 t124.length co35) t124) ∧ Aside0 (Below w.heap.size w w'))
                        case atStart => exact ⟨(0), (by first | rfl | (simp; done) | (simp [*]; done)), H', ⟨Nat.le_refl _⟩, ⟨by (with_reducible repeat (first | apply Kd.R_alloc | apply Kd.R_drewN | apply Kd.R_drew)); exact HO_5.out⟩, ⟨by (with_reducible repeat (first | apply Kd.R_alloc | apply Kd.R_drewN | apply Kd.R_drew)); exact HO_7.out⟩, ⟨by repeat (first | (with_reducible first | exact HB.out | apply below_alloc | apply pw_below_drewN | apply below_drew1) | exact HB.out)⟩⟩
                        case round =>
                          clear H'
                          try clear c1
                          try clear p1
                          try clear q1
                          try clear hx1
                          try clear c2
                          try clear p2
                          try clear c3
                          try clear c4
                          try clear p6
                          try clear c12
                          try clear p12
                          try clear q12
                          try clear hx12
                          try clear c17
                          try clear c18
                          try clear c18b0
                          try clear c18b1
                          try clear c19
                          try clear c22
                          try clear c22b0
                          try clear c22b1
                          try clear c23
                          try clear c23b0
                          try clear c23b1
                          try clear c23b2
                          try clear c24
                          try clear c24b0
                          try clear c24b1
                          try clear c30
                          try clear c31
                          try clear c31b0
                          try clear c32
                          try clear c32b0
                          try clear c33
                          try clear c34
                          try clear hx128_0
                          try clear p128
                          try clear p2
                          try clear q128
                          obtain ⟨x11_4, rfl, HA, HK4, HO_5, HO_7, HB⟩ := hrel
                          cases gk with
                          | zero => exact absurd HA.out (by simp [verditerlaw05_sunKings.l1])
                          | succ k4 =>
                            have H := HA.out
                            clear HA
                            simp only [verditerlaw05_sunKings.l1] at H
                            by_cases c36 : x11_4 < (t124.length : Int)
                            · rw [if_pos c36] at H
                              have c36b0 : decide (x11_4 < (t124.length : Int)) = true := decide_eq_true c36
                              clear c36
                              by_cases c37 : 0 ≤ x11_4
                              · rw [if_pos c37] at H
                                have c37b0 : decide (0 ≤ x11_4) = true := decide_eq_true c37
                                clear c37
                                by_cases c38 : (rd t124 x11_4) = x9_3
                                · rw [if_pos c38] at H
                                  have c38b0 : ((rd t124 x11_4) == x9_3) = true := beq_iff_eq.mpr c38
                                  have c38b1 : ((rd t124 x11_4) != x9_3) = false := bne_eq_false_iff_eq.mpr c38
                                  clear c38
                                  replace H := Option.bind_eq_some_iff.mp H
                                  obtain ⟨t130, A390, H⟩ := H
                                  replace H : (if t130 = true then (verditerlaw05_sunKings.l1 k4 l0 t118 t124 x9_3 (wrap64 (x11_4 + 1))) else (some false)) = some r := H
                                  have A39 := Aside0.mk A390
                                  clear A390
                                  by_cases c40 : t130 = true
                                  · subst c40
                                    have H1 : (verditerlaw05_sunKings.l1 k4 l0 t118 t124 x9_3 (wrap64 (x11_4 + 1))) = some r := by rw [if_pos rfl] at H; exact H
                                    clear H
                                    have H := H1
                                    clear H1
                                    have H' := Aside0.mk H
                                    clear H
                                    have p129 : 0 ≤ (x11_4 : Int) := of_decide_eq_true (by first | (with_reducible assumption) | assumption)
                                    have q129 : x11_4 < (t124.length : Int) := of_decide_eq_true (by first | (with_reducible assumption) | assumption)
                                    obtain ⟨ad129, e129, hx129_0⟩ := Kd.at_int (Kd.R_reads' HO_7.out).2.2 x11_4 p129 q129
                                    cases e129
                                    replace p129 := eq_true p129
                                    replace q129 := eq_true q129
                                    obtain ⟨Ao41, co41, eo41⟩ := Kd.R_slice HO_5.out
                                    subst eo41
                                    go_wp2_with (first | (go_at_call 44; (with_reducible refine (verditerref01_Has.calls k4 _ _ t118 x11_4 true _ ?side1 ?side2 A39.out).mono ?_); (case side1 => repeat (first | exact (Kd.R_reads' HO_5.out).2.2 | (with_reducible refine Kd.C_alloc ?_ _) | (with_reducible refine Kd.C_drewN ?_ _) | (with_reducible refine Kd.C_drew ?_))); (case side2 => exact (Kd.R_reads' HO_5.out).2.1); rintro e w' ⟨rfl, ⟨nd, rfl⟩⟩))
                                    go_roundg k4
                                    case measure => have := HJ7.out; have := HJ19.out; have := HK3.out; have := HK4.out; omega
                                    case rel => exact ⟨(wrap64 (x11_4 + 1)), (by first | rfl | (simp; done) | (simp [*]; done)), H', ⟨by have := HJ7.out; have := HJ19.out; have := HK3.out; have := HK4.out; omega⟩, ⟨by (with_reducible repeat (first | apply Kd.R_alloc | apply Kd.R_drewN | apply Kd.R_drew)); exact HO_5.out⟩, ⟨by (with_reducible repeat (first | apply Kd.R_alloc | apply Kd.R_drewN | apply Kd.R_drew)); exact HO_7.out⟩, ⟨by repeat (first | (with_reducible first | exact HB.out | apply below_alloc | apply pw_below_drewN | apply below_drew1) | exact HB.out)⟩⟩
                                  · replace c40 := Bool.eq_false_iff.mpr c40
                                    subst c40
                                    have H1 : (some false) = some r := by rw [if_neg (show ¬ (false = true) by decide)] at H; exact H
                                    clear H
                                    have H := H1
                                    clear H1
                                    obtain rfl := Option.some.inj H
                                    have p129 : 0 ≤ (x11_4 : Int) := of_decide_eq_true (by first | (with_reducible assumption) | assumption)
                                    have q129 : x11_4 < (t124.length : Int) := of_decide_eq_true (by first | (with_reducible assumption) | assumption)
                                    obtain ⟨ad129, e129, hx129_0⟩ := Kd.at_int (Kd.R_reads' HO_7.out).2.2 x11_4 p129 q129
                                    cases e129
                                    replace p129 := eq_true p129
                                    replace q129 := eq_true q129
                                    obtain ⟨Ao42, co42, eo42⟩ := Kd.R_slice HO_5.out
                                    subst eo42
                                    go_wp2_with (first | (go_at_call 44; (with_reducible refine (verditerref01_Has.calls k4 _ _ t118 x11_4 false _ ?side1 ?side2 A39.out).mono ?_); (case side1 => repeat (first | exact (Kd.R_reads' HO_5.out).2.2 | (with_reducible refine Kd.C_alloc ?_ _) | (with_reducible refine Kd.C_drewN ?_ _) | (with_reducible refine Kd.C_drew ?_))); (case side2 => exact (Kd.R_reads' HO_5.out).2.1); rintro e w' ⟨rfl, ⟨nd, rfl⟩⟩))
                                    go_ret
                                    exact ⟨by first | rfl | (simp [errW_none, errW_some] <;> rfl) | (simp [*, errW_none, errW_some] <;> rfl), by repeat (first | (with_reducible first | exact HB.out | apply below_alloc | apply pw_below_drewN | apply below_drew1) | exact HB.out)⟩
                                · rw [if_neg c38] at H
                                  have c38b0 : ((rd t124 x11_4) == x9_3) = false := beq_eq_false_iff_ne.mpr c38
                                  have c38b1 : ((rd t124 x11_4) != x9_3) = true := bne_iff_ne.mpr c38
                                  have H' := Aside0.mk H
                                  clear H
                                  have p129 : 0 ≤ (x11_4 : Int) := of_decide_eq_true (by first | (with_reducible assumption) | assumption)
                                  have q129 : x11_4 < (t124.length : Int) := of_decide_eq_true (by first | (with_reducible assumption) | assumption)
                                  obtain ⟨ad129, e129, hx129_0⟩ := Kd.at_int (Kd.R_reads' HO_7.out).2.2 x11_4 p129 q129
                                  cases e129
                                  replace p129 := eq_true p129
                                  replace q129 := eq_true q129
                                  go_wp2
                                  go_roundg k4
                                  case measure => have := HJ7.out; have := HJ19.out; have := HK3.out; have := HK4.out; omega
                                  case rel => exact ⟨(wrap64 (x11_4 + 1)), (by first | rfl | (simp; done) | (simp [*]; done)), H', ⟨by have := HJ7.out; have := HJ19.out; have := HK3.out; have := HK4.out; omega⟩, ⟨by (with_reducible repeat (first | apply Kd.R_alloc | apply Kd.R_drewN | apply Kd.R_drew)); exact HO_5.out⟩, ⟨by (with_reducible repeat (first | apply Kd.R_alloc | apply Kd.R_drewN | apply Kd.R_drew)); exact HO_7.out⟩, ⟨by repeat (first | (with_reducible first | exact HB.out | apply below_alloc | apply pw_below_drewN | apply below_drew1) | exact HB.out)⟩⟩
                              · rw [if_neg c37] at H
                                exact absurd H (by simp)
                            · rw [if_neg c36] at H
                              have c36b0 : decide (x11_4 < (t124.length : Int)) = false := decide_eq_false c36
                              clear c36
                              by_cases c43 : (((t118.length : Int) == 1) == (x9_3 == (wrap64 ((l0.length : Int) - 1)))) = true
                              · rw [if_pos c43] at H
                                have c43b0 : (((t118.length : Int) == 1) == (x9_3 == (wrap64 ((l0.length : Int) - 1)))) = true := c43
                                (try (have c43b1 : decide (((t118.length : Int) == 1) = (x9_3 == (wrap64 ((l0.length : Int) - 1)))) = true := by simpa using c43))
                                (try (have c43b2 : (((t118.length : Int) == 1) == (x9_3 == (wrap64 ((l0.length : Int) - 1)))) = true := by simpa using c43))
                                clear c43
                                replace H := Option.bind_eq_some_iff.mp H
                                obtain ⟨t131, A440, H⟩ := H
                                replace H : (some t131) = some r := H
                                have A44 := Aside0.mk A440
                                clear A440
                                obtain rfl := Option.some.inj H
                                obtain ⟨Ao45, co45, eo45⟩ := Kd.R_slice HO_5.out
                                subst eo45
                                go_wp2_with (first | (go_at_call 34; (with_reducible refine (verditerlaw05_known.calls  t131 _ A44.out).mono ?_); rintro e w46 ⟨rfl, hb⟩; have n0_ := Aside0.mk (Kd.R_below (by (with_reducible repeat (first | apply Kd.R_alloc | apply Kd.R_drewN | apply Kd.R_drew)); exact HO_5.out) hb); have n1_ := Aside0.mk (Kd.R_below (by (with_reducible repeat (first | apply Kd.R_alloc | apply Kd.R_drewN | apply Kd.R_drew)); exact HO_7.out) hb); have n2_ := Aside0.mk (below_step (by repeat (first | (with_reducible first | exact HB.out | apply below_alloc | apply pw_below_drewN | apply below_drew1) | exact HB.out)) hb); clear HO_5; clear HO_7; clear HB; have HO_5 := n0_; have HO_7 := n1_; have HB := n2_; clear n0_ n1_ n2_; (try clear hb); (try clear hb2); (try clear hk); (try clear hi)))
                                go_ret
                                exact ⟨by first | rfl | (simp [errW_none, errW_some] <;> rfl) | (simp [*, errW_none, errW_some] <;> rfl), by repeat (first | (with_reducible first | exact HB.out | apply below_alloc | apply pw_below_drewN | apply below_drew1) | exact HB.out)⟩
                              · rw [if_neg c43] at H
                                have c43b0 : (((t118.length : Int) == 1) == (x9_3 == (wrap64 ((l0.length : Int) - 1)))) = false := by simpa using c43
                                (try (have c43b1 : decide (((t118.length : Int) == 1) = (x9_3 == (wrap64 ((l0.length : Int) - 1)))) = false := by simpa using c43))
                                (try (have c43b2 : (((t118.length : Int) == 1) == (x9_3 == (wrap64 ((l0.length : Int) - 1)))) = false := by simpa using c43))
                                (try (have c43b3 : ¬ (((t118.length : Int) == 1) = (x9_3 == (wrap64 ((l0.length : Int) - 1)))) := by simpa using c43))
                                clear c43
                                obtain rfl := Option.some.inj H
                                obtain ⟨Ao47, co47, eo47⟩ := Kd.R_slice HO_5.out
                                subst eo47
                                go_wp2
                                go_ret
                                exact ⟨by first | rfl | (simp [errW_none, errW_some] <;> rfl) | (simp [*, errW_none, errW_some] <;> rfl), by repeat (first | (with_reducible first | exact HB.out | apply below_alloc | apply pw_below_drewN | apply below_drew1) | exact HB.out)⟩
          · rw [if_neg c18] at H
            have c18b0 : (t119 == 0) = false := beq_eq_false_iff_ne.mpr c18
            have c18b1 : (t119 != 0) = true := bne_iff_ne.mpr c18
            replace H := Option.bind_eq_some_iff.mp H
            obtain ⟨t123, A480, H⟩ := H
            replace H : (some t123) = some r := H
            have A48 := Aside0.mk A480
            clear A480
            obtain rfl := Option.some.inj H
            go_wp2_with (first | ((with_reducible refine gate_callee (f := 34) rfl ?_); refine goesL_ (some 36) rfl rfl Try.func34 (by kernel_rfl) rfl #[] rfl (by (try simp only [List.map_toArray, List.map_cons, List.map_nil]); first | done | rfl | (simp only [List.length_drop, List.length_take]; rfl)) ?_; (with_reducible refine (verditerlaw05_known.calls  t123 _ A48.out).mono ?_); rintro e w49 ⟨rfl, hb⟩; refine ⟨_, rfl, ?_⟩; have n0_ := Aside0.mk (Kd.R_below (by (with_reducible repeat (first | apply Kd.R_alloc | apply Kd.R_drewN | apply Kd.R_drew)); exact HO_5.out) hb); have n1_ := Aside0.mk (below_step (by repeat (first | (with_reducible first | exact HB.out | apply below_alloc | apply pw_below_drewN | apply below_drew1) | exact HB.out)) hb); clear HO_5; clear HB; have HO_5 := n0_; have HB := n1_; clear n0_ n1_; (try clear hb); (try clear hb2); (try clear hk); (try clear hi)))
            go_ret
            exact ⟨by first | rfl | (simp [errW_none, errW_some] <;> rfl) | (simp [*, errW_none, errW_some] <;> rfl), by repeat (first | (with_reducible first | exact HB.out | apply below_alloc | apply pw_below_drewN | apply below_drew1) | exact HB.out)⟩

end Go.Proofs.Ytbnjffhcpkfnhaa.QK
