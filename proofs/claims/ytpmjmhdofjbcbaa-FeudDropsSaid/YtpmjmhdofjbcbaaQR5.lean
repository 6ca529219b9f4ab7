/- Written by a program of this seat over the kit's print: each function's Lean form, and that the machine's call comes to it. -/
import Derived.Test.YtpmjmhdofjbcbaaQR0
import Derived.Test.YtpmjmhdofjbcbaaQR2
import Derived.Test.YtpmjmhdofjbcbaaQR3
import Derived.Test.YtpmjmhdofjbcbaaQR4
namespace Go.Proofs.Ytpmjmhdofjbcbaa.QR
open Go.RowKit Go.Proofs.YtpmjmhdofjbcbaaW.PrintWords Go.Proofs.YtpmjmhdofjbcbaaW.PrintLast Go.Proofs.YtpmjmhdofjbcbaaW.PrintMore Go.Proofs.Ytpmjmhdofjbcbaa.QA Go.Proofs.Ytpmjmhdofjbcbaa.QE Go.Proofs.Ytpmjmhdofjbcbaa.H Go.Proofs.Ytpmjmhdofjbcbaa.QK
attribute [local go_sem] max2_int min2_int max_two min_two max_three min_three max_four min_four   -- for this text's walks alone
set_option linter.unusedVariables false
set_option linter.unusedSimpArgs false

/-! ### verditerlaw03_feudDrops: function 21 -/
mutual
def verditerlaw03_feudDrops.j0 : Nat → Bool → Int → List (S43) → Int → List (S43) → Int → List (S43) → Option (Bool)
  | 0, _, _, _, _, _, _, _ => none
  | k + 1, x63, x153000, x153001, x160000, x160001, x178000, x178001 => if x63 = true then (some false) else (verditerlaw03_feudDrops.l0 k 0 x153000 x153001 x160000 x160001 x178000 x178001)
def verditerlaw03_feudDrops.l0 : Nat → Int → Int → List (S43) → Int → List (S43) → Int → List (S43) → Option (Bool)
  | 0, _, _, _, _, _, _, _ => none
  | k + 1, x14, x153000, x153001, x160000, x160001, x178000, x178001 => if x14 < (x178001.length : Int) then (if 0 ≤ x14 then (verditerlaw03_feudDrops.l0 k (wrap64 (x14 + 1)) x153000 x153001 x160000 x160001 x178000 (x178001.set (x14 : Int).toNat (⟨(-1), (rd_T43 x178001 x14).f1⟩ : S43))) else (none)) else ((verditerref03_Same.f k x160000 x160001 x153000 x153001).bind fun t187 => (if t187 = true then ((verditerlaw03_known.f k).bind fun t188 => (some t188)) else (some false)))
end
def verditerlaw03_feudDrops.f (k : Nat) (a0_0 : Int) (l0_1 : List (S43)) (a1 : Int) : Option (Bool) := (verditerlaw03_Long.f a0_0 l0_1).bind fun t153 => (if t153 = true then ((verditerlaw03_known.f k).bind fun t154 => (some t154)) else ((verditerref03_Copy.f a0_0 l0_1).bind fun bt155 => ((verditerref03_Drop.f k a0_0 l0_1 a1).bind fun bt160 => ((verditerref03_Merge.f k a0_0 l0_1 a1).bind fun bt166 => ((feud_Drop.f bt155.1 bt155.2 a1).bind fun bt172 => ((feud_Merge.f bt155.1 bt155.2 a1).bind fun bt178 => ((verditerref03_Same.f k bt172.1 bt172.2.1 bt160.1 bt160.2.1).bind fun t184 => (if t184 = true then (if bt172.2.2 = bt160.2.2 then ((verditerref03_Same.f k bt178.1 bt178.2.1 bt166.1 bt166.2.1).bind fun t185 => (if t185 = true then (verditerlaw03_feudDrops.j0 k (bt178.2.2 != bt166.2.2) a0_0 l0_1 bt155.1 bt155.2 bt172.1 bt172.2.1) else (verditerlaw03_feudDrops.j0 k true a0_0 l0_1 bt155.1 bt155.2 bt172.1 bt172.2.1))) else (verditerlaw03_feudDrops.j0 k true a0_0 l0_1 bt155.1 bt155.2 bt172.1 bt172.2.1)) else (verditerlaw03_feudDrops.j0 k true a0_0 l0_1 bt155.1 bt155.2 bt172.1 bt172.2.1)))))))))
theorem verditerlaw03_feudDrops.mono_l : ∀ k, (∀ y0 y1 y2 y3 y4 y5 y6, LeO (verditerlaw03_feudDrops.j0 k y0 y1 y2 y3 y4 y5 y6) (verditerlaw03_feudDrops.j0 (k + 1) y0 y1 y2 y3 y4 y5 y6)) ∧ (∀ y0 y1 y2 y3 y4 y5 y6, LeO (verditerlaw03_feudDrops.l0 k y0 y1 y2 y3 y4 y5 y6) (verditerlaw03_feudDrops.l0 (k + 1) y0 y1 y2 y3 y4 y5 y6))
  | 0 => ⟨fun _ _ _ _ _ _ _ r h => by simp [verditerlaw03_feudDrops.j0] at h, fun _ _ _ _ _ _ _ r h => by simp [verditerlaw03_feudDrops.l0] at h⟩
  | k + 1 => by
    obtain ⟨ih0, ih1⟩ := verditerlaw03_feudDrops.mono_l k
    refine ⟨?_, ?_⟩
    · intro y0 y1 y2 y3 y4 y5 y6
      unfold verditerlaw03_feudDrops.j0
      repeat' first
      | (with_reducible exact ih0 _ _ _ _ _ _ _)
      | (with_reducible exact ih1 _ _ _ _ _ _ _)
      | (with_reducible exact verditerlaw03_known.mono _)
      | (with_reducible exact verditerref03_Drop.mono _ _ _ _)
      | (with_reducible exact verditerref03_Merge.mono _ _ _ _)
      | (with_reducible exact verditerref03_Same.mono _ _ _ _ _)
      | (with_reducible exact LeO.refl _)
      | (with_reducible exact LeO.none _)
      | (with_reducible refine LeO.ite ?_ ?_)
      | (with_reducible refine LeO.bind ?_ (fun _ => ?_))
      | exact ih0 _ _ _ _ _ _ _
      | exact ih1 _ _ _ _ _ _ _
      | exact verditerlaw03_known.mono _
      | exact verditerref03_Drop.mono _ _ _ _
      | exact verditerref03_Merge.mono _ _ _ _
      | exact verditerref03_Same.mono _ _ _ _ _
      | exact LeO.none _
      | refine LeO.ite ?_ ?_
      | refine LeO.bind ?_ (fun _ => ?_)
    · intro y0 y1 y2 y3 y4 y5 y6
      unfold verditerlaw03_feudDrops.l0
      repeat' first
      | (with_reducible exact ih0 _ _ _ _ _ _ _)
      | (with_reducible exact ih1 _ _ _ _ _ _ _)
      | (with_reducible exact verditerlaw03_known.mono _)
      | (with_reducible exact verditerref03_Drop.mono _ _ _ _)
      | (with_reducible exact verditerref03_Merge.mono _ _ _ _)
      | (with_reducible exact verditerref03_Same.mono _ _ _ _ _)
      | (with_reducible exact LeO.refl _)
      | (with_reducible exact LeO.none _)
      | (with_reducible refine LeO.ite ?_ ?_)
      | (with_reducible refine LeO.bind ?_ (fun _ => ?_))
      | exact ih0 _ _ _ _ _ _ _
      | exact ih1 _ _ _ _ _ _ _
      | exact verditerlaw03_known.mono _
      | exact verditerref03_Drop.mono _ _ _ _
      | exact verditerref03_Merge.mono _ _ _ _
      | exact verditerref03_Same.mono _ _ _ _ _
      | exact LeO.none _
      | refine LeO.ite ?_ ?_
      | refine LeO.bind ?_ (fun _ => ?_)
theorem verditerlaw03_feudDrops.mono : ∀ a0 a1 a2 k, LeO (verditerlaw03_feudDrops.f k a0 a1 a2) (verditerlaw03_feudDrops.f (k + 1) a0 a1 a2) := by
  intro a0 a1 a2 k
  obtain ⟨ih0, ih1⟩ := verditerlaw03_feudDrops.mono_l k
  unfold verditerlaw03_feudDrops.f
  repeat' first
      | (with_reducible exact ih0 _ _ _ _ _ _ _)
      | (with_reducible exact ih1 _ _ _ _ _ _ _)
      | (with_reducible exact verditerlaw03_known.mono _)
      | (with_reducible exact verditerref03_Drop.mono _ _ _ _)
      | (with_reducible exact verditerref03_Merge.mono _ _ _ _)
      | (with_reducible exact verditerref03_Same.mono _ _ _ _ _)
      | (with_reducible exact LeO.refl _)
      | (with_reducible exact LeO.none _)
      | (with_reducible refine LeO.ite ?_ ?_)
      | (with_reducible refine LeO.bind ?_ (fun _ => ?_))
      | exact ih0 _ _ _ _ _ _ _
      | exact ih1 _ _ _ _ _ _ _
      | exact verditerlaw03_known.mono _
      | exact verditerref03_Drop.mono _ _ _ _
      | exact verditerref03_Merge.mono _ _ _ _
      | exact verditerref03_Same.mono _ _ _ _ _
      | exact LeO.none _
      | refine LeO.ite ?_ ?_
      | refine LeO.bind ?_ (fun _ => ?_)
set_option maxHeartbeats 8000000 in
set_option maxRecDepth 100000 in
theorem verditerlaw03_feudDrops.calls (k : Nat) (a0_0 : Int) (A0_1 : Option Addr) (c0_1 : Nat) (l0_1 : List (S43)) (a1 : Int) (r : Bool) (w : World) (hr0_1 : Kd.C k43 w A0_1 l0_1.length l0_1) (hc0_1 : l0_1.length ≤ c0_1) (h : verditerlaw03_feudDrops.f k a0_0 l0_1 a1 = some r) :
    Calls Try.prog 21 #[.agg #[.int .i64 a0_0, .slice A0_1 l0_1.length c0_1], .int .i64 a1] w fun e w' => e = .returned (.bool r) ∧ Below w.heap.size w w' := by
  have hu24 := Try.underlying24
  have HR0_1 := Aside0.mk hr0_1
  have HC0_1 := Aside0.mk hc0_1
  clear hr0_1 hc0_1
  have HB := Aside0.mk (Below.refl w.heap.size w)
  have H : ((verditerlaw03_Long.f a0_0 l0_1).bind fun t153 => (if t153 = true then ((verditerlaw03_known.f k).bind fun t154 => (some t154)) else ((verditerref03_Copy.f a0_0 l0_1).bind fun bt155 => ((verditerref03_Drop.f k a0_0 l0_1 a1).bind fun bt160 => ((verditerref03_Merge.f k a0_0 l0_1 a1).bind fun bt166 => ((feud_Drop.f bt155.1 bt155.2 a1).bind fun bt172 => ((feud_Merge.f bt155.1 bt155.2 a1).bind fun bt178 => ((verditerref03_Same.f k bt172.1 bt172.2.1 bt160.1 bt160.2.1).bind fun t184 => (if t184 = true then (if bt172.2.2 = bt160.2.2 then ((verditerref03_Same.f k bt178.1 bt178.2.1 bt166.1 bt166.2.1).bind fun t185 => (if t185 = true then (verditerlaw03_feudDrops.j0 k (bt178.2.2 != bt166.2.2) a0_0 l0_1 bt155.1 bt155.2 bt172.1 bt172.2.1) else (verditerlaw03_feudDrops.j0 k true a0_0 l0_1 bt155.1 bt155.2 bt172.1 bt172.2.1))) else (verditerlaw03_feudDrops.j0 k true a0_0 l0_1 bt155.1 bt155.2 bt172.1 bt172.2.1)) else (verditerlaw03_feudDrops.j0 k true a0_0 l0_1 bt155.1 bt155.2 bt172.1 bt172.2.1)))))))))) = some r := h
  clear h
  replace H := Option.bind_eq_some_iff.mp H
  obtain ⟨t153, A30, H⟩ := H
  replace H : (if t153 = true then ((verditerlaw03_known.f k).bind fun t154 => (some t154)) else ((verditerref03_Copy.f a0_0 l0_1).bind fun bt155 => ((verditerref03_Drop.f k a0_0 l0_1 a1).bind fun bt160 => ((verditerref03_Merge.f k a0_0 l0_1 a1).bind fun bt166 => ((feud_Drop.f bt155.1 bt155.2 a1).bind fun bt172 => ((feud_Merge.f bt155.1 bt155.2 a1).bind fun bt178 => ((verditerref03_Same.f k bt172.1 bt172.2.1 bt160.1 bt160.2.1).bind fun t184 => (if t184 = true then (if bt172.2.2 = bt160.2.2 then ((verditerref03_Same.f k bt178.1 bt178.2.1 bt166.1 bt166.2.1).bind fun t185 => (if t185 = true then (verditerlaw03_feudDrops.j0 k (bt178.2.2 != bt166.2.2) a0_0 l0_1 bt155.1 bt155.2 bt172.1 bt172.2.1) else (verditerlaw03_feudDrops.j0 k true a0_0 l0_1 bt155.1 bt155.2 bt172.1 bt172.2.1))) else (verditerlaw03_feudDrops.j0 k true a0_0 l0_1 bt155.1 bt155.2 bt172.1 bt172.2.1)) else (verditerlaw03_feudDrops.j0 k true a0_0 l0_1 bt155.1 bt155.2 bt172.1 bt172.2.1))))))))) = some r := H
  have A3 := Aside0.mk A30
  clear A30
  by_cases c4 : t153 = true
  · subst c4
    have H1 : ((verditerlaw03_known.f k).bind fun t154 => (some t154)) = some r := by rw [if_pos rfl] at H; exact H
    clear H
    have H := H1
    clear H1
    replace H := Option.bind_eq_some_iff.mp H
    obtain ⟨t154, A50, H⟩ := H
    replace H : (some t154) = some r := H
    have A5 := Aside0.mk A50
    clear A50
    obtain rfl := Option.some.inj H
    go_enter Try.func21, Try.ntmps21
    go_wp2_with (first | ((with_reducible refine gate_dst (N := 2) rfl ?_); refine box_event ?hg (N := 2) ?hd (cs := #[.int .i64 a0_0, .slice A0_1 l0_1.length c0_1]) (t := 24) ?hr ?_; (case hd => rfl); (case hg => rfl); (case hr => first | (go_simp; done) | (go_simp; rfl)); intro gb152 hg w6 hbox hb; have n0_ := Aside0.mk (below_step (by repeat (first | (with_reducible first | exact HB.out | apply below_alloc | apply pw_below_drewN | apply below_drew1) | exact HB.out)) hb); have n1_ := Aside0.mk (hbox); have n2_ := Aside0.mk ((by rw [hg]; exact (below_size (by repeat (first | (with_reducible first | exact HB.out | apply below_alloc | apply pw_below_drewN | apply below_drew1) | exact HB.out))) : w.heap.size ≤ gb152)); have n3_ := Aside0.mk ((by rw [hg]; exact (below_size (by repeat (first | (with_reducible first | exact HB.out | apply below_alloc | apply pw_below_drewN | apply below_drew1) | exact HB.out))) : w.heap.size ≤ gb152)); clear HB; have HB := n0_; have BK152 := n1_; have GW152 := n2_; have GE152 := n3_; clear n0_ n1_ n2_ n3_; clear hb hbox hg; have hcz7_0 : w6.cell? ⟨gb152, 0, none⟩ = some (.int .i64 a0_0) := (blk_cell BK152.out 0).trans rfl; have hcz7_1 : w6.cell? ⟨gb152, 1, none⟩ = some (.slice A0_1 l0_1.length c0_1) := (blk_cell BK152.out 1).trans rfl; have hfz7_0 := blk_frozen BK152.out 0; have hfz7_1 := blk_frozen BK152.out 1) | ((with_reducible refine gate_callee (f := 35) rfl ?_); refine goesL_ (some 16) rfl rfl Try.func35 (by kernel_rfl) rfl #[.agg #[.int .i64 a0_0, .slice A0_1 l0_1.length c0_1]] rfl (by (try simp only [List.map_toArray, List.map_cons, List.map_nil]); first | done | rfl | (simp only [List.length_drop, List.length_take]; rfl)) ?_; (with_reducible refine (verditerlaw03_Long.calls a0_0 _ _ l0_1 true _ ?side1 ?side2 A3.out).mono ?_); (case side1 => repeat (first | exact (Kd.C_below HR0_1.out HB.out) | (with_reducible refine Kd.C_alloc ?_ _) | (with_reducible refine Kd.C_drewN ?_ _) | (with_reducible refine Kd.C_drew ?_))); (case side2 => exact HC0_1.out); rintro e w8 ⟨rfl, hb⟩; refine ⟨_, rfl, ?_⟩; have n0_ := Aside0.mk (blk_below (g := gb152) (o := .cells #[.int .i64 a0_0, .slice A0_1 l0_1.length c0_1] 24 (0, 0)) (by (with_reducible repeat (first | refine blk_drewN ?_ _ | refine blk_drew ?_ | refine blk_alloc ?_ _)); exact BK152.out) hb); have n1_ := Aside0.mk (below_step (by repeat (first | (with_reducible first | exact HB.out | apply below_alloc | apply pw_below_drewN | apply below_drew1 | refine below_set ?_ GE152.out) | exact HB.out)) hb); clear BK152; clear HB; have BK152 := n0_; have HB := n1_; clear n0_ n1_; (try clear hb); (try clear hb2); (try clear hk); (try clear hi)) | ((with_reducible refine gate_callee (f := 36) rfl ?_); refine goesL_ (some 17) rfl rfl Try.func36 (by kernel_rfl) rfl #[] rfl (by (try simp only [List.map_toArray, List.map_cons, List.map_nil]); first | done | rfl | (simp only [List.length_drop, List.length_take]; rfl)) ?_; (with_reducible refine (verditerlaw03_known.calls k  t154 _ A5.out).mono ?_); rintro e w9 ⟨rfl, hb⟩; refine ⟨_, rfl, ?_⟩; have n0_ := Aside0.mk (blk_below (g := gb152) (o := .cells #[.int .i64 a0_0, .slice A0_1 l0_1.length c0_1] 24 (0, 0)) (by (with_reducible repeat (first | refine blk_drewN ?_ _ | refine blk_drew ?_ | refine blk_alloc ?_ _)); exact BK152.out) hb); have n1_ := Aside0.mk (below_step (by repeat (first | (with_reducible first | exact HB.out | apply below_alloc | apply pw_below_drewN | apply below_drew1 | refine below_set ?_ GE152.out) | exact HB.out)) hb); clear BK152; clear HB; have BK152 := n0_; have HB := n1_; clear n0_ n1_; (try clear hb); (try clear hb2); (try clear hk); (try clear hi)))
    go_ret
    exact ⟨by first | rfl | (simp [errW_none, errW_some] <;> rfl) | (simp [*, errW_none, errW_some] <;> rfl), by repeat (first | (with_reducible first | exact HB.out | apply below_alloc | apply pw_below_drewN | apply below_drew1 | refine below_set ?_ GE152.out) | exact HB.out)⟩
  · replace c4 := Bool.eq_false_iff.mpr c4
    subst c4
    have H1 : ((verditerref03_Copy.f a0_0 l0_1).bind fun bt155 => ((verditerref03_Drop.f k a0_0 l0_1 a1).bind fun bt160 => ((verditerref03_Merge.f k a0_0 l0_1 a1).bind fun bt166 => ((feud_Drop.f bt155.1 bt155.2 a1).bind fun bt172 => ((feud_Merge.f bt155.1 bt155.2 a1).bind fun bt178 => ((verditerref03_Same.f k bt172.1 bt172.2.1 bt160.1 bt160.2.1).bind fun t184 => (if t184 = true then (if bt172.2.2 = bt160.2.2 then ((verditerref03_Same.f k bt178.1 bt178.2.1 bt166.1 bt166.2.1).bind fun t185 => (if t185 = true then (verditerlaw03_feudDrops.j0 k (bt178.2.2 != bt166.2.2) a0_0 l0_1 bt155.1 bt155.2 bt172.1 bt172.2.1) else (verditerlaw03_feudDrops.j0 k true a0_0 l0_1 bt155.1 bt155.2 bt172.1 bt172.2.1))) else (verditerlaw03_feudDrops.j0 k true a0_0 l0_1 bt155.1 bt155.2 bt172.1 bt172.2.1)) else (verditerlaw03_feudDrops.j0 k true a0_0 l0_1 bt155.1 bt155.2 bt172.1 bt172.2.1)))))))) = some r := by rw [if_neg (show ¬ (false = true) by decide)] at H; exact H
    clear H
    have H := H1
    clear H1
    replace H := Option.bind_eq_some_iff.mp H
    obtain ⟨⟨t155, t156⟩, A100, H⟩ := H
    replace H : ((verditerref03_Drop.f k a0_0 l0_1 a1).bind fun bt160 => ((verditerref03_Merge.f k a0_0 l0_1 a1).bind fun bt166 => ((feud_Drop.f t155 t156 a1).bind fun bt172 => ((feud_Merge.f t155 t156 a1).bind fun bt178 => ((verditerref03_Same.f k bt172.1 bt172.2.1 bt160.1 bt160.2.1).bind fun t184 => (if t184 = true then (if bt172.2.2 = bt160.2.2 then ((verditerref03_Same.f k bt178.1 bt178.2.1 bt166.1 bt166.2.1).bind fun t185 => (if t185 = true then (verditerlaw03_feudDrops.j0 k (bt178.2.2 != bt166.2.2) a0_0 l0_1 t155 t156 bt172.1 bt172.2.1) else (verditerlaw03_feudDrops.j0 k true a0_0 l0_1 t155 t156 bt172.1 bt172.2.1))) else (verditerlaw03_feudDrops.j0 k true a0_0 l0_1 t155 t156 bt172.1 bt172.2.1)) else (verditerlaw03_feudDrops.j0 k true a0_0 l0_1 t155 t156 bt172.1 bt172.2.1))))))) = some r := H
    have A10 := Aside0.mk A100
    clear A100
    replace H := Option.bind_eq_some_iff.mp H
    obtain ⟨⟨t160, t161, t164⟩, A110, H⟩ := H
    replace H : ((verditerref03_Merge.f k a0_0 l0_1 a1).bind fun bt166 => ((feud_Drop.f t155 t156 a1).bind fun bt172 => ((feud_Merge.f t155 t156 a1).bind fun bt178 => ((verditerref03_Same.f k bt172.1 bt172.2.1 t160 t161).bind fun t184 => (if t184 = true then (if bt172.2.2 = t164 then ((verditerref03_Same.f k bt178.1 bt178.2.1 bt166.1 bt166.2.1).bind fun t185 => (if t185 = true then (verditerlaw03_feudDrops.j0 k (bt178.2.2 != bt166.2.2) a0_0 l0_1 t155 t156 bt172.1 bt172.2.1) else (verditerlaw03_feudDrops.j0 k true a0_0 l0_1 t155 t156 bt172.1 bt172.2.1))) else (verditerlaw03_feudDrops.j0 k true a0_0 l0_1 t155 t156 bt172.1 bt172.2.1)) else (verditerlaw03_feudDrops.j0 k true a0_0 l0_1 t155 t156 bt172.1 bt172.2.1)))))) = some r := H
    have A11 := Aside0.mk A110
    clear A110
    replace H := Option.bind_eq_some_iff.mp H
    obtain ⟨⟨t166, t167, t170⟩, A120, H⟩ := H
    replace H : ((feud_Drop.f t155 t156 a1).bind fun bt172 => ((feud_Merge.f t155 t156 a1).bind fun bt178 => ((verditerref03_Same.f k bt172.1 bt172.2.1 t160 t161).bind fun t184 => (if t184 = true then (if bt172.2.2 = t164 then ((verditerref03_Same.f k bt178.1 bt178.2.1 t166 t167).bind fun t185 => (if t185 = true then (verditerlaw03_feudDrops.j0 k (bt178.2.2 != t170) a0_0 l0_1 t155 t156 bt172.1 bt172.2.1) else (verditerlaw03_feudDrops.j0 k true a0_0 l0_1 t155 t156 bt172.1 bt172.2.1))) else (verditerlaw03_feudDrops.j0 k true a0_0 l0_1 t155 t156 bt172.1 bt172.2.1)) else (verditerlaw03_feudDrops.j0 k true a0_0 l0_1 t155 t156 bt172.1 bt172.2.1))))) = some r := H
    have A12 := Aside0.mk A120
    clear A120
    replace H := Option.bind_eq_some_iff.mp H
    obtain ⟨⟨t172, t173, t176⟩, A130, H⟩ := H
    replace H : ((feud_Merge.f t155 t156 a1).bind fun bt178 => ((verditerref03_Same.f k t172 t173 t160 t161).bind fun t184 => (if t184 = true then (if t176 = t164 then ((verditerref03_Same.f k bt178.1 bt178.2.1 t166 t167).bind fun t185 => (if t185 = true then (verditerlaw03_feudDrops.j0 k (bt178.2.2 != t170) a0_0 l0_1 t155 t156 t172 t173) else (verditerlaw03_feudDrops.j0 k true a0_0 l0_1 t155 t156 t172 t173))) else (verditerlaw03_feudDrops.j0 k true a0_0 l0_1 t155 t156 t172 t173)) else (verditerlaw03_feudDrops.j0 k true a0_0 l0_1 t155 t156 t172 t173)))) = some r := H
    have A13 := Aside0.mk A130
    clear A130
    replace H := Option.bind_eq_some_iff.mp H
    obtain ⟨⟨t178, t179, t182⟩, A140, H⟩ := H
    replace H : ((verditerref03_Same.f k t172 t173 t160 t161).bind fun t184 => (if t184 = true then (if t176 = t164 then ((verditerref03_Same.f k t178 t179 t166 t167).bind fun t185 => (if t185 = true then (verditerlaw03_feudDrops.j0 k (t182 != t170) a0_0 l0_1 t155 t156 t172 t173) else (verditerlaw03_feudDrops.j0 k true a0_0 l0_1 t155 t156 t172 t173))) else (verditerlaw03_feudDrops.j0 k true a0_0 l0_1 t155 t156 t172 t173)) else (verditerlaw03_feudDrops.j0 k true a0_0 l0_1 t155 t156 t172 t173))) = some r := H
    have A14 := Aside0.mk A140
    clear A140
    have HC15 := Aside0.mk H
    clear H
    go_enter Try.func21, Try.ntmps21
    go_upto_region 8 with (first | ((with_reducible refine gate_dst (N := 2) rfl ?_); refine box_event ?hg (N := 2) ?hd (cs := #[.int .i64 a0_0, .slice A0_1 l0_1.length c0_1]) (t := 24) ?hr ?_; (case hd => rfl); (case hg => rfl); (case hr => first | (go_simp; done) | (go_simp; rfl)); intro gb152 hg w16 hbox hb; have n0_ := Aside0.mk (below_step (by repeat (first | (with_reducible first | exact HB.out | apply below_alloc | apply pw_below_drewN | apply below_drew1) | exact HB.out)) hb); have n1_ := Aside0.mk (hbox); have n2_ := Aside0.mk ((by rw [hg]; exact (below_size (by repeat (first | (with_reducible first | exact HB.out | apply below_alloc | apply pw_below_drewN | apply below_drew1) | exact HB.out))) : w.heap.size ≤ gb152)); have n3_ := Aside0.mk ((by rw [hg]; exact (below_size (by repeat (first | (with_reducible first | exact HB.out | apply below_alloc | apply pw_below_drewN | apply below_drew1) | exact HB.out))) : w.heap.size ≤ gb152)); clear HB; have HB := n0_; have BK152 := n1_; have GW152 := n2_; have GE152 := n3_; clear n0_ n1_ n2_ n3_; clear hb hbox hg; have hcz17_0 : w16.cell? ⟨gb152, 0, none⟩ = some (.int .i64 a0_0) := (blk_cell BK152.out 0).trans rfl; have hcz17_1 : w16.cell? ⟨gb152, 1, none⟩ = some (.slice A0_1 l0_1.length c0_1) := (blk_cell BK152.out 1).trans rfl; have hfz17_0 := blk_frozen BK152.out 0; have hfz17_1 := blk_frozen BK152.out 1) | ((with_reducible refine gate_callee (f := 35) rfl ?_); refine goesL_ (some 16) rfl rfl Try.func35 (by kernel_rfl) rfl #[.agg #[.int .i64 a0_0, .slice A0_1 l0_1.length c0_1]] rfl (by (try simp only [List.map_toArray, List.map_cons, List.map_nil]); first | done | rfl | (simp only [List.length_drop, List.length_take]; rfl)) ?_; (with_reducible refine (verditerlaw03_Long.calls a0_0 _ _ l0_1 false _ ?side1 ?side2 A3.out).mono ?_); (case side1 => repeat (first | exact (Kd.C_below HR0_1.out HB.out) | (with_reducible refine Kd.C_alloc ?_ _) | (with_reducible refine Kd.C_drewN ?_ _) | (with_reducible refine Kd.C_drew ?_))); (case side2 => exact HC0_1.out); rintro e w18 ⟨rfl, hb⟩; refine ⟨_, rfl, ?_⟩; have n0_ := Aside0.mk (blk_below (g := gb152) (o := .cells #[.int .i64 a0_0, .slice A0_1 l0_1.length c0_1] 24 (0, 0)) (by (with_reducible repeat (first | refine blk_drewN ?_ _ | refine blk_drew ?_ | refine blk_alloc ?_ _)); exact BK152.out) hb); have n1_ := Aside0.mk (below_step (by repeat (first | (with_reducible first | exact HB.out | apply below_alloc | apply pw_below_drewN | apply below_drew1 | refine below_set ?_ GE152.out) | exact HB.out)) hb); clear BK152; clear HB; have BK152 := n0_; have HB := n1_; clear n0_ n1_; (try clear hb); (try clear hb2); (try clear hk); (try clear hi); have hcz19_0 : w18.cell? ⟨gb152, 0, none⟩ = some (.int .i64 a0_0) := (blk_cell BK152.out 0).trans rfl; have hcz19_1 : w18.cell? ⟨gb152, 1, none⟩ = some (.slice A0_1 l0_1.length c0_1) := (blk_cell BK152.out 1).trans rfl; have hfz19_0 := blk_frozen BK152.out 0; have hfz19_1 := blk_frozen BK152.out 1) | ((with_reducible refine gate_callee (f := 43) rfl ?_); refine goesL_ (some 19) rfl rfl Try.func43 (by kernel_rfl) rfl #[.agg #[.int .i64 a0_0, .slice A0_1 l0_1.length c0_1]] rfl (by (try simp only [List.map_toArray, List.map_cons, List.map_nil]); first | done | rfl | (simp only [List.length_drop, List.length_take]; rfl)) ?_; (with_reducible refine (verditerref03_Copy.calls a0_0 _ _ l0_1 t155 t156 _ ?side1 ?side2 A10.out).mono ?_); (case side1 => repeat (first | exact (Kd.C_below HR0_1.out HB.out) | (with_reducible refine Kd.C_alloc ?_ _) | (with_reducible refine Kd.C_drewN ?_ _) | (with_reducible refine Kd.C_drew ?_))); (case side2 => exact HC0_1.out); rintro e w20 ⟨v157, rfl, ho0, hb⟩; refine ⟨_, rfl, ?_⟩; have n0_ := Aside0.mk (Kd.R_lower ho0 (below_size (by repeat (first | (with_reducible first | exact HB.out | apply below_alloc | apply pw_below_drewN | apply below_drew1 | refine below_set ?_ GE152.out) | exact HB.out)))); have n1_ := Aside0.mk (blk_below (g := gb152) (o := .cells #[.int .i64 a0_0, .slice A0_1 l0_1.length c0_1] 24 (0, 0)) (by (with_reducible repeat (first | refine blk_drewN ?_ _ | refine blk_drew ?_ | refine blk_alloc ?_ _)); exact BK152.out) hb); have n2_ := Aside0.mk (below_step (by repeat (first | (with_reducible first | exact HB.out | apply below_alloc | apply pw_below_drewN | apply below_drew1 | refine below_set ?_ GE152.out) | exact HB.out)) hb); clear BK152; clear HB; have HO158 := n0_; have BK152 := n1_; have HB := n2_; clear n0_ n1_ n2_; (try clear hb); (try clear hb2); (try clear hk); (try clear hi); (try clear ho0)) | ((with_reducible refine gate_dst (N := 5) rfl ?_); refine box_event ?hg (N := 5) ?hd (cs := #[.int .i64 0, .slice none 0 0]) (t := 24) ?hr ?_; (case hd => rfl); (case hg => rfl); (case hr => first | (go_simp; done) | (go_simp; rfl)); intro gb159 hg w21 hbox hb; have n0_ := Aside0.mk (Kd.R_below (by (with_reducible repeat (first | apply Kd.R_alloc | apply Kd.R_drewN | apply Kd.R_drew)); exact HO158.out) hb); have n1_ := Aside0.mk (blk_below (g := gb152) (o := .cells #[.int .i64 a0_0, .slice A0_1 l0_1.length c0_1] 24 (0, 0)) (by (with_reducible repeat (first | refine blk_drewN ?_ _ | refine blk_drew ?_ | refine blk_alloc ?_ _)); exact BK152.out) hb); have n2_ := Aside0.mk (below_step (by repeat (first | (with_reducible first | exact HB.out | apply below_alloc | apply pw_below_drewN | apply below_drew1 | refine below_set ?_ GE152.out) | exact HB.out)) hb); have n3_ := Aside0.mk (hbox); have n4_ := Aside0.mk ((by rw [hg]; exact (below_size (by repeat (first | (with_reducible first | exact HB.out | apply below_alloc | apply pw_below_drewN | apply below_drew1 | refine below_set ?_ GE152.out) | exact HB.out))) : w.heap.size ≤ gb159)); have n5_ := Aside0.mk ((by rw [hg]; exact (below_size (by repeat (first | (with_reducible first | exact HB.out | apply below_alloc | apply pw_below_drewN | apply below_drew1 | refine below_set ?_ GE152.out) | exact HB.out))) : w.heap.size ≤ gb159)); have n6_ := Aside0.mk ((by rw [hg]; exact Nat.ne_of_lt (blk_lt (g := gb152) (o := .cells #[.int .i64 a0_0, .slice A0_1 l0_1.length c0_1] 24 (0, 0)) (by (with_reducible repeat (first | refine blk_drewN ?_ _ | refine blk_drew ?_ | refine blk_alloc ?_ _)); exact BK152.out)) : gb152 ≠ gb159)); have n7_ := Aside0.mk ((by rw [hg]; exact Nat.ne_of_gt (blk_lt (g := gb152) (o := .cells #[.int .i64 a0_0, .slice A0_1 l0_1.length c0_1] 24 (0, 0)) (by (with_reducible repeat (first | refine blk_drewN ?_ _ | refine blk_drew ?_ | refine blk_alloc ?_ _)); exact BK152.out)) : gb159 ≠ gb152)); clear HO158; clear BK152; clear HB; have HO158 := n0_; have BK152 := n1_; have HB := n2_; have BK159 := n3_; have GW159 := n4_; have GE159 := n5_; have NB152_159 := n6_; have NB159_152 := n7_; clear n0_ n1_ n2_ n3_ n4_ n5_ n6_ n7_; clear hb hbox hg; have hnb22 := NB159_152.out; have hnc22 := NB152_159.out; have hcz23_0 : w21.cell? ⟨gb159, 0, none⟩ = some (.int .i64 0) := (blk_cell BK159.out 0).trans rfl; have hcz23_1 : w21.cell? ⟨gb159, 1, none⟩ = some (.slice none 0 0) := (blk_cell BK159.out 1).trans rfl; have hfz23_0 := blk_frozen BK159.out 0; have hfz23_1 := blk_frozen BK159.out 1; obtain ⟨Ao24, co24, eo24⟩ := Kd.R_slice HO158.out; subst eo24; have hcz25_0 : w21.cell? ⟨gb152, 0, none⟩ = some (.int .i64 a0_0) := (blk_cell BK152.out 0).trans rfl; have hcz25_1 : w21.cell? ⟨gb152, 1, none⟩ = some (.slice A0_1 l0_1.length c0_1) := (blk_cell BK152.out 1).trans rfl; have hfz25_0 := blk_frozen BK152.out 0; have hfz25_1 := blk_frozen BK152.out 1) | ((with_reducible refine gate_callee (f := 44) rfl ?_); refine goesL_ (some 23) rfl rfl Try.func44 (by kernel_rfl) rfl #[.agg #[.int .i64 a0_0, .slice A0_1 l0_1.length c0_1], .int .i64 a1] rfl (by (try simp only [List.map_toArray, List.map_cons, List.map_nil]); first | done | rfl | (simp only [List.length_drop, List.length_take]; rfl)) ?_; (with_reducible refine (verditerref03_Drop.calls k a0_0 _ _ l0_1 a1 t160 t161 t164 _ ?side1 ?side2 A11.out).mono ?_); (case side1 => exact Kd.C_below HR0_1.out (by repeat (first | (with_reducible first | exact HB.out | apply below_alloc | apply pw_below_drewN | apply below_drew1 | refine below_set ?_ GE152.out | refine below_set ?_ GE159.out) | exact HB.out))); (case side2 => exact HC0_1.out); rintro e w26 ⟨v162, rfl, ho0, hb⟩; refine ⟨_, rfl, ?_⟩; have n0_ := Aside0.mk (Kd.R_elder' (by (with_reducible repeat (first | apply Kd.R_alloc | apply Kd.R_drewN | apply Kd.R_drew)); exact (Kd.R_mono (Kd.R_far (p := ⟨gb159, 1, none⟩) (Kd.R_far (p := ⟨gb159, 0, none⟩) (Kd.R_types HO158.out BK159.out (by decide)) (fun _ hk => hk.2) (.int .i64 t155)) (fun _ hk => hk.2) (.slice Ao24 t156.length co24)) (fun _ h_ => h_.1))) (Kd.R_base ho0) hb); have n1_ := Aside0.mk (Kd.R_lower (Kd.R_new' ho0 (Kd.R_lt (by (with_reducible repeat (first | apply Kd.R_alloc | apply Kd.R_drewN | apply Kd.R_drew)); exact (Kd.R_mono (Kd.R_far (p := ⟨gb159, 1, none⟩) (Kd.R_far (p := ⟨gb159, 0, none⟩) (Kd.R_types HO158.out BK159.out (by decide)) (fun _ hk => hk.2) (.int .i64 t155)) (fun _ hk => hk.2) (.slice Ao24 t156.length co24)) (fun _ h_ => h_.1))))) (below_size (by repeat (first | (with_reducible first | exact HB.out | apply below_alloc | apply pw_below_drewN | apply below_drew1 | refine below_set ?_ GE152.out | refine below_set ?_ GE159.out) | exact HB.out)))); have n2_ := Aside0.mk (blk_below (g := gb152) (o := .cells #[.int .i64 a0_0, .slice A0_1 l0_1.length c0_1] 24 (0, 0)) (by (with_reducible repeat (first | refine blk_drewN ?_ _ | refine blk_drew ?_ | refine blk_alloc ?_ _)); refine blk_far ?_ NB152_159.out _; (with_reducible repeat (first | refine blk_drewN ?_ _ | refine blk_drew ?_ | refine blk_alloc ?_ _)); refine blk_far ?_ NB152_159.out _; (with_reducible repeat (first | refine blk_drewN ?_ _ | refine blk_drew ?_ | refine blk_alloc ?_ _)); exact BK152.out) hb); have n3_ := Aside0.mk (blk_below (g := gb159) (o := .cells #[.int .i64 t155, .slice Ao24 t156.length co24] 24 (0, 0)) (by (with_reducible repeat (first | refine blk_drewN ?_ _ | refine blk_drew ?_ | refine blk_alloc ?_ _)); refine blk_put (cs := #[.int .i64 t155, .slice none 0 0]) ?_ 1 _ rfl; (with_reducible repeat (first | refine blk_drewN ?_ _ | refine blk_drew ?_ | refine blk_alloc ?_ _)); refine blk_put (cs := #[.int .i64 0, .slice none 0 0]) ?_ 0 _ rfl; (with_reducible repeat (first | refine blk_drewN ?_ _ | refine blk_drew ?_ | refine blk_alloc ?_ _)); exact BK159.out) hb); have n4_ := Aside0.mk (below_step (by repeat (first | (with_reducible first | exact HB.out | apply below_alloc | apply pw_below_drewN | apply below_drew1 | refine below_set ?_ GE152.out | refine below_set ?_ GE159.out) | exact HB.out)) hb); clear HO158; clear BK152; clear BK159; clear HB; have HO158 := n0_; have HO163 := n1_; have BK152 := n2_; have BK159 := n3_; have HB := n4_; clear n0_ n1_ n2_ n3_ n4_; (try clear hb); (try clear hb2); (try clear hk); (try clear hi); (try clear ho0)) | ((with_reducible refine gate_dst (N := 6) rfl ?_); refine box_event ?hg (N := 6) ?hd (cs := #[.int .i64 0, .slice none 0 0]) (t := 24) ?hr ?_; (case hd => rfl); (case hg => rfl); (case hr => first | (go_simp; done) | (go_simp; rfl)); intro gb165 hg w27 hbox hb; have n0_ := Aside0.mk (Kd.R_below (by (with_reducible repeat (first | apply Kd.R_alloc | apply Kd.R_drewN | apply Kd.R_drew)); exact HO158.out) hb); have n1_ := Aside0.mk (Kd.R_below (by (with_reducible repeat (first | apply Kd.R_alloc | apply Kd.R_drewN | apply Kd.R_drew)); exact HO163.out) hb); have n2_ := Aside0.mk (blk_below (g := gb152) (o := .cells #[.int .i64 a0_0, .slice A0_1 l0_1.length c0_1] 24 (0, 0)) (by (with_reducible repeat (first | refine blk_drewN ?_ _ | refine blk_drew ?_ | refine blk_alloc ?_ _)); exact BK152.out) hb); have n3_ := Aside0.mk (blk_below (g := gb159) (o := .cells #[.int .i64 t155, .slice Ao24 t156.length co24] 24 (0, 0)) (by (with_reducible repeat (first | refine blk_drewN ?_ _ | refine blk_drew ?_ | refine blk_alloc ?_ _)); exact BK159.out) hb); have n4_ := Aside0.mk (below_step (by repeat (first | (with_reducible first | exact HB.out | apply below_alloc | apply pw_below_drewN | apply below_drew1 | refine below_set ?_ GE152.out | refine below_set ?_ GE159.out) | exact HB.out)) hb); have n5_ := Aside0.mk (hbox); have n6_ := Aside0.mk ((by rw [hg]; exact (below_size (by repeat (first | (with_reducible first | exact HB.out | apply below_alloc | apply pw_below_drewN | apply below_drew1 | refine below_set ?_ GE152.out | refine below_set ?_ GE159.out) | exact HB.out))) : w.heap.size ≤ gb165)); have n7_ := Aside0.mk ((by rw [hg]; exact (below_size (by repeat (first | (with_reducible first | exact HB.out | apply below_alloc | apply pw_below_drewN | apply below_drew1 | refine below_set ?_ GE152.out | refine below_set ?_ GE159.out) | exact HB.out))) : w.heap.size ≤ gb165)); have n8_ := Aside0.mk ((by rw [hg]; exact Nat.ne_of_lt (blk_lt (g := gb152) (o := .cells #[.int .i64 a0_0, .slice A0_1 l0_1.length c0_1] 24 (0, 0)) (by (with_reducible repeat (first | refine blk_drewN ?_ _ | refine blk_drew ?_ | refine blk_alloc ?_ _)); exact BK152.out)) : gb152 ≠ gb165)); have n9_ := Aside0.mk ((by rw [hg]; exact Nat.ne_of_gt (blk_lt (g := gb152) (o := .cells #[.int .i64 a0_0, .slice A0_1 l0_1.length c0_1] 24 (0, 0)) (by (with_reducible repeat (first | refine blk_drewN ?_ _ | refine blk_drew ?_ | refine blk_alloc ?_ _)); exact BK152.out)) : gb165 ≠ gb152)); have n10_ := Aside0.mk ((by rw [hg]; exact Nat.ne_of_lt (blk_lt (g := gb159) (o := .cells #[.int .i64 t155, .slice Ao24 t156.length co24] 24 (0, 0)) (by (with_reducible repeat (first | refine blk_drewN ?_ _ | refine blk_drew ?_ | refine blk_alloc ?_ _)); exact BK159.out)) : gb159 ≠ gb165)); have n11_ := Aside0.mk ((by rw [hg]; exact Nat.ne_of_gt (blk_lt (g := gb159) (o := .cells #[.int .i64 t155, .slice Ao24 t156.length co24] 24 (0, 0)) (by (with_reducible repeat (first | refine blk_drewN ?_ _ | refine blk_drew ?_ | refine blk_alloc ?_ _)); exact BK159.out)) : gb165 ≠ gb159)); clear HO158; clear HO163; clear BK152; clear BK159; clear HB; have HO158 := n0_; have HO163 := n1_; have BK152 := n2_; have BK159 := n3_; have HB := n4_; have BK165 := n5_; have GW165 := n6_; have GE165 := n7_; have NB152_165 := n8_; have NB165_152 := n9_; have NB159_165 := n10_; have NB165_159 := n11_; clear n0_ n1_ n2_ n3_ n4_ n5_ n6_ n7_ n8_ n9_ n10_ n11_; clear hb hbox hg; have hnb28 := NB165_152.out; have hnc28 := NB152_165.out; have hnb29 := NB165_159.out; have hnc29 := NB159_165.out; have hcz30_0 : w27.cell? ⟨gb165, 0, none⟩ = some (.int .i64 0) := (blk_cell BK165.out 0).trans rfl; have hcz30_1 : w27.cell? ⟨gb165, 1, none⟩ = some (.slice none 0 0) := (blk_cell BK165.out 1).trans rfl; have hfz30_0 := blk_frozen BK165.out 0; have hfz30_1 := blk_frozen BK165.out 1; obtain ⟨Ao31, co31, eo31⟩ := Kd.R_slice HO163.out; subst eo31; have hcz32_0 : w27.cell? ⟨gb152, 0, none⟩ = some (.int .i64 a0_0) := (blk_cell BK152.out 0).trans rfl; have hcz32_1 : w27.cell? ⟨gb152, 1, none⟩ = some (.slice A0_1 l0_1.length c0_1) := (blk_cell BK152.out 1).trans rfl; have hfz32_0 := blk_frozen BK152.out 0; have hfz32_1 := blk_frozen BK152.out 1) | ((with_reducible refine gate_callee (f := 45) rfl ?_); refine goesL_ (some 29) rfl rfl Try.func45 (by kernel_rfl) rfl #[.agg #[.int .i64 a0_0, .slice A0_1 l0_1.length c0_1], .int .i64 a1] rfl (by (try simp only [List.map_toArray, List.map_cons, List.map_nil]); first | done | rfl | (simp only [List.length_drop, List.length_take]; rfl)) ?_; (with_reducible refine (verditerref03_Merge.calls k a0_0 _ _ l0_1 a1 t166 t167 t170 _ ?side1 ?side2 A12.out).mono ?_); (case side1 => exact Kd.C_below HR0_1.out (by repeat (first | (with_reducible first | exact HB.out | apply below_alloc | apply pw_below_drewN | apply below_drew1 | refine below_set ?_ GE152.out | refine below_set ?_ GE159.out | refine below_set ?_ GE165.out) | exact HB.out))); (case side2 => exact HC0_1.out); rintro e w33 ⟨v168, rfl, ho0, hb⟩; refine ⟨_, rfl, ?_⟩; have n0_ := Aside0.mk (Kd.R_elder' (by (with_reducible repeat (first | apply Kd.R_alloc | apply Kd.R_drewN | apply Kd.R_drew)); exact (Kd.R_mono (Kd.R_far (p := ⟨gb165, 1, none⟩) (Kd.R_far (p := ⟨gb165, 0, none⟩) (Kd.R_types HO158.out BK165.out (by decide)) (fun _ hk => hk.2) (.int .i64 t160)) (fun _ hk => hk.2) (.slice Ao31 t161.length co31)) (fun _ h_ => h_.1))) (Kd.R_base ho0) hb); have n1_ := Aside0.mk (Kd.R_elder' (by (with_reducible repeat (first | apply Kd.R_alloc | apply Kd.R_drewN | apply Kd.R_drew)); exact (Kd.R_mono (Kd.R_far (p := ⟨gb165, 1, none⟩) (Kd.R_far (p := ⟨gb165, 0, none⟩) (Kd.R_types HO163.out BK165.out (by decide)) (fun _ hk => hk.2) (.int .i64 t160)) (fun _ hk => hk.2) (.slice Ao31 t161.length co31)) (fun _ h_ => h_.1))) (Kd.R_base ho0) hb); have n2_ := Aside0.mk (Kd.R_lower (Kd.R_new' (Kd.R_new' ho0 (Kd.R_lt (by (with_reducible repeat (first | apply Kd.R_alloc | apply Kd.R_drewN | apply Kd.R_drew)); exact (Kd.R_mono (Kd.R_far (p := ⟨gb165, 1, none⟩) (Kd.R_far (p := ⟨gb165, 0, none⟩) (Kd.R_types HO158.out BK165.out (by decide)) (fun _ hk => hk.2) (.int .i64 t160)) (fun _ hk => hk.2) (.slice Ao31 t161.length co31)) (fun _ h_ => h_.1))))) (Kd.R_lt (by (with_reducible repeat (first | apply Kd.R_alloc | apply Kd.R_drewN | apply Kd.R_drew)); exact (Kd.R_mono (Kd.R_far (p := ⟨gb165, 1, none⟩) (Kd.R_far (p := ⟨gb165, 0, none⟩) (Kd.R_types HO163.out BK165.out (by decide)) (fun _ hk => hk.2) (.int .i64 t160)) (fun _ hk => hk.2) (.slice Ao31 t161.length co31)) (fun _ h_ => h_.1))))) (below_size (by repeat (first | (with_reducible first | exact HB.out | apply below_alloc | apply pw_below_drewN | apply below_drew1 | refine below_set ?_ GE152.out | refine below_set ?_ GE159.out | refine below_set ?_ GE165.out) | exact HB.out)))); have n3_ := Aside0.mk (blk_below (g := gb152) (o := .cells #[.int .i64 a0_0, .slice A0_1 l0_1.length c0_1] 24 (0, 0)) (by (with_reducible repeat (first | refine blk_drewN ?_ _ | refine blk_drew ?_ | refine blk_alloc ?_ _)); refine blk_far ?_ NB152_165.out _; (with_reducible repeat (first | refine blk_drewN ?_ _ | refine blk_drew ?_ | refine blk_alloc ?_ _)); refine blk_far ?_ NB152_165.out _; (with_reducible repeat (first | refine blk_drewN ?_ _ | refine blk_drew ?_ | refine blk_alloc ?_ _)); exact BK152.out) hb); have n4_ := Aside0.mk (blk_below (g := gb159) (o := .cells #[.int .i64 t155, .slice Ao24 t156.length co24] 24 (0, 0)) (by (with_reducible repeat (first | refine blk_drewN ?_ _ | refine blk_drew ?_ | refine blk_alloc ?_ _)); refine blk_far ?_ NB159_165.out _; (with_reducible repeat (first | refine blk_drewN ?_ _ | refine blk_drew ?_ | refine blk_alloc ?_ _)); refine blk_far ?_ NB159_165.out _; (with_reducible repeat (first | refine blk_drewN ?_ _ | refine blk_drew ?_ | refine blk_alloc ?_ _)); exact BK159.out) hb); have n5_ := Aside0.mk (blk_below (g := gb165) (o := .cells #[.int .i64 t160, .slice Ao31 t161.length co31] 24 (0, 0)) (by (with_reducible repeat (first | refine blk_drewN ?_ _ | refine blk_drew ?_ | refine blk_alloc ?_ _)); refine blk_put (cs := #[.int .i64 t160, .slice none 0 0]) ?_ 1 _ rfl; (with_reducible repeat (first | refine blk_drewN ?_ _ | refine blk_drew ?_ | refine blk_alloc ?_ _)); refine blk_put (cs := #[.int .i64 0, .slice none 0 0]) ?_ 0 _ rfl; (with_reducible repeat (first | refine blk_drewN ?_ _ | refine blk_drew ?_ | refine blk_alloc ?_ _)); exact BK165.out) hb); have n6_ := Aside0.mk (below_step (by repeat (first | (with_reducible first | exact HB.out | apply below_alloc | apply pw_below_drewN | apply below_drew1 | refine below_set ?_ GE152.out | refine below_set ?_ GE159.out | refine below_set ?_ GE165.out) | exact HB.out)) hb); clear HO158; clear HO163; clear BK152; clear BK159; clear BK165; clear HB; have HO158 := n0_; have HO163 := n1_; have HO169 := n2_; have BK152 := n3_; have BK159 := n4_; have BK165 := n5_; have HB := n6_; clear n0_ n1_ n2_ n3_ n4_ n5_ n6_; (try clear hb); (try clear hb2); (try clear hk); (try clear hi); (try clear ho0)) | ((with_reducible refine gate_dst (N := 8) rfl ?_); refine box_event ?hg (N := 8) ?hd (cs := #[.int .i64 0, .slice none 0 0]) (t := 24) ?hr ?_; (case hd => rfl); (case hg => rfl); (case hr => first | (go_simp; done) | (go_simp; rfl)); intro gb171 hg w34 hbox hb; have n0_ := Aside0.mk (Kd.R_below (by (with_reducible repeat (first | apply Kd.R_alloc | apply Kd.R_drewN | apply Kd.R_drew)); exact HO158.out) hb); have n1_ := Aside0.mk (Kd.R_below (by (with_reducible repeat (first | apply Kd.R_alloc | apply Kd.R_drewN | apply Kd.R_drew)); exact HO163.out) hb); have n2_ := Aside0.mk (Kd.R_below (by (with_reducible repeat (first | apply Kd.R_alloc | apply Kd.R_drewN | apply Kd.R_drew)); exact HO169.out) hb); have n3_ := Aside0.mk (blk_below (g := gb152) (o := .cells #[.int .i64 a0_0, .slice A0_1 l0_1.length c0_1] 24 (0, 0)) (by (with_reducible repeat (first | refine blk_drewN ?_ _ | refine blk_drew ?_ | refine blk_alloc ?_ _)); exact BK152.out) hb); have n4_ := Aside0.mk (blk_below (g := gb159) (o := .cells #[.int .i64 t155, .slice Ao24 t156.length co24] 24 (0, 0)) (by (with_reducible repeat (first | refine blk_drewN ?_ _ | refine blk_drew ?_ | refine blk_alloc ?_ _)); exact BK159.out) hb); have n5_ := Aside0.mk (blk_below (g := gb165) (o := .cells #[.int .i64 t160, .slice Ao31 t161.length co31] 24 (0, 0)) (by (with_reducible repeat (first | refine blk_drewN ?_ _ | refine blk_drew ?_ | refine blk_alloc ?_ _)); exact BK165.out) hb); have n6_ := Aside0.mk (below_step (by repeat (first | (with_reducible first | exact HB.out | apply below_alloc | apply pw_below_drewN | apply below_drew1 | refine below_set ?_ GE152.out | refine below_set ?_ GE159.out | refine below_set ?_ GE165.out) | exact HB.out)) hb); have n7_ := Aside0.mk (hbox); have n8_ := Aside0.mk ((by rw [hg]; exact (below_size (by repeat (first | (with_reducible first | exact HB.out | apply below_alloc | apply pw_below_drewN | apply below_drew1 | refine below_set ?_ GE152.out | refine below_set ?_ GE159.out | refine below_set ?_ GE165.out) | exact HB.out))) : w.heap.size ≤ gb171)); have n9_ := Aside0.mk ((by rw [hg]; exact (below_size (by repeat (first | (with_reducible first | exact HB.out | apply below_alloc | apply pw_below_drewN | apply below_drew1 | refine below_set ?_ GE152.out | refine below_set ?_ GE159.out | refine below_set ?_ GE165.out) | exact HB.out))) : w.heap.size ≤ gb171)); have n10_ := Aside0.mk ((by rw [hg]; exact Nat.ne_of_lt (blk_lt (g := gb152) (o := .cells #[.int .i64 a0_0, .slice A0_1 l0_1.length c0_1] 24 (0, 0)) (by (with_reducible repeat (first | refine blk_drewN ?_ _ | refine blk_drew ?_ | refine blk_alloc ?_ _)); exact BK152.out)) : gb152 ≠ gb171)); have n11_ := Aside0.mk ((by rw [hg]; exact Nat.ne_of_gt (blk_lt (g := gb152) (o := .cells #[.int .i64 a0_0, .slice A0_1 l0_1.length c0_1] 24 (0, 0)) (by (with_reducible repeat (first | refine blk_drewN ?_ _ | refine blk_drew ?_ | refine blk_alloc ?_ _)); exact BK152.out)) : gb171 ≠ gb152)); have n12_ := Aside0.mk ((by rw [hg]; exact Nat.ne_of_lt (blk_lt (g := gb159) (o := .cells #[.int .i64 t155, .slice Ao24 t156.length co24] 24 (0, 0)) (by (with_reducible repeat (first | refine blk_drewN ?_ _ | refine blk_drew ?_ | refine blk_alloc ?_ _)); exact BK159.out)) : gb159 ≠ gb171)); have n13_ := Aside0.mk ((by rw [hg]; exact Nat.ne_of_gt (blk_lt (g := gb159) (o := .cells #[.int .i64 t155, .slice Ao24 t156.length co24] 24 (0, 0)) (by (with_reducible repeat (first | refine blk_drewN ?_ _ | refine blk_drew ?_ | refine blk_alloc ?_ _)); exact BK159.out)) : gb171 ≠ gb159)); have n14_ := Aside0.mk ((by rw [hg]; exact Nat.ne_of_lt (blk_lt (g := gb165) (o := .cells #[.int .i64 t160, .slice Ao31 t161.length co31] 24 (0, 0)) (by (with_reducible repeat (first | refine blk_drewN ?_ _ | refine blk_drew ?_ | refine blk_alloc ?_ _)); exact BK165.out)) : gb165 ≠ gb171)); have n15_ := Aside0.mk ((by rw [hg]; exact Nat.ne_of_gt (blk_lt (g := gb165) (o := .cells #[.int .i64 t160, .slice Ao31 t161.length co31] 24 (0, 0)) (by (with_reducible repeat (first | refine blk_drewN ?_ _ | refine blk_drew ?_ | refine blk_alloc ?_ _)); exact BK165.out)) : gb171 ≠ gb165)); clear HO158; clear HO163; clear HO169; clear BK152; clear BK159; clear BK165; clear HB; have HO158 := n0_; have HO163 := n1_; have HO169 := n2_; have BK152 := n3_; have BK159 := n4_; have BK165 := n5_; have HB := n6_; have BK171 := n7_; have GW171 := n8_; have GE171 := n9_; have NB152_171 := n10_; have NB171_152 := n11_; have NB159_171 := n12_; have NB171_159 := n13_; have NB165_171 := n14_; have NB171_165 := n15_; clear n0_ n1_ n2_ n3_ n4_ n5_ n6_ n7_ n8_ n9_ n10_ n11_ n12_ n13_ n14_ n15_; clear hb hbox hg; have hnb35 := NB171_152.out; have hnc35 := NB152_171.out; have hnb36 := NB171_159.out; have hnc36 := NB159_171.out; have hnb37 := NB171_165.out; have hnc37 := NB165_171.out; have hcz38_0 : w34.cell? ⟨gb171, 0, none⟩ = some (.int .i64 0) := (blk_cell BK171.out 0).trans rfl; have hcz38_1 : w34.cell? ⟨gb171, 1, none⟩ = some (.slice none 0 0) := (blk_cell BK171.out 1).trans rfl; have hfz38_0 := blk_frozen BK171.out 0; have hfz38_1 := blk_frozen BK171.out 1; obtain ⟨Ao39, co39, eo39⟩ := Kd.R_slice HO169.out; subst eo39; have hcz40_0 : w34.cell? ⟨gb159, 0, none⟩ = some (.int .i64 t155) := (blk_cell BK159.out 0).trans rfl; have hcz40_1 : w34.cell? ⟨gb159, 1, none⟩ = some (.slice Ao24 t156.length co24) := (blk_cell BK159.out 1).trans rfl; have hfz40_0 := blk_frozen BK159.out 0; have hfz40_1 := blk_frozen BK159.out 1) | ((with_reducible refine gate_callee (f := 46) rfl ?_); refine goesL_ (some 35) rfl rfl Try.func46 (by kernel_rfl) rfl #[.agg #[.int .i64 t155, .slice Ao24 t156.length co24], .int .i64 a1] rfl (by (try simp only [List.map_toArray, List.map_cons, List.map_nil]); first | done | rfl | (simp only [List.length_drop, List.length_take]; rfl)) ?_; (with_reducible refine (feud_Drop.calls t155 _ _ t156 a1 t172 t173 t176 _ ?side1 ?side2 A13.out).mono ?_); (case side1 => refine (Kd.R_reads' (e := 43) (base := w.heap.size) (ok := fun k_ => ((True ∧ some k_ ≠ (.slice Ao31 t161.length co31 : Value).ownBlock) ∧ some k_ ≠ (.slice Ao39 t167.length co39 : Value).ownBlock)) (n := t156.length) (c := co24) ?_).2.2; exact (by (with_reducible repeat (first | apply Kd.R_alloc | apply Kd.R_drewN | apply Kd.R_drew)); exact (Kd.R_mono (Kd.R_far (p := ⟨gb171, 1, none⟩) (Kd.R_far (p := ⟨gb171, 0, none⟩) (Kd.R_types HO158.out BK171.out (by decide)) (fun _ hk => hk.2) (.int .i64 t166)) (fun _ hk => hk.2) (.slice Ao39 t167.length co39)) (fun _ h_ => h_.1)))); (case side2 => exact (Kd.R_reads' HO158.out).2.1); rintro e w41 ⟨v174, rfl, ho0, hb⟩; refine ⟨_, rfl, ?_⟩; have n0_ := Aside0.mk (Kd.R_elder' (by (with_reducible repeat (first | apply Kd.R_alloc | apply Kd.R_drewN | apply Kd.R_drew)); exact (Kd.R_mono (Kd.R_far (p := ⟨gb171, 1, none⟩) (Kd.R_far (p := ⟨gb171, 0, none⟩) (Kd.R_types HO158.out BK171.out (by decide)) (fun _ hk => hk.2) (.int .i64 t166)) (fun _ hk => hk.2) (.slice Ao39 t167.length co39)) (fun _ h_ => h_.1))) (Kd.R_base ho0) hb); have n1_ := Aside0.mk (Kd.R_elder' (by (with_reducible repeat (first | apply Kd.R_alloc | apply Kd.R_drewN | apply Kd.R_drew)); exact (Kd.R_mono (Kd.R_far (p := ⟨gb171, 1, none⟩) (Kd.R_far (p := ⟨gb171, 0, none⟩) (Kd.R_types HO163.out BK171.out (by decide)) (fun _ hk => hk.2) (.int .i64 t166)) (fun _ hk => hk.2) (.slice Ao39 t167.length co39)) (fun _ h_ => h_.1))) (Kd.R_base ho0) hb); have n2_ := Aside0.mk (Kd.R_elder' (by (with_reducible repeat (first | apply Kd.R_alloc | apply Kd.R_drewN | apply Kd.R_drew)); exact (Kd.R_mono (Kd.R_far (p := ⟨gb171, 1, none⟩) (Kd.R_far (p := ⟨gb171, 0, none⟩) (Kd.R_types HO169.out BK171.out (by decide)) (fun _ hk => hk.2) (.int .i64 t166)) (fun _ hk => hk.2) (.slice Ao39 t167.length co39)) (fun _ h_ => h_.1))) (Kd.R_base ho0) hb); have n3_ := Aside0.mk (Kd.R_lower (Kd.R_new' (Kd.R_new' (Kd.R_new' ho0 (Kd.R_lt (by (with_reducible repeat (first | apply Kd.R_alloc | apply Kd.R_drewN | apply Kd.R_drew)); exact (Kd.R_mono (Kd.R_far (p := ⟨gb171, 1, none⟩) (Kd.R_far (p := ⟨gb171, 0, none⟩) (Kd.R_types HO158.out BK171.out (by decide)) (fun _ hk => hk.2) (.int .i64 t166)) (fun _ hk => hk.2) (.slice Ao39 t167.length co39)) (fun _ h_ => h_.1))))) (Kd.R_lt (by (with_reducible repeat (first | apply Kd.R_alloc | apply Kd.R_drewN | apply Kd.R_drew)); exact (Kd.R_mono (Kd.R_far (p := ⟨gb171, 1, none⟩) (Kd.R_far (p := ⟨gb171, 0, none⟩) (Kd.R_types HO163.out BK171.out (by decide)) (fun _ hk => hk.2) (.int .i64 t166)) (fun _ hk => hk.2) (.slice Ao39 t167.length co39)) (fun _ h_ => h_.1))))) (Kd.R_lt (by (with_reducible repeat (first | apply Kd.R_alloc | apply Kd.R_drewN | apply Kd.R_drew)); exact (Kd.R_mono (Kd.R_far (p := ⟨gb171, 1, none⟩) (Kd.R_far (p := ⟨gb171, 0, none⟩) (Kd.R_types HO169.out BK171.out (by decide)) (fun _ hk => hk.2) (.int .i64 t166)) (fun _ hk => hk.2) (.slice Ao39 t167.length co39)) (fun _ h_ => h_.1))))) (below_size (by repeat (first | (with_reducible first | exact HB.out | apply below_alloc | apply pw_below_drewN | apply below_drew1 | refine below_set ?_ GE152.out | refine below_set ?_ GE159.out | refine below_set ?_ GE165.out | refine below_set ?_ GE171.out) | exact HB.out)))); have n4_ := Aside0.mk (blk_below (g := gb152) (o := .cells #[.int .i64 a0_0, .slice A0_1 l0_1.length c0_1] 24 (0, 0)) (by (with_reducible repeat (first | refine blk_drewN ?_ _ | refine blk_drew ?_ | refine blk_alloc ?_ _)); refine blk_far ?_ NB152_171.out _; (with_reducible repeat (first | refine blk_drewN ?_ _ | refine blk_drew ?_ | refine blk_alloc ?_ _)); refine blk_far ?_ NB152_171.out _; (with_reducible repeat (first | refine blk_drewN ?_ _ | refine blk_drew ?_ | refine blk_alloc ?_ _)); exact BK152.out) hb); have n5_ := Aside0.mk (blk_below (g := gb159) (o := .cells #[.int .i64 t155, .slice Ao24 t156.length co24] 24 (0, 0)) (by (with_reducible repeat (first | refine blk_drewN ?_ _ | refine blk_drew ?_ | refine blk_alloc ?_ _)); refine blk_far ?_ NB159_171.out _; (with_reducible repeat (first | refine blk_drewN ?_ _ | refine blk_drew ?_ | refine blk_alloc ?_ _)); refine blk_far ?_ NB159_171.out _; (with_reducible repeat (first | refine blk_drewN ?_ _ | refine blk_drew ?_ | refine blk_alloc ?_ _)); exact BK159.out) hb); have n6_ := Aside0.mk (blk_below (g := gb165) (o := .cells #[.int .i64 t160, .slice Ao31 t161.length co31] 24 (0, 0)) (by (with_reducible repeat (first | refine blk_drewN ?_ _ | refine blk_drew ?_ | refine blk_alloc ?_ _)); refine blk_far ?_ NB165_171.out _; (with_reducible repeat (first | refine blk_drewN ?_ _ | refine blk_drew ?_ | refine blk_alloc ?_ _)); refine blk_far ?_ NB165_171.out _; (with_reducible repeat (first | refine blk_drewN ?_ _ | refine blk_drew ?_ | refine blk_alloc ?_ _)); exact BK165.out) hb); have n7_ := Aside0.mk (blk_below (g := gb171) (o := .cells #[.int .i64 t166, .slice Ao39 t167.length co39] 24 (0, 0)) (by (with_reducible repeat (first | refine blk_drewN ?_ _ | refine blk_drew ?_ | refine blk_alloc ?_ _)); refine blk_put (cs := #[.int .i64 t166, .slice none 0 0]) ?_ 1 _ rfl; (with_reducible repeat (first | refine blk_drewN ?_ _ | refine blk_drew ?_ | refine blk_alloc ?_ _)); refine blk_put (cs := #[.int .i64 0, .slice none 0 0]) ?_ 0 _ rfl; (with_reducible repeat (first | refine blk_drewN ?_ _ | refine blk_drew ?_ | refine blk_alloc ?_ _)); exact BK171.out) hb); have n8_ := Aside0.mk (below_step (by repeat (first | (with_reducible first | exact HB.out | apply below_alloc | apply pw_below_drewN | apply below_drew1 | refine below_set ?_ GE152.out | refine below_set ?_ GE159.out | refine below_set ?_ GE165.out | refine below_set ?_ GE171.out) | exact HB.out)) hb); clear HO158; clear HO163; clear HO169; clear BK152; clear BK159; clear BK165; clear BK171; clear HB; have HO158 := n0_; have HO163 := n1_; have HO169 := n2_; have HO175 := n3_; have BK152 := n4_; have BK159 := n5_; have BK165 := n6_; have BK171 := n7_; have HB := n8_; clear n0_ n1_ n2_ n3_ n4_ n5_ n6_ n7_ n8_; (try clear hb); (try clear hb2); (try clear hk); (try clear hi); (try clear ho0)) | ((with_reducible refine gate_dst (N := 10) rfl ?_); refine box_event ?hg (N := 10) ?hd (cs := #[.int .i64 0, .slice none 0 0]) (t := 24) ?hr ?_; (case hd => rfl); (case hg => rfl); (case hr => first | (go_simp; done) | (go_simp; rfl)); intro gb177 hg w42 hbox hb; have n0_ := Aside0.mk (Kd.R_below (by (with_reducible repeat (first | apply Kd.R_alloc | apply Kd.R_drewN | apply Kd.R_drew)); exact HO158.out) hb); have n1_ := Aside0.mk (Kd.R_below (by (with_reducible repeat (first | apply Kd.R_alloc | apply Kd.R_drewN | apply Kd.R_drew)); exact HO163.out) hb); have n2_ := Aside0.mk (Kd.R_below (by (with_reducible repeat (first | apply Kd.R_alloc | apply Kd.R_drewN | apply Kd.R_drew)); exact HO169.out) hb); have n3_ := Aside0.mk (Kd.R_below (by (with_reducible repeat (first | apply Kd.R_alloc | apply Kd.R_drewN | apply Kd.R_drew)); exact HO175.out) hb); have n4_ := Aside0.mk (blk_below (g := gb152) (o := .cells #[.int .i64 a0_0, .slice A0_1 l0_1.length c0_1] 24 (0, 0)) (by (with_reducible repeat (first | refine blk_drewN ?_ _ | refine blk_drew ?_ | refine blk_alloc ?_ _)); exact BK152.out) hb); have n5_ := Aside0.mk (blk_below (g := gb159) (o := .cells #[.int .i64 t155, .slice Ao24 t156.length co24] 24 (0, 0)) (by (with_reducible repeat (first | refine blk_drewN ?_ _ | refine blk_drew ?_ | refine blk_alloc ?_ _)); exact BK159.out) hb); have n6_ := Aside0.mk (blk_below (g := gb165) (o := .cells #[.int .i64 t160, .slice Ao31 t161.length co31] 24 (0, 0)) (by (with_reducible repeat (first | refine blk_drewN ?_ _ | refine blk_drew ?_ | refine blk_alloc ?_ _)); exact BK165.out) hb); have n7_ := Aside0.mk (blk_below (g := gb171) (o := .cells #[.int .i64 t166, .slice Ao39 t167.length co39] 24 (0, 0)) (by (with_reducible repeat (first | refine blk_drewN ?_ _ | refine blk_drew ?_ | refine blk_alloc ?_ _)); exact BK171.out) hb); have n8_ := Aside0.mk (below_step (by repeat (first | (with_reducible first | exact HB.out | apply below_alloc | apply pw_below_drewN | apply below_drew1 | refine below_set ?_ GE152.out | refine below_set ?_ GE159.out | refine below_set ?_ GE165.out | refine below_set ?_ GE171.out) | exact HB.out)) hb); have n9_ := Aside0.mk (hbox); have n10_ := Aside0.mk ((by rw [hg]; exact (below_size (by repeat (first | (with_reducible first | exact HB.out | apply below_alloc | apply pw_below_drewN | apply below_drew1 | refine below_set ?_ GE152.out | refine below_set ?_ GE159.out | refine below_set ?_ GE165.out | refine below_set ?_ GE171.out) | exact HB.out))) : w.heap.size ≤ gb177)); have n11_ := Aside0.mk ((by rw [hg]; exact (below_size (by repeat (first | (with_reducible first | exact HB.out | apply below_alloc | apply pw_below_drewN | apply below_drew1 | refine below_set ?_ GE152.out | refine below_set ?_ GE159.out | refine below_set ?_ GE165.out | refine below_set ?_ GE171.out) | exact HB.out))) : w.heap.size ≤ gb177)); have n12_ := Aside0.mk ((by rw [hg]; exact Nat.ne_of_lt (blk_lt (g := gb152) (o := .cells #[.int .i64 a0_0, .slice A0_1 l0_1.length c0_1] 24 (0, 0)) (by (with_reducible repeat (first | refine blk_drewN ?_ _ | refine blk_drew ?_ | refine blk_alloc ?_ _)); exact BK152.out)) : gb152 ≠ gb177)); have n13_ := Aside0.mk ((by rw [hg]; exact Nat.ne_of_gt (blk_lt (g := gb152) (o := .cells #[.int .i64 a0_0, .slice A0_1 l0_1.length c0_1] 24 (0, 0)) (by (with_reducible repeat (first | refine blk_drewN ?_ _ | refine blk_drew ?_ | refine blk_alloc ?_ _)); exact BK152.out)) : gb177 ≠ gb152)); have n14_ := Aside0.mk ((by rw [hg]; exact Nat.ne_of_lt (blk_lt (g := gb159) (o := .cells #[.int .i64 t155, .slice Ao24 t156.length co24] 24 (0, 0)) (by (with_reducible repeat (first | refine blk_drewN ?_ _ | refine blk_drew ?_ | refine blk_alloc ?_ _)); exact BK159.out)) : gb159 ≠ gb177)); have n15_ := Aside0.mk ((by rw [hg]; exact Nat.ne_of_gt (blk_lt (g := gb159) (o := .cells #[.int .i64 t155, .slice Ao24 t156.length co24] 24 (0, 0)) (by (with_reducible repeat (first | refine blk_drewN ?_ _ | refine blk_drew ?_ | refine blk_alloc ?_ _)); exact BK159.out)) : gb177 ≠ gb159)); have n16_ := Aside0.mk ((by rw [hg]; exact Nat.ne_of_lt (blk_lt (g := gb165) (o := .cells #[.int .i64 t160, .slice Ao31 t161.length co31] 24 (0, 0)) (by (with_reducible repeat (first | refine blk_drewN ?_ _ | refine blk_drew ?_ | refine blk_alloc ?_ _)); exact BK165.out)) : gb165 ≠ gb177)); have n17_ := Aside0.mk ((by rw [hg]; exact Nat.ne_of_gt (blk_lt (g := gb165) (o := .cells #[.int .i64 t160, .slice Ao31 t161.length co31] 24 (0, 0)) (by (with_reducible repeat (first | refine blk_drewN ?_ _ | refine blk_drew ?_ | refine blk_alloc ?_ _)); exact BK165.out)) : gb177 ≠ gb165)); have n18_ := Aside0.mk ((by rw [hg]; exact Nat.ne_of_lt (blk_lt (g := gb171) (o := .cells #[.int .i64 t166, .slice Ao39 t167.length co39] 24 (0, 0)) (by (with_reducible repeat (first | refine blk_drewN ?_ _ | refine blk_drew ?_ | refine blk_alloc ?_ _)); exact BK171.out)) : gb171 ≠ gb177)); have n19_ := Aside0.mk ((by rw [hg]; exact Nat.ne_of_gt (blk_lt (g := gb171) (o := .cells #[.int .i64 t166, .slice Ao39 t167.length co39] 24 (0, 0)) (by (with_reducible repeat (first | refine blk_drewN ?_ _ | refine blk_drew ?_ | refine blk_alloc ?_ _)); exact BK171.out)) : gb177 ≠ gb171)); clear HO158; clear HO163; clear HO169; clear HO175; clear BK152; clear BK159; clear BK165; clear BK171; clear HB; have HO158 := n0_; have HO163 := n1_; have HO169 := n2_; have HO175 := n3_; have BK152 := n4_; have BK159 := n5_; have BK165 := n6_; have BK171 := n7_; have HB := n8_; have BK177 := n9_; have GW177 := n10_; have GE177 := n11_; have NB152_177 := n12_; have NB177_152 := n13_; have NB159_177 := n14_; have NB177_159 := n15_; have NB165_177 := n16_; have NB177_165 := n17_; have NB171_177 := n18_; have NB177_171 := n19_; clear n0_ n1_ n2_ n3_ n4_ n5_ n6_ n7_ n8_ n9_ n10_ n11_ n12_ n13_ n14_ n15_ n16_ n17_ n18_ n19_; clear hb hbox hg; have hnb43 := NB177_152.out; have hnc43 := NB152_177.out; have hnb44 := NB177_159.out; have hnc44 := NB159_177.out; have hnb45 := NB177_165.out; have hnc45 := NB165_177.out; have hnb46 := NB177_171.out; have hnc46 := NB171_177.out; have hcz47_0 : w42.cell? ⟨gb177, 0, none⟩ = some (.int .i64 0) := (blk_cell BK177.out 0).trans rfl; have hcz47_1 : w42.cell? ⟨gb177, 1, none⟩ = some (.slice none 0 0) := (blk_cell BK177.out 1).trans rfl; have hfz47_0 := blk_frozen BK177.out 0; have hfz47_1 := blk_frozen BK177.out 1; obtain ⟨Ao48, co48, eo48⟩ := Kd.R_slice HO175.out; subst eo48; have hcz49_0 : w42.cell? ⟨gb159, 0, none⟩ = some (.int .i64 t155) := (blk_cell BK159.out 0).trans rfl; have hcz49_1 : w42.cell? ⟨gb159, 1, none⟩ = some (.slice Ao24 t156.length co24) := (blk_cell BK159.out 1).trans rfl; have hfz49_0 := blk_frozen BK159.out 0; have hfz49_1 := blk_frozen BK159.out 1) | ((with_reducible refine gate_callee (f := 47) rfl ?_); refine goesL_ (some 41) rfl rfl Try.func47 (by kernel_rfl) rfl #[.agg #[.int .i64 t155, .slice Ao24 t156.length co24], .int .i64 a1] rfl (by (try simp only [List.map_toArray, List.map_cons, List.map_nil]); first | done | rfl | (simp only [List.length_drop, List.length_take]; rfl)) ?_; (with_reducible refine (feud_Merge.calls t155 _ _ t156 a1 t178 t179 t182 _ ?side1 ?side2 A14.out).mono ?_); (case side1 => refine (Kd.R_reads' (e := 43) (base := w.heap.size) (ok := fun k_ => (((True ∧ some k_ ≠ (.slice Ao31 t161.length co31 : Value).ownBlock) ∧ some k_ ≠ (.slice Ao39 t167.length co39 : Value).ownBlock) ∧ some k_ ≠ (.slice Ao48 t173.length co48 : Value).ownBlock)) (n := t156.length) (c := co24) ?_).2.2; exact (by (with_reducible repeat (first | apply Kd.R_alloc | apply Kd.R_drewN | apply Kd.R_drew)); exact (Kd.R_mono (Kd.R_far (p := ⟨gb177, 1, none⟩) (Kd.R_far (p := ⟨gb177, 0, none⟩) (Kd.R_types HO158.out BK177.out (by decide)) (fun _ hk => hk.2) (.int .i64 t172)) (fun _ hk => hk.2) (.slice Ao48 t173.length co48)) (fun _ h_ => h_.1)))); (case side2 => exact (Kd.R_reads' HO158.out).2.1); rintro e w50 ⟨v180, rfl, ho0, hb⟩; refine ⟨_, rfl, ?_⟩; have n0_ := Aside0.mk (Kd.R_elder' (by (with_reducible repeat (first | apply Kd.R_alloc | apply Kd.R_drewN | apply Kd.R_drew)); exact (Kd.R_mono (Kd.R_far (p := ⟨gb177, 1, none⟩) (Kd.R_far (p := ⟨gb177, 0, none⟩) (Kd.R_types HO158.out BK177.out (by decide)) (fun _ hk => hk.2) (.int .i64 t172)) (fun _ hk => hk.2) (.slice Ao48 t173.length co48)) (fun _ h_ => h_.1))) (Kd.R_base ho0) hb); have n1_ := Aside0.mk (Kd.R_elder' (by (with_reducible repeat (first | apply Kd.R_alloc | apply Kd.R_drewN | apply Kd.R_drew)); exact (Kd.R_mono (Kd.R_far (p := ⟨gb177, 1, none⟩) (Kd.R_far (p := ⟨gb177, 0, none⟩) (Kd.R_types HO163.out BK177.out (by decide)) (fun _ hk => hk.2) (.int .i64 t172)) (fun _ hk => hk.2) (.slice Ao48 t173.length co48)) (fun _ h_ => h_.1))) (Kd.R_base ho0) hb); have n2_ := Aside0.mk (Kd.R_elder' (by (with_reducible repeat (first | apply Kd.R_alloc | apply Kd.R_drewN | apply Kd.R_drew)); exact (Kd.R_mono (Kd.R_far (p := ⟨gb177, 1, none⟩) (Kd.R_far (p := ⟨gb177, 0, none⟩) (Kd.R_types HO169.out BK177.out (by decide)) (fun _ hk => hk.2) (.int .i64 t172)) (fun _ hk => hk.2) (.slice Ao48 t173.length co48)) (fun _ h_ => h_.1))) (Kd.R_base ho0) hb); have n3_ := Aside0.mk (Kd.R_elder' (by (with_reducible repeat (first | apply Kd.R_alloc | apply Kd.R_drewN | apply Kd.R_drew)); exact (Kd.R_mono (Kd.R_far (p := ⟨gb177, 1, none⟩) (Kd.R_far (p := ⟨gb177, 0, none⟩) (Kd.R_types HO175.out BK177.out (by decide)) (fun _ hk => hk.2) (.int .i64 t172)) (fun _ hk => hk.2) (.slice Ao48 t173.length co48)) (fun _ h_ => h_.1))) (Kd.R_base ho0) hb); have n4_ := Aside0.mk (Kd.R_lower (Kd.R_new' (Kd.R_new' (Kd.R_new' (Kd.R_new' ho0 (Kd.R_lt (by (with_reducible repeat (first | apply Kd.R_alloc | apply Kd.R_drewN | apply Kd.R_drew)); exact (Kd.R_mono (Kd.R_far (p := ⟨gb177, 1, none⟩) (Kd.R_far (p := ⟨gb177, 0, none⟩) (Kd.R_types HO158.out BK177.out (by decide)) (fun _ hk => hk.2) (.int .i64 t172)) (fun _ hk => hk.2) (.slice Ao48 t173.length co48)) (fun _ h_ => h_.1))))) (Kd.R_lt (by (with_reducible repeat (first | apply Kd.R_alloc | apply Kd.R_drewN | apply Kd.R_drew)); exact (Kd.R_mono (Kd.R_far (p := ⟨gb177, 1, none⟩) (Kd.R_far (p := ⟨gb177, 0, none⟩) (Kd.R_types HO163.out BK177.out (by decide)) (fun _ hk => hk.2) (.int .i64 t172)) (fun _ hk => hk.2) (.slice Ao48 t173.length co48)) (fun _ h_ => h_.1))))) (Kd.R_lt (by (with_reducible repeat (first | apply Kd.R_alloc | apply Kd.R_drewN | apply Kd.R_drew)); exact (Kd.R_mono (Kd.R_far (p := ⟨gb177, 1, none⟩) (Kd.R_far (p := ⟨gb177, 0, none⟩) (Kd.R_types HO169.out BK177.out (by decide)) (fun _ hk => hk.2) (.int .i64 t172)) (fun _ hk => hk.2) (.slice Ao48 t173.length co48)) (fun _ h_ => h_.1))))) (Kd.R_lt (by (with_reducible repeat (first | apply Kd.R_alloc | apply Kd.R_drewN | apply Kd.R_drew)); exact (Kd.R_mono (Kd.R_far (p := ⟨gb177, 1, none⟩) (Kd.R_far (p := ⟨gb177, 0, none⟩) (Kd.R_types HO175.out BK177.out (by decide)) (fun _ hk => hk.2) (.int .i64 t172)) (fun _ hk => hk.2) (.slice Ao48 t173.length co48)) (fun _ h_ => h_.1))))) (below_size (by repeat (first | (with_reducible first | exact HB.out | apply below_alloc | apply pw_below_drewN | apply below_drew1 | refine below_set ?_ GE152.out | refine below_set ?_ GE159.out | refine below_set ?_ GE165.out | refine below_set ?_ GE171.out | refine below_set ?_ GE177.out) | exact HB.out)))); have n5_ := Aside0.mk (blk_below (g := gb152) (o := .cells #[.int .i64 a0_0, .slice A0_1 l0_1.length c0_1] 24 (0, 0)) (by (with_reducible repeat (first | refine blk_drewN ?_ _ | refine blk_drew ?_ | refine blk_alloc ?_ _)); refine blk_far ?_ NB152_177.out _; (with_reducible repeat (first | refine blk_drewN ?_ _ | refine blk_drew ?_ | refine blk_alloc ?_ _)); refine blk_far ?_ NB152_177.out _; (with_reducible repeat (first | refine blk_drewN ?_ _ | refine blk_drew ?_ | refine blk_alloc ?_ _)); exact BK152.out) hb); have n6_ := Aside0.mk (blk_below (g := gb159) (o := .cells #[.int .i64 t155, .slice Ao24 t156.length co24] 24 (0, 0)) (by (with_reducible repeat (first | refine blk_drewN ?_ _ | refine blk_drew ?_ | refine blk_alloc ?_ _)); refine blk_far ?_ NB159_177.out _; (with_reducible repeat (first | refine blk_drewN ?_ _ | refine blk_drew ?_ | refine blk_alloc ?_ _)); refine blk_far ?_ NB159_177.out _; (with_reducible repeat (first | refine blk_drewN ?_ _ | refine blk_drew ?_ | refine blk_alloc ?_ _)); exact BK159.out) hb); have n7_ := Aside0.mk (blk_below (g := gb165) (o := .cells #[.int .i64 t160, .slice Ao31 t161.length co31] 24 (0, 0)) (by (with_reducible repeat (first | refine blk_drewN ?_ _ | refine blk_drew ?_ | refine blk_alloc ?_ _)); refine blk_far ?_ NB165_177.out _; (with_reducible repeat (first | refine blk_drewN ?_ _ | refine blk_drew ?_ | refine blk_alloc ?_ _)); refine blk_far ?_ NB165_177.out _; (with_reducible repeat (first | refine blk_drewN ?_ _ | refine blk_drew ?_ | refine blk_alloc ?_ _)); exact BK165.out) hb); have n8_ := Aside0.mk (blk_below (g := gb171) (o := .cells #[.int .i64 t166, .slice Ao39 t167.length co39] 24 (0, 0)) (by (with_reducible repeat (first | refine blk_drewN ?_ _ | refine blk_drew ?_ | refine blk_alloc ?_ _)); refine blk_far ?_ NB171_177.out _; (with_reducible repeat (first | refine blk_drewN ?_ _ | refine blk_drew ?_ | refine blk_alloc ?_ _)); refine blk_far ?_ NB171_177.out _; (with_reducible repeat (first | refine blk_drewN ?_ _ | refine blk_drew ?_ | refine blk_alloc ?_ _)); exact BK171.out) hb); have n9_ := Aside0.mk (blk_below (g := gb177) (o := .cells #[.int .i64 t172, .slice Ao48 t173.length co48] 24 (0, 0)) (by (with_reducible repeat (first | refine blk_drewN ?_ _ | refine blk_drew ?_ | refine blk_alloc ?_ _)); refine blk_put (cs := #[.int .i64 t172, .slice none 0 0]) ?_ 1 _ rfl; (with_reducible repeat (first | refine blk_drewN ?_ _ | refine blk_drew ?_ | refine blk_alloc ?_ _)); refine blk_put (cs := #[.int .i64 0, .slice none 0 0]) ?_ 0 _ rfl; (with_reducible repeat (first | refine blk_drewN ?_ _ | refine blk_drew ?_ | refine blk_alloc ?_ _)); exact BK177.out) hb); have n10_ := Aside0.mk (below_step (by repeat (first | (with_reducible first | exact HB.out | apply below_alloc | apply pw_below_drewN | apply below_drew1 | refine below_set ?_ GE152.out | refine below_set ?_ GE159.out | refine below_set ?_ GE165.out | refine below_set ?_ GE171.out | refine below_set ?_ GE177.out) | exact HB.out)) hb); clear HO158; clear HO163; clear HO169; clear HO175; clear BK152; clear BK159; clear BK165; clear BK171; clear BK177; clear HB; have HO158 := n0_; have HO163 := n1_; have HO169 := n2_; have HO175 := n3_; have HO181 := n4_; have BK152 := n5_; have BK159 := n6_; have BK165 := n7_; have BK171 := n8_; have BK177 := n9_; have HB := n10_; clear n0_ n1_ n2_ n3_ n4_ n5_ n6_ n7_ n8_ n9_ n10_; (try clear hb); (try clear hb2); (try clear hk); (try clear hi); (try clear ho0)) | ((with_reducible refine gate_dst (N := 12) rfl ?_); refine box_event ?hg (N := 12) ?hd (cs := #[.int .i64 0, .slice none 0 0]) (t := 24) ?hr ?_; (case hd => rfl); (case hg => rfl); (case hr => first | (go_simp; done) | (go_simp; rfl)); intro gb183 hg w51 hbox hb; have n0_ := Aside0.mk (Kd.R_below (by (with_reducible repeat (first | apply Kd.R_alloc | apply Kd.R_drewN | apply Kd.R_drew)); exact HO158.out) hb); have n1_ := Aside0.mk (Kd.R_below (by (with_reducible repeat (first | apply Kd.R_alloc | apply Kd.R_drewN | apply Kd.R_drew)); exact HO163.out) hb); have n2_ := Aside0.mk (Kd.R_below (by (with_reducible repeat (first | apply Kd.R_alloc | apply Kd.R_drewN | apply Kd.R_drew)); exact HO169.out) hb); have n3_ := Aside0.mk (Kd.R_below (by (with_reducible repeat (first | apply Kd.R_alloc | apply Kd.R_drewN | apply Kd.R_drew)); exact HO175.out) hb); have n4_ := Aside0.mk (Kd.R_below (by (with_reducible repeat (first | apply Kd.R_alloc | apply Kd.R_drewN | apply Kd.R_drew)); exact HO181.out) hb); have n5_ := Aside0.mk (blk_below (g := gb152) (o := .cells #[.int .i64 a0_0, .slice A0_1 l0_1.length c0_1] 24 (0, 0)) (by (with_reducible repeat (first | refine blk_drewN ?_ _ | refine blk_drew ?_ | refine blk_alloc ?_ _)); exact BK152.out) hb); have n6_ := Aside0.mk (blk_below (g := gb159) (o := .cells #[.int .i64 t155, .slice Ao24 t156.length co24] 24 (0, 0)) (by (with_reducible repeat (first | refine blk_drewN ?_ _ | refine blk_drew ?_ | refine blk_alloc ?_ _)); exact BK159.out) hb); have n7_ := Aside0.mk (blk_below (g := gb165) (o := .cells #[.int .i64 t160, .slice Ao31 t161.length co31] 24 (0, 0)) (by (with_reducible repeat (first | refine blk_drewN ?_ _ | refine blk_drew ?_ | refine blk_alloc ?_ _)); exact BK165.out) hb); have n8_ := Aside0.mk (blk_below (g := gb171) (o := .cells #[.int .i64 t166, .slice Ao39 t167.length co39] 24 (0, 0)) (by (with_reducible repeat (first | refine blk_drewN ?_ _ | refine blk_drew ?_ | refine blk_alloc ?_ _)); exact BK171.out) hb); have n9_ := Aside0.mk (blk_below (g := gb177) (o := .cells #[.int .i64 t172, .slice Ao48 t173.length co48] 24 (0, 0)) (by (with_reducible repeat (first | refine blk_drewN ?_ _ | refine blk_drew ?_ | refine blk_alloc ?_ _)); exact BK177.out) hb); have n10_ := Aside0.mk (below_step (by repeat (first | (with_reducible first | exact HB.out | apply below_alloc | apply pw_below_drewN | apply below_drew1 | refine below_set ?_ GE152.out | refine below_set ?_ GE159.out | refine below_set ?_ GE165.out | refine below_set ?_ GE171.out | refine below_set ?_ GE177.out) | exact HB.out)) hb); have n11_ := Aside0.mk (hbox); have n12_ := Aside0.mk ((by rw [hg]; exact (below_size (by repeat (first | (with_reducible first | exact HB.out | apply below_alloc | apply pw_below_drewN | apply below_drew1 | refine below_set ?_ GE152.out | refine below_set ?_ GE159.out | refine below_set ?_ GE165.out | refine below_set ?_ GE171.out | refine below_set ?_ GE177.out) | exact HB.out))) : w.heap.size ≤ gb183)); have n13_ := Aside0.mk ((by rw [hg]; exact (below_size (by repeat (first | (with_reducible first | exact HB.out | apply below_alloc | apply pw_below_drewN | apply below_drew1 | refine below_set ?_ GE152.out | refine below_set ?_ GE159.out | refine below_set ?_ GE165.out | refine below_set ?_ GE171.out | refine below_set ?_ GE177.out) | exact HB.out))) : w.heap.size ≤ gb183)); have n14_ := Aside0.mk ((by rw [hg]; exact Nat.ne_of_lt (blk_lt (g := gb152) (o := .cells #[.int .i64 a0_0, .slice A0_1 l0_1.length c0_1] 24 (0, 0)) (by (with_reducible repeat (first | refine blk_drewN ?_ _ | refine blk_drew ?_ | refine blk_alloc ?_ _)); exact BK152.out)) : gb152 ≠ gb183)); have n15_ := Aside0.mk ((by rw [hg]; exact Nat.ne_of_gt (blk_lt (g := gb152) (o := .cells #[.int .i64 a0_0, .slice A0_1 l0_1.length c0_1] 24 (0, 0)) (by (with_reducible repeat (first | refine blk_drewN ?_ _ | refine blk_drew ?_ | refine blk_alloc ?_ _)); exact BK152.out)) : gb183 ≠ gb152)); have n16_ := Aside0.mk ((by rw [hg]; exact Nat.ne_of_lt (blk_lt (g := gb159) (o := .cells #[.int .i64 t155, .slice Ao24 t156.length co24] 24 (0, 0)) (by (with_reducible repeat (first | refine blk_drewN ?_ _ | refine blk_drew ?_ | refine blk_alloc ?_ _)); exact BK159.out)) : gb159 ≠ gb183)); have n17_ := Aside0.mk ((by rw [hg]; exact Nat.ne_of_gt (blk_lt (g := gb159) (o := .cells #[.int .i64 t155, .slice Ao24 t156.length co24] 24 (0, 0)) (by (with_reducible repeat (first | refine blk_drewN ?_ _ | refine blk_drew ?_ | refine blk_alloc ?_ _)); exact BK159.out)) : gb183 ≠ gb159)); have n18_ := Aside0.mk ((by rw [hg]; exact Nat.ne_of_lt (blk_lt (g := gb165) (o := .cells #[.int .i64 t160, .slice Ao31 t161.length co31] 24 (0, 0)) (by (with_reducible repeat (first | refine blk_drewN ?_ _ | refine blk_drew ?_ | refine blk_alloc ?_ _)); exact BK165.out)) : gb165 ≠ gb183)); have n19_ := Aside0.mk ((by rw [hg]; exact Nat.ne_of_gt (blk_lt (g := gb165) (o := .cells #[.int .i64 t160, .slice Ao31 t161.length co31] 24 (0, 0)) (by (with_reducible repeat (first | refine blk_drewN ?_ _ | refine blk_drew ?_ | refine blk_alloc ?_ _)); exact BK165.out)) : gb183 ≠ gb165)); have n20_ := Aside0.mk ((by rw [hg]; exact Nat.ne_of_lt (blk_lt (g := gb171) (o := .cells #[.int .i64 t166, .slice Ao39 t167.length co39] 24 (0, 0)) (by (with_reducible repeat (first | refine blk_drewN ?_ _ | refine blk_drew ?_ | refine blk_alloc ?_ _)); exact BK171.out)) : gb171 ≠ gb183)); have n21_ := Aside0.mk ((by rw [hg]; exact Nat.ne_of_gt (blk_lt (g := gb171) (o := .cells #[.int .i64 t166, .slice Ao39 t167.length co39] 24 (0, 0)) (by (with_reducible repeat (first | refine blk_drewN ?_ _ | refine blk_drew ?_ | refine blk_alloc ?_ _)); exact BK171.out)) : gb183 ≠ gb171)); have n22_ := Aside0.mk ((by rw [hg]; exact Nat.ne_of_lt (blk_lt (g := gb177) (o := .cells #[.int .i64 t172, .slice Ao48 t173.length co48] 24 (0, 0)) (by (with_reducible repeat (first | refine blk_drewN ?_ _ | refine blk_drew ?_ | refine blk_alloc ?_ _)); exact BK177.out)) : gb177 ≠ gb183)); have n23_ := Aside0.mk ((by rw [hg]; exact Nat.ne_of_gt (blk_lt (g := gb177) (o := .cells #[.int .i64 t172, .slice Ao48 t173.length co48] 24 (0, 0)) (by (with_reducible repeat (first | refine blk_drewN ?_ _ | refine blk_drew ?_ | refine blk_alloc ?_ _)); exact BK177.out)) : gb183 ≠ gb177)); clear HO158; clear HO163; clear HO169; clear HO175; clear HO181; clear BK152; clear BK159; clear BK165; clear BK171; clear BK177; clear HB; have HO158 := n0_; have HO163 := n1_; have HO169 := n2_; have HO175 := n3_; have HO181 := n4_; have BK152 := n5_; have BK159 := n6_; have BK165 := n7_; have BK171 := n8_; have BK177 := n9_; have HB := n10_; have BK183 := n11_; have GW183 := n12_; have GE183 := n13_; have NB152_183 := n14_; have NB183_152 := n15_; have NB159_183 := n16_; have NB183_159 := n17_; have NB165_183 := n18_; have NB183_165 := n19_; have NB171_183 := n20_; have NB183_171 := n21_; have NB177_183 := n22_; have NB183_177 := n23_; clear n0_ n1_ n2_ n3_ n4_ n5_ n6_ n7_ n8_ n9_ n10_ n11_ n12_ n13_ n14_ n15_ n16_ n17_ n18_ n19_ n20_ n21_ n22_ n23_; clear hb hbox hg; have hnb52 := NB183_152.out; have hnc52 := NB152_183.out; have hnb53 := NB183_159.out; have hnc53 := NB159_183.out; have hnb54 := NB183_165.out; have hnc54 := NB165_183.out; have hnb55 := NB183_171.out; have hnc55 := NB171_183.out; have hnb56 := NB183_177.out; have hnc56 := NB177_183.out; have hcz57_0 : w51.cell? ⟨gb183, 0, none⟩ = some (.int .i64 0) := (blk_cell BK183.out 0).trans rfl; have hcz57_1 : w51.cell? ⟨gb183, 1, none⟩ = some (.slice none 0 0) := (blk_cell BK183.out 1).trans rfl; have hfz57_0 := blk_frozen BK183.out 0; have hfz57_1 := blk_frozen BK183.out 1; obtain ⟨Ao58, co58, eo58⟩ := Kd.R_slice HO181.out; subst eo58))
    (try simp only [Act.put, List.setIfInBounds_toArray, List.set_cons_zero, List.set_cons_succ])
    go_cut [63] (fun v63 wc => ∃ (kq : Nat) (x63_14 : Bool), v63 = .bool x63_14 ∧ Aside0 (verditerlaw03_feudDrops.j0 kq x63_14 a0_0 l0_1 t155 t156 t172 t173 = some r) ∧ Aside0 (kq ≤ k) ∧ Aside0 (Kd.R k43 43 wc w.heap.size (fun k_ => some k_ ≠ ((.slice Ao31 t161.length co31) : Value).ownBlock ∧ some k_ ≠ ((.slice Ao39 t167.length co39) : Value).ownBlock ∧ some k_ ≠ ((.slice Ao48 t173.length co48) : Value).ownBlock ∧ some k_ ≠ ((.slice Ao58 t179.length co58) : Value).ownBlock) (.slice Ao24 t156.length co24) t156) ∧ Aside0 (Kd.R k43 43 wc w.heap.size (fun k_ => some k_ ≠ ((.slice Ao24 t156.length co24) : Value).ownBlock ∧ some k_ ≠ ((.slice Ao39 t167.length co39) : Value).ownBlock ∧ some k_ ≠ ((.slice Ao48 t173.length co48) : Value).ownBlock ∧ some k_ ≠ ((.slice Ao58 t179.length co58) : Value).ownBlock) (.slice Ao31 t161.length co31) t161) ∧ Aside0 (Kd.R k43 43 wc w.heap.size (fun k_ => some k_ ≠ ((.slice Ao24 t156.length co24) : Value).ownBlock ∧ some k_ ≠ ((.slice Ao31 t161.length co31) : Value).ownBlock ∧ some k_ ≠ ((.slice Ao48 t173.length co48) : Value).ownBlock ∧ some k_ ≠ ((.slice Ao58 t179.length co58) : Value).ownBlock) (.slice Ao39 t167.length co39) t167) ∧ Aside0 (Kd.R k43 43 wc w.heap.size (fun k_ => some k_ ≠ ((.slice Ao24 t156.length co24) : Value).ownBlock ∧ some k_ ≠ ((.slice Ao31 t161.length co31) : Value).ownBlock ∧ some k_ ≠ ((.slice Ao39 t167.length co39) : Value).ownBlock ∧ some k_ ≠ ((.slice Ao58 t179.length co58) : Value).ownBlock) (.slice Ao48 t173.length co48) t173) ∧ Aside0 (Kd.R k43 43 wc w.heap.size (fun k_ => some k_ ≠ ((.slice Ao24 t156.length co24) : Value).ownBlock ∧ some k_ ≠ ((.slice Ao31 t161.length co31) : Value).ownBlock ∧ some k_ ≠ ((.slice Ao39 t167.length co39) : Value).ownBlock ∧ some k_ ≠ ((.slice Ao48 t173.length co48) : Value).ownBlock) (.slice Ao58 t179.length co58) t179) ∧ Aside0 (wc.heap[gb152]? = some (.cells #[.int .i64 a0_0, (.slice A0_1 l0_1.length c0_1)] 24 (0, 0))) ∧ Aside0 (wc.heap[gb159]? = some (.cells #[.int .i64 t155, (.slice Ao24 t156.length co24)] 24 (0, 0))) ∧ Aside0 (wc.heap[gb165]? = some (.cells #[.int .i64 t160, (.slice Ao31 t161.length co31)] 24 (0, 0))) ∧ Aside0 (wc.heap[gb171]? = some (.cells #[.int .i64 t166, (.slice Ao39 t167.length co39)] 24 (0, 0))) ∧ Aside0 (wc.heap[gb177]? = some (.cells #[.int .i64 t172, (.slice Ao48 t173.length co48)] 24 (0, 0))) ∧ Aside0 (wc.heap[gb183]? = some (.cells #[.int .i64 t178, (.slice Ao58 t179.length co58)] 24 (0, 0))) ∧ Aside0 (Below w.heap.size w wc))
    case first =>
      have H := HC15.out
      clear HC15
      replace H := Option.bind_eq_some_iff.mp H
      obtain ⟨t184, A590, H⟩ := H
      replace H : (if t184 = true then (if t176 = t164 then ((verditerref03_Same.f k t178 t179 t166 t167).bind fun t185 => (if t185 = true then (verditerlaw03_feudDrops.j0 k (t182 != t170) a0_0 l0_1 t155 t156 t172 t173) else (verditerlaw03_feudDrops.j0 k true a0_0 l0_1 t155 t156 t172 t173))) else (verditerlaw03_feudDrops.j0 k true a0_0 l0_1 t155 t156 t172 t173)) else (verditerlaw03_feudDrops.j0 k true a0_0 l0_1 t155 t156 t172 t173)) = some r := H
      have A59 := Aside0.mk A590
      clear A590
      by_cases c60 : t184 = true
      · subst c60
        have H1 : (if t176 = t164 then ((verditerref03_Same.f k t178 t179 t166 t167).bind fun t185 => (if t185 = true then (verditerlaw03_feudDrops.j0 k (t182 != t170) a0_0 l0_1 t155 t156 t172 t173) else (verditerlaw03_feudDrops.j0 k true a0_0 l0_1 t155 t156 t172 t173))) else (verditerlaw03_feudDrops.j0 k true a0_0 l0_1 t155 t156 t172 t173)) = some r := by rw [if_pos rfl] at H; exact H
        clear H
        have H := H1
        clear H1
        by_cases c61 : t176 = t164
        · rw [if_pos c61] at H
          have c61b0 : (t176 == t164) = true := beq_iff_eq.mpr c61
          have c61b1 : (t176 != t164) = false := bne_eq_false_iff_eq.mpr c61
          clear c61
          (first | rw [c61b0] | (simp only [i64_w, i32_w]; rw [c61b0]) | skip)
          replace H := Option.bind_eq_some_iff.mp H
          obtain ⟨t185, A620, H⟩ := H
          replace H : (if t185 = true then (verditerlaw03_feudDrops.j0 k (t182 != t170) a0_0 l0_1 t155 t156 t172 t173) else (verditerlaw03_feudDrops.j0 k true a0_0 l0_1 t155 t156 t172 t173)) = some r := H
          have A62 := Aside0.mk A620
          clear A620
          by_cases c63 : t185 = true
          · subst c63
            have H1 : (verditerlaw03_feudDrops.j0 k (t182 != t170) a0_0 l0_1 t155 t156 t172 t173) = some r := by rw [if_pos rfl] at H; exact H
            clear H
            have H := H1
            clear H1
            have H' := Aside0.mk H
            clear H
            have hnb64 := NB177_152.out
            have hnc64 := NB152_177.out
            have hnb65 := NB177_159.out
            have hnc65 := NB159_177.out
            have hnb66 := NB177_165.out
            have hnc66 := NB165_177.out
            have hnb67 := NB177_171.out
            have hnc67 := NB171_177.out
            have hnb68 := NB177_183.out
            have hnc68 := NB183_177.out
            have hcz69_0 : w51.cell? ⟨gb177, 0, none⟩ = some (.int .i64 t172) := (blk_cell BK177.out 0).trans rfl
            have hcz69_1 : w51.cell? ⟨gb177, 1, none⟩ = some (.slice Ao48 t173.length co48) := (blk_cell BK177.out 1).trans rfl
            have hfz69_0 := blk_frozen BK177.out 0
            have hfz69_1 := blk_frozen BK177.out 1
            have hnb70 := NB165_152.out
            have hnc70 := NB152_165.out
            have hnb71 := NB165_159.out
            have hnc71 := NB159_165.out
            have hnb72 := NB165_171.out
            have hnc72 := NB171_165.out
            have hnb73 := NB165_183.out
            have hnc73 := NB183_165.out
            have hcz74_0 : w51.cell? ⟨gb165, 0, none⟩ = some (.int .i64 t160) := (blk_cell BK165.out 0).trans rfl
            have hcz74_1 : w51.cell? ⟨gb165, 1, none⟩ = some (.slice Ao31 t161.length co31) := (blk_cell BK165.out 1).trans rfl
            have hfz74_0 := blk_frozen BK165.out 0
            have hfz74_1 := blk_frozen BK165.out 1
            go_wp2_with (first | ((with_reducible refine gate_callee (f := 48) rfl ?_); refine goesL_ (some 46) rfl rfl Try.func48 (by kernel_rfl) rfl #[.agg #[.int .i64 t172, .slice Ao48 t173.length co48], .agg #[.int .i64 t160, .slice Ao31 t161.length co31]] rfl (by (try simp only [List.map_toArray, List.map_cons, List.map_nil]); first | done | rfl | (simp only [List.length_drop, List.length_take]; rfl)) ?_; (with_reducible refine (verditerref03_Same.calls k t172 _ _ t173 t160 _ _ t161 true _ ?side1 ?side2 ?side3 ?side4 A59.out).mono ?_); (case side1 => refine (Kd.R_reads' (e := 43) (base := w.heap.size) (ok := fun k_ => ((((True ∧ some k_ ≠ (.slice Ao24 t156.length co24 : Value).ownBlock) ∧ some k_ ≠ (.slice Ao31 t161.length co31 : Value).ownBlock) ∧ some k_ ≠ (.slice Ao39 t167.length co39 : Value).ownBlock) ∧ some k_ ≠ (.slice Ao58 t179.length co58 : Value).ownBlock)) (n := t173.length) (c := co48) ?_).2.2; exact (by (with_reducible repeat (first | apply Kd.R_alloc | apply Kd.R_drewN | apply Kd.R_drew)); exact (Kd.R_mono (Kd.R_far (p := ⟨gb183, 1, none⟩) (Kd.R_far (p := ⟨gb183, 0, none⟩) (Kd.R_types HO175.out BK183.out (by decide)) (fun _ hk => hk.2) (.int .i64 t178)) (fun _ hk => hk.2) (.slice Ao58 t179.length co58)) (fun _ h_ => h_.1)))); (case side2 => exact (Kd.R_reads' HO175.out).2.1); (case side3 => refine (Kd.R_reads' (e := 43) (base := w.heap.size) (ok := fun k_ => ((((True ∧ some k_ ≠ (.slice Ao24 t156.length co24 : Value).ownBlock) ∧ some k_ ≠ (.slice Ao39 t167.length co39 : Value).ownBlock) ∧ some k_ ≠ (.slice Ao48 t173.length co48 : Value).ownBlock) ∧ some k_ ≠ (.slice Ao58 t179.length co58 : Value).ownBlock)) (n := t161.length) (c := co31) ?_).2.2; exact (by (with_reducible repeat (first | apply Kd.R_alloc | apply Kd.R_drewN | apply Kd.R_drew)); exact (Kd.R_mono (Kd.R_far (p := ⟨gb183, 1, none⟩) (Kd.R_far (p := ⟨gb183, 0, none⟩) (Kd.R_types HO163.out BK183.out (by decide)) (fun _ hk => hk.2) (.int .i64 t178)) (fun _ hk => hk.2) (.slice Ao58 t179.length co58)) (fun _ h_ => h_.1)))); (case side4 => exact (Kd.R_reads' HO163.out).2.1); rintro e w75 ⟨rfl, hb⟩; refine ⟨_, rfl, ?_⟩; have n0_ := Aside0.mk (Kd.R_below (by (with_reducible repeat (first | apply Kd.R_alloc | apply Kd.R_drewN | apply Kd.R_drew)); exact (Kd.R_mono (Kd.R_far (p := ⟨gb183, 1, none⟩) (Kd.R_far (p := ⟨gb183, 0, none⟩) (Kd.R_types HO158.out BK183.out (by decide)) (fun _ hk => hk.2) (.int .i64 t178)) (fun _ hk => hk.2) (.slice Ao58 t179.length co58)) (fun _ h_ => h_.1))) hb); have n1_ := Aside0.mk (Kd.R_below (by (with_reducible repeat (first | apply Kd.R_alloc | apply Kd.R_drewN | apply Kd.R_drew)); exact (Kd.R_mono (Kd.R_far (p := ⟨gb183, 1, none⟩) (Kd.R_far (p := ⟨gb183, 0, none⟩) (Kd.R_types HO163.out BK183.out (by decide)) (fun _ hk => hk.2) (.int .i64 t178)) (fun _ hk => hk.2) (.slice Ao58 t179.length co58)) (fun _ h_ => h_.1))) hb); have n2_ := Aside0.mk (Kd.R_below (by (with_reducible repeat (first | apply Kd.R_alloc | apply Kd.R_drewN | apply Kd.R_drew)); exact (Kd.R_mono (Kd.R_far (p := ⟨gb183, 1, none⟩) (Kd.R_far (p := ⟨gb183, 0, none⟩) (Kd.R_types HO169.out BK183.out (by decide)) (fun _ hk => hk.2) (.int .i64 t178)) (fun _ hk => hk.2) (.slice Ao58 t179.length co58)) (fun _ h_ => h_.1))) hb); have n3_ := Aside0.mk (Kd.R_below (by (with_reducible repeat (first | apply Kd.R_alloc | apply Kd.R_drewN | apply Kd.R_drew)); exact (Kd.R_mono (Kd.R_far (p := ⟨gb183, 1, none⟩) (Kd.R_far (p := ⟨gb183, 0, none⟩) (Kd.R_types HO175.out BK183.out (by decide)) (fun _ hk => hk.2) (.int .i64 t178)) (fun _ hk => hk.2) (.slice Ao58 t179.length co58)) (fun _ h_ => h_.1))) hb); have n4_ := Aside0.mk (Kd.R_below (by (with_reducible repeat (first | apply Kd.R_alloc | apply Kd.R_drewN | apply Kd.R_drew)); exact (Kd.R_mono (Kd.R_far (p := ⟨gb183, 1, none⟩) (Kd.R_far (p := ⟨gb183, 0, none⟩) (Kd.R_types HO181.out BK183.out (by decide)) (fun _ hk => hk.2) (.int .i64 t178)) (fun _ hk => hk.2) (.slice Ao58 t179.length co58)) (fun _ h_ => h_.1))) hb); have n5_ := Aside0.mk (blk_below (g := gb152) (o := .cells #[.int .i64 a0_0, .slice A0_1 l0_1.length c0_1] 24 (0, 0)) (by (with_reducible repeat (first | refine blk_drewN ?_ _ | refine blk_drew ?_ | refine blk_alloc ?_ _)); refine blk_far ?_ NB152_183.out _; (with_reducible repeat (first | refine blk_drewN ?_ _ | refine blk_drew ?_ | refine blk_alloc ?_ _)); refine blk_far ?_ NB152_183.out _; (with_reducible repeat (first | refine blk_drewN ?_ _ | refine blk_drew ?_ | refine blk_alloc ?_ _)); exact BK152.out) hb); have n6_ := Aside0.mk (blk_below (g := gb159) (o := .cells #[.int .i64 t155, .slice Ao24 t156.length co24] 24 (0, 0)) (by (with_reducible repeat (first | refine blk_drewN ?_ _ | refine blk_drew ?_ | refine blk_alloc ?_ _)); refine blk_far ?_ NB159_183.out _; (with_reducible repeat (first | refine blk_drewN ?_ _ | refine blk_drew ?_ | refine blk_alloc ?_ _)); refine blk_far ?_ NB159_183.out _; (with_reducible repeat (first | refine blk_drewN ?_ _ | refine blk_drew ?_ | refine blk_alloc ?_ _)); exact BK159.out) hb); have n7_ := Aside0.mk (blk_below (g := gb165) (o := .cells #[.int .i64 t160, .slice Ao31 t161.length co31] 24 (0, 0)) (by (with_reducible repeat (first | refine blk_drewN ?_ _ | refine blk_drew ?_ | refine blk_alloc ?_ _)); refine blk_far ?_ NB165_183.out _; (with_reducible repeat (first | refine blk_drewN ?_ _ | refine blk_drew ?_ | refine blk_alloc ?_ _)); refine blk_far ?_ NB165_183.out _; (with_reducible repeat (first | refine blk_drewN ?_ _ | refine blk_drew ?_ | refine blk_alloc ?_ _)); exact BK165.out) hb); have n8_ := Aside0.mk (blk_below (g := gb171) (o := .cells #[.int .i64 t166, .slice Ao39 t167.length co39] 24 (0, 0)) (by (with_reducible repeat (first | refine blk_drewN ?_ _ | refine blk_drew ?_ | refine blk_alloc ?_ _)); refine blk_far ?_ NB171_183.out _; (with_reducible repeat (first | refine blk_drewN ?_ _ | refine blk_drew ?_ | refine blk_alloc ?_ _)); refine blk_far ?_ NB171_183.out _; (with_reducible repeat (first | refine blk_drewN ?_ _ | refine blk_drew ?_ | refine blk_alloc ?_ _)); exact BK171.out) hb); have n9_ := Aside0.mk (blk_below (g := gb177) (o := .cells #[.int .i64 t172, .slice Ao48 t173.length co48] 24 (0, 0)) (by (with_reducible repeat (first | refine blk_drewN ?_ _ | refine blk_drew ?_ | refine blk_alloc ?_ _)); refine blk_far ?_ NB177_183.out _; (with_reducible repeat (first | refine blk_drewN ?_ _ | refine blk_drew ?_ | refine blk_alloc ?_ _)); refine blk_far ?_ NB177_183.out _; (with_reducible repeat (first | refine blk_drewN ?_ _ | refine blk_drew ?_ | refine blk_alloc ?_ _)); exact BK177.out) hb); have n10_ := Aside0.mk (blk_below (g := gb183) (o := .cells #[.int .i64 t178, .slice Ao58 t179.length co58] 24 (0, 0)) (by (with_reducible repeat (first | refine blk_drewN ?_ _ | refine blk_drew ?_ | refine blk_alloc ?_ _)); refine blk_put (cs := #[.int .i64 t178, .slice none 0 0]) ?_ 1 _ rfl; (with_reducible repeat (first | refine blk_drewN ?_ _ | refine blk_drew ?_ | refine blk_alloc ?_ _)); refine blk_put (cs := #[.int .i64 0, .slice none 0 0]) ?_ 0 _ rfl; (with_reducible repeat (first | refine blk_drewN ?_ _ | refine blk_drew ?_ | refine blk_alloc ?_ _)); exact BK183.out) hb); have n11_ := Aside0.mk (below_step (by repeat (first | (with_reducible first | exact HB.out | apply below_alloc | apply pw_below_drewN | apply below_drew1 | refine below_set ?_ GE152.out | refine below_set ?_ GE159.out | refine below_set ?_ GE165.out | refine below_set ?_ GE171.out | refine below_set ?_ GE177.out | refine below_set ?_ GE183.out) | exact HB.out)) hb); clear HO158; clear HO163; clear HO169; clear HO175; clear HO181; clear BK152; clear BK159; clear BK165; clear BK171; clear BK177; clear BK183; clear HB; have HO158 := n0_; have HO163 := n1_; have HO169 := n2_; have HO175 := n3_; have HO181 := n4_; have BK152 := n5_; have BK159 := n6_; have BK165 := n7_; have BK171 := n8_; have BK177 := n9_; have BK183 := n10_; have HB := n11_; clear n0_ n1_ n2_ n3_ n4_ n5_ n6_ n7_ n8_ n9_ n10_ n11_; (try clear hb); (try clear hb2); (try clear hk); (try clear hi); have hnb76 := NB183_152.out; have hnc76 := NB152_183.out; have hnb77 := NB183_159.out; have hnc77 := NB159_183.out; have hnb78 := NB183_171.out; have hnc78 := NB171_183.out; have hcz79_0 : w75.cell? ⟨gb183, 0, none⟩ = some (.int .i64 t178) := (blk_cell BK183.out 0).trans rfl; have hcz79_1 : w75.cell? ⟨gb183, 1, none⟩ = some (.slice Ao58 t179.length co58) := (blk_cell BK183.out 1).trans rfl; have hfz79_0 := blk_frozen BK183.out 0; have hfz79_1 := blk_frozen BK183.out 1; have hnb80 := NB171_152.out; have hnc80 := NB152_171.out; have hnb81 := NB171_159.out; have hnc81 := NB159_171.out; have hcz82_0 : w75.cell? ⟨gb171, 0, none⟩ = some (.int .i64 t166) := (blk_cell BK171.out 0).trans rfl; have hcz82_1 : w75.cell? ⟨gb171, 1, none⟩ = some (.slice Ao39 t167.length co39) := (blk_cell BK171.out 1).trans rfl; have hfz82_0 := blk_frozen BK171.out 0; have hfz82_1 := blk_frozen BK171.out 1) | (go_at_call 48; (with_reducible refine (verditerref03_Same.calls k t178 _ _ t179 t166 _ _ t167 true _ ?side1 ?side2 ?side3 ?side4 A62.out).mono ?_); (case side1 => repeat (first | exact (Kd.R_reads' HO181.out).2.2 | (with_reducible refine Kd.C_alloc ?_ _) | (with_reducible refine Kd.C_drewN ?_ _) | (with_reducible refine Kd.C_drew ?_))); (case side2 => exact (Kd.R_reads' HO181.out).2.1); (case side3 => repeat (first | exact (Kd.R_reads' HO169.out).2.2 | (with_reducible refine Kd.C_alloc ?_ _) | (with_reducible refine Kd.C_drewN ?_ _) | (with_reducible refine Kd.C_drew ?_))); (case side4 => exact (Kd.R_reads' HO169.out).2.1); rintro e w83 ⟨rfl, hb⟩; have n0_ := Aside0.mk (Kd.R_below (by (with_reducible repeat (first | apply Kd.R_alloc | apply Kd.R_drewN | apply Kd.R_drew)); exact HO158.out) hb); have n1_ := Aside0.mk (Kd.R_below (by (with_reducible repeat (first | apply Kd.R_alloc | apply Kd.R_drewN | apply Kd.R_drew)); exact HO163.out) hb); have n2_ := Aside0.mk (Kd.R_below (by (with_reducible repeat (first | apply Kd.R_alloc | apply Kd.R_drewN | apply Kd.R_drew)); exact HO169.out) hb); have n3_ := Aside0.mk (Kd.R_below (by (with_reducible repeat (first | apply Kd.R_alloc | apply Kd.R_drewN | apply Kd.R_drew)); exact HO175.out) hb); have n4_ := Aside0.mk (Kd.R_below (by (with_reducible repeat (first | apply Kd.R_alloc | apply Kd.R_drewN | apply Kd.R_drew)); exact HO181.out) hb); have n5_ := Aside0.mk (blk_below (g := gb152) (o := .cells #[.int .i64 a0_0, .slice A0_1 l0_1.length c0_1] 24 (0, 0)) (by (with_reducible repeat (first | refine blk_drewN ?_ _ | refine blk_drew ?_ | refine blk_alloc ?_ _)); exact BK152.out) hb); have n6_ := Aside0.mk (blk_below (g := gb159) (o := .cells #[.int .i64 t155, .slice Ao24 t156.length co24] 24 (0, 0)) (by (with_reducible repeat (first | refine blk_drewN ?_ _ | refine blk_drew ?_ | refine blk_alloc ?_ _)); exact BK159.out) hb); have n7_ := Aside0.mk (blk_below (g := gb165) (o := .cells #[.int .i64 t160, .slice Ao31 t161.length co31] 24 (0, 0)) (by (with_reducible repeat (first | refine blk_drewN ?_ _ | refine blk_drew ?_ | refine blk_alloc ?_ _)); exact BK165.out) hb); have n8_ := Aside0.mk (blk_below (g := gb171) (o := .cells #[.int .i64 t166, .slice Ao39 t167.length co39] 24 (0, 0)) (by (with_reducible repeat (first | refine blk_drewN ?_ _ | refine blk_drew ?_ | refine blk_alloc ?_ _)); exact BK171.out) hb); have n9_ := Aside0.mk (blk_below (g := gb177) (o := .cells #[.int .i64 t172, .slice Ao48 t173.length co48] 24 (0, 0)) (by (with_reducible repeat (first | refine blk_drewN ?_ _ | refine blk_drew ?_ | refine blk_alloc ?_ _)); exact BK177.out) hb); have n10_ := Aside0.mk (blk_below (g := gb183) (o := .cells #[.int .i64 t178, .slice Ao58 t179.length co58] 24 (0, 0)) (by (with_reducible repeat (first | refine blk_drewN ?_ _ | refine blk_drew ?_ | refine blk_alloc ?_ _)); exact BK183.out) hb); have n11_ := Aside0.mk (below_step (by repeat (first | (with_reducible first | exact HB.out | apply below_alloc | apply pw_below_drewN | apply below_drew1 | refine below_set ?_ GE152.out | refine below_set ?_ GE159.out | refine below_set ?_ GE165.out | refine below_set ?_ GE171.out | refine below_set ?_ GE177.out | refine below_set ?_ GE183.out) | exact HB.out)) hb); clear HO158; clear HO163; clear HO169; clear HO175; clear HO181; clear BK152; clear BK159; clear BK165; clear BK171; clear BK177; clear BK183; clear HB; have HO158 := n0_; have HO163 := n1_; have HO169 := n2_; have HO175 := n3_; have HO181 := n4_; have BK152 := n5_; have BK159 := n6_; have BK165 := n7_; have BK171 := n8_; have BK177 := n9_; have BK183 := n10_; have HB := n11_; clear n0_ n1_ n2_ n3_ n4_ n5_ n6_ n7_ n8_ n9_ n10_ n11_; (try clear hb); (try clear hb2); (try clear hk); (try clear hi)))
            go_meet
            case rel => exact ⟨_, ((t182 != t170)), (by first | rfl | (simp; done) | (simp [*]; done)), H', ⟨by first | omega | exact Nat.le_refl _⟩, ⟨by (with_reducible repeat (first | apply Kd.R_alloc | apply Kd.R_drewN | apply Kd.R_drew)); exact Kd.R_mono HO158.out (fun _ hk => ⟨hk.1.1.1.2, ⟨hk.1.1.2, ⟨hk.1.2, hk.2⟩⟩⟩)⟩, ⟨by (with_reducible repeat (first | apply Kd.R_alloc | apply Kd.R_drewN | apply Kd.R_drew)); exact Kd.R_mono HO163.out (fun _ hk => ⟨hk.1.1.1.2, ⟨hk.1.1.2, ⟨hk.1.2, hk.2⟩⟩⟩)⟩, ⟨by (with_reducible repeat (first | apply Kd.R_alloc | apply Kd.R_drewN | apply Kd.R_drew)); exact Kd.R_mono HO169.out (fun _ hk => ⟨hk.1.1.1.2, ⟨hk.1.1.2, ⟨hk.1.2, hk.2⟩⟩⟩)⟩, ⟨by (with_reducible repeat (first | apply Kd.R_alloc | apply Kd.R_drewN | apply Kd.R_drew)); exact Kd.R_mono HO175.out (fun _ hk => ⟨hk.1.1.1.2, ⟨hk.1.1.2, ⟨hk.1.2, hk.2⟩⟩⟩)⟩, ⟨by (with_reducible repeat (first | apply Kd.R_alloc | apply Kd.R_drewN | apply Kd.R_drew)); exact Kd.R_mono HO181.out (fun _ hk => ⟨hk.1.1.1.2, ⟨hk.1.1.2, ⟨hk.1.2, hk.2⟩⟩⟩)⟩, ⟨by (with_reducible repeat (first | refine blk_drewN ?_ _ | refine blk_drew ?_ | refine blk_alloc ?_ _)); exact BK152.out⟩, ⟨by (with_reducible repeat (first | refine blk_drewN ?_ _ | refine blk_drew ?_ | refine blk_alloc ?_ _)); exact BK159.out⟩, ⟨by (with_reducible repeat (first | refine blk_drewN ?_ _ | refine blk_drew ?_ | refine blk_alloc ?_ _)); exact BK165.out⟩, ⟨by (with_reducible repeat (first | refine blk_drewN ?_ _ | refine blk_drew ?_ | refine blk_alloc ?_ _)); exact BK171.out⟩, ⟨by (with_reducible repeat (first | refine blk_drewN ?_ _ | refine blk_drew ?_ | refine blk_alloc ?_ _)); exact BK177.out⟩, ⟨by (with_reducible repeat (first | refine blk_drewN ?_ _ | refine blk_drew ?_ | refine blk_alloc ?_ _)); exact BK183.out⟩, ⟨by repeat (first | (with_reducible first | exact HB.out | apply below_alloc | apply pw_below_drewN | apply below_drew1 | refine below_set ?_ GE152.out | refine below_set ?_ GE159.out | refine below_set ?_ GE165.out | refine below_set ?_ GE171.out | refine below_set ?_ GE177.out | refine below_set ?_ GE183.out) | exact HB.out)⟩⟩
          · replace c63 := Bool.eq_false_iff.mpr c63
            subst c63
            have H1 : (verditerlaw03_feudDrops.j0 k true a0_0 l0_1 t155 t156 t172 t173) = some r := by rw [if_neg (show ¬ (false = true) by decide)] at H; exact H
            clear H
            have H := H1
            clear H1
            have H' := Aside0.mk H
            clear H
            have hnb84 := NB177_152.out
            have hnc84 := NB152_177.out
            have hnb85 := NB177_159.out
            have hnc85 := NB159_177.out
            have hnb86 := NB177_165.out
            have hnc86 := NB165_177.out
            have hnb87 := NB177_171.out
            have hnc87 := NB171_177.out
            have hnb88 := NB177_183.out
            have hnc88 := NB183_177.out
            have hcz89_0 : w51.cell? ⟨gb177, 0, none⟩ = some (.int .i64 t172) := (blk_cell BK177.out 0).trans rfl
            have hcz89_1 : w51.cell? ⟨gb177, 1, none⟩ = some (.slice Ao48 t173.length co48) := (blk_cell BK177.out 1).trans rfl
            have hfz89_0 := blk_frozen BK177.out 0
            have hfz89_1 := blk_frozen BK177.out 1
            have hnb90 := NB165_152.out
            have hnc90 := NB152_165.out
            have hnb91 := NB165_159.out
            have hnc91 := NB159_165.out
            have hnb92 := NB165_171.out
            have hnc92 := NB171_165.out
            have hnb93 := NB165_183.out
            have hnc93 := NB183_165.out
            have hcz94_0 : w51.cell? ⟨gb165, 0, none⟩ = some (.int .i64 t160) := (blk_cell BK165.out 0).trans rfl
            have hcz94_1 : w51.cell? ⟨gb165, 1, none⟩ = some (.slice Ao31 t161.length co31) := (blk_cell BK165.out 1).trans rfl
            have hfz94_0 := blk_frozen BK165.out 0
            have hfz94_1 := blk_frozen BK165.out 1
            go_wp2_with (first | ((with_reducible refine gate_callee (f := 48) rfl ?_); refine goesL_ (some 46) rfl rfl Try.func48 (by kernel_rfl) rfl #[.agg #[.int .i64 t172, .slice Ao48 t173.length co48], .agg #[.int .i64 t160, .slice Ao31 t161.length co31]] rfl (by (try simp only [List.map_toArray, List.map_cons, List.map_nil]); first | done | rfl | (simp only [List.length_drop, List.length_take]; rfl)) ?_; (with_reducible refine (verditerref03_Same.calls k t172 _ _ t173 t160 _ _ t161 true _ ?side1 ?side2 ?side3 ?side4 A59.out).mono ?_); (case side1 => refine (Kd.R_reads' (e := 43) (base := w.heap.size) (ok := fun k_ => ((((True ∧ some k_ ≠ (.slice Ao24 t156.length co24 : Value).ownBlock) ∧ some k_ ≠ (.slice Ao31 t161.length co31 : Value).ownBlock) ∧ some k_ ≠ (.slice Ao39 t167.length co39 : Value).ownBlock) ∧ some k_ ≠ (.slice Ao58 t179.length co58 : Value).ownBlock)) (n := t173.length) (c := co48) ?_).2.2; exact (by (with_reducible repeat (first | apply Kd.R_alloc | apply Kd.R_drewN | apply Kd.R_drew)); exact (Kd.R_mono (Kd.R_far (p := ⟨gb183, 1, none⟩) (Kd.R_far (p := ⟨gb183, 0, none⟩) (Kd.R_types HO175.out BK183.out (by decide)) (fun _ hk => hk.2) (.int .i64 t178)) (fun _ hk => hk.2) (.slice Ao58 t179.length co58)) (fun _ h_ => h_.1)))); (case side2 => exact (Kd.R_reads' HO175.out).2.1); (case side3 => refine (Kd.R_reads' (e := 43) (base := w.heap.size) (ok := fun k_ => ((((True ∧ some k_ ≠ (.slice Ao24 t156.length co24 : Value).ownBlock) ∧ some k_ ≠ (.slice Ao39 t167.length co39 : Value).ownBlock) ∧ some k_ ≠ (.slice Ao48 t173.length co48 : Value).ownBlock) ∧ some k_ ≠ (.slice Ao58 t179.length co58 : Value).ownBlock)) (n := t161.length) (c := co31) ?_).2.2; exact (by (with_reducible repeat (first | apply Kd.R_alloc | apply Kd.R_drewN | apply Kd.R_drew)); exact (Kd.R_mono (Kd.R_far (p := ⟨gb183, 1, none⟩) (Kd.R_far (p := ⟨gb183, 0, none⟩) (Kd.R_types HO163.out BK183.out (by decide)) (fun _ hk => hk.2) (.int .i64 t178)) (fun _ hk => hk.2) (.slice Ao58 t179.length co58)) (fun _ h_ => h_.1)))); (case side4 => exact (Kd.R_reads' HO163.out).2.1); rintro e w95 ⟨rfl, hb⟩; refine ⟨_, rfl, ?_⟩; have n0_ := Aside0.mk (Kd.R_below (by (with_reducible repeat (first | apply Kd.R_alloc | apply Kd.R_drewN | apply Kd.R_drew)); exact (Kd.R_mono (Kd.R_far (p := ⟨gb183, 1, none⟩) (Kd.R_far (p := ⟨gb183, 0, none⟩) (Kd.R_types HO158.out BK183.out (by decide)) (fun _ hk => hk.2) (.int .i64 t178)) (fun _ hk => hk.2) (.slice Ao58 t179.length co58)) (fun _ h_ => h_.1))) hb); have n1_ := Aside0.mk (Kd.R_below (by (with_reducible repeat (first | apply Kd.R_alloc | apply Kd.R_drewN | apply Kd.R_drew)); exact (Kd.R_mono (Kd.R_far (p := ⟨gb183, 1, none⟩) (Kd.R_far (p := ⟨gb183, 0, none⟩) (Kd.R_types HO163.out BK183.out (by decide)) (fun _ hk => hk.2) (.int .i64 t178)) (fun _ hk => hk.2) (.slice Ao58 t179.length co58)) (fun _ h_ => h_.1))) hb); have n2_ := Aside0.mk (Kd.R_below (by (with_reducible repeat (first | apply Kd.R_alloc | apply Kd.R_drewN | apply Kd.R_drew)); exact (Kd.R_mono (Kd.R_far (p := ⟨gb183, 1, none⟩) (Kd.R_far (p := ⟨gb183, 0, none⟩) (Kd.R_types HO169.out BK183.out (by decide)) (fun _ hk => hk.2) (.int .i64 t178)) (fun _ hk => hk.2) (.slice Ao58 t179.length co58)) (fun _ h_ => h_.1))) hb); have n3_ := Aside0.mk (Kd.R_below (by (with_reducible repeat (first | apply Kd.R_alloc | apply Kd.R_drewN | apply Kd.R_drew)); exact (Kd.R_mono (Kd.R_far (p := ⟨gb183, 1, none⟩) (Kd.R_far (p := ⟨gb183, 0, none⟩) (Kd.R_types HO175.out BK183.out (by decide)) (fun _ hk => hk.2) (.int .i64 t178)) (fun _ hk => hk.2) (.slice Ao58 t179.length co58)) (fun _ h_ => h_.1))) hb); have n4_ := Aside0.mk (Kd.R_below (by (with_reducible repeat (first | apply Kd.R_alloc | apply Kd.R_drewN | apply Kd.R_drew)); exact (Kd.R_mono (Kd.R_far (p := ⟨gb183, 1, none⟩) (Kd.R_far (p := ⟨gb183, 0, none⟩) (Kd.R_types HO181.out BK183.out (by decide)) (fun _ hk => hk.2) (.int .i64 t178)) (fun _ hk => hk.2) (.slice Ao58 t179.length co58)) (fun _ h_ => h_.1))) hb); have n5_ := Aside0.mk (blk_below (g := gb152) (o := .cells #[.int .i64 a0_0, .slice A0_1 l0_1.length c0_1] 24 (0, 0)) (by (with_reducible repeat (first | refine blk_drewN ?_ _ | refine blk_drew ?_ | refine blk_alloc ?_ _)); refine blk_far ?_ NB152_183.out _; (with_reducible repeat (first | refine blk_drewN ?_ _ | refine blk_drew ?_ | refine blk_alloc ?_ _)); refine blk_far ?_ NB152_183.out _; (with_reducible repeat (first | refine blk_drewN ?_ _ | refine blk_drew ?_ | refine blk_alloc ?_ _)); exact BK152.out) hb); have n6_ := Aside0.mk (blk_below (g := gb159) (o := .cells #[.int .i64 t155, .slice Ao24 t156.length co24] 24 (0, 0)) (by (with_reducible repeat (first | refine blk_drewN ?_ _ | refine blk_drew ?_ | refine blk_alloc ?_ _)); refine blk_far ?_ NB159_183.out _; (with_reducible repeat (first | refine blk_drewN ?_ _ | refine blk_drew ?_ | refine blk_alloc ?_ _)); refine blk_far ?_ NB159_183.out _; (with_reducible repeat (first | refine blk_drewN ?_ _ | refine blk_drew ?_ | refine blk_alloc ?_ _)); exact BK159.out) hb); have n7_ := Aside0.mk (blk_below (g := gb165) (o := .cells #[.int .i64 t160, .slice Ao31 t161.length co31] 24 (0, 0)) (by (with_reducible repeat (first | refine blk_drewN ?_ _ | refine blk_drew ?_ | refine blk_alloc ?_ _)); refine blk_far ?_ NB165_183.out _; (with_reducible repeat (first | refine blk_drewN ?_ _ | refine blk_drew ?_ | refine blk_alloc ?_ _)); refine blk_far ?_ NB165_183.out _; (with_reducible repeat (first | refine blk_drewN ?_ _ | refine blk_drew ?_ | refine blk_alloc ?_ _)); exact BK165.out) hb); have n8_ := Aside0.mk (blk_below (g := gb171) (o := .cells #[.int .i64 t166, .slice Ao39 t167.length co39] 24 (0, 0)) (by (with_reducible repeat (first | refine blk_drewN ?_ _ | refine blk_drew ?_ | refine blk_alloc ?_ _)); refine blk_far ?_ NB171_183.out _; (with_reducible repeat (first | refine blk_drewN ?_ _ | refine blk_drew ?_ | refine blk_alloc ?_ _)); refine blk_far ?_ NB171_183.out _; (with_reducible repeat (first | refine blk_drewN ?_ _ | refine blk_drew ?_ | refine blk_alloc ?_ _)); exact BK171.out) hb); have n9_ := Aside0.mk (blk_below (g := gb177) (o := .cells #[.int .i64 t172, .slice Ao48 t173.length co48] 24 (0, 0)) (by (with_reducible repeat (first | refine blk_drewN ?_ _ | refine blk_drew ?_ | refine blk_alloc ?_ _)); refine blk_far ?_ NB177_183.out _; (with_reducible repeat (first | refine blk_drewN ?_ _ | refine blk_drew ?_ | refine blk_alloc ?_ _)); refine blk_far ?_ NB177_183.out _; (with_reducible repeat (first | refine blk_drewN ?_ _ | refine blk_drew ?_ | refine blk_alloc ?_ _)); exact BK177.out) hb); have n10_ := Aside0.mk (blk_below (g := gb183) (o := .cells #[.int .i64 t178, .slice Ao58 t179.length co58] 24 (0, 0)) (by (with_reducible repeat (first | refine blk_drewN ?_ _ | refine blk_drew ?_ | refine blk_alloc ?_ _)); refine blk_put (cs := #[.int .i64 t178, .slice none 0 0]) ?_ 1 _ rfl; (with_reducible repeat (first | refine blk_drewN ?_ _ | refine blk_drew ?_ | refine blk_alloc ?_ _)); refine blk_put (cs := #[.int .i64 0, .slice none 0 0]) ?_ 0 _ rfl; (with_reducible repeat (first | refine blk_drewN ?_ _ | refine blk_drew ?_ | refine blk_alloc ?_ _)); exact BK183.out) hb); have n11_ := Aside0.mk (below_step (by repeat (first | (with_reducible first | exact HB.out | apply below_alloc | apply pw_below_drewN | apply below_drew1 | refine below_set ?_ GE152.out | refine below_set ?_ GE159.out | refine below_set ?_ GE165.out | refine below_set ?_ GE171.out | refine below_set ?_ GE177.out | refine below_set ?_ GE183.out) | exact HB.out)) hb); clear HO158; clear HO163; clear HO169; clear HO175; clear HO181; clear BK152; clear BK159; clear BK165; clear BK171; clear BK177; clear BK183; clear HB; have HO158 := n0_; have HO163 := n1_; have HO169 := n2_; have HO175 := n3_; have HO181 := n4_; have BK152 := n5_; have BK159 := n6_; have BK165 := n7_; have BK171 := n8_; have BK177 := n9_; have BK183 := n10_; have HB := n11_; clear n0_ n1_ n2_ n3_ n4_ n5_ n6_ n7_ n8_ n9_ n10_ n11_; (try clear hb); (try clear hb2); (try clear hk); (try clear hi); have hnb96 := NB183_152.out; have hnc96 := NB152_183.out; have hnb97 := NB183_159.out; have hnc97 := NB159_183.out; have hnb98 := NB183_171.out; have hnc98 := NB171_183.out; have hcz99_0 : w95.cell? ⟨gb183, 0, none⟩ = some (.int .i64 t178) := (blk_cell BK183.out 0).trans rfl; have hcz99_1 : w95.cell? ⟨gb183, 1, none⟩ = some (.slice Ao58 t179.length co58) := (blk_cell BK183.out 1).trans rfl; have hfz99_0 := blk_frozen BK183.out 0; have hfz99_1 := blk_frozen BK183.out 1; have hnb100 := NB171_152.out; have hnc100 := NB152_171.out; have hnb101 := NB171_159.out; have hnc101 := NB159_171.out; have hcz102_0 : w95.cell? ⟨gb171, 0, none⟩ = some (.int .i64 t166) := (blk_cell BK171.out 0).trans rfl; have hcz102_1 : w95.cell? ⟨gb171, 1, none⟩ = some (.slice Ao39 t167.length co39) := (blk_cell BK171.out 1).trans rfl; have hfz102_0 := blk_frozen BK171.out 0; have hfz102_1 := blk_frozen BK171.out 1) | (go_at_call 48; (with_reducible refine (verditerref03_Same.calls k t178 _ _ t179 t166 _ _ t167 false _ ?side1 ?side2 ?side3 ?side4 A62.out).mono ?_); (case side1 => repeat (first | exact (Kd.R_reads' HO181.out).2.2 | (with_reducible refine Kd.C_alloc ?_ _) | (with_reducible refine Kd.C_drewN ?_ _) | (with_reducible refine Kd.C_drew ?_))); (case side2 => exact (Kd.R_reads' HO181.out).2.1); (case side3 => repeat (first | exact (Kd.R_reads' HO169.out).2.2 | (with_reducible refine Kd.C_alloc ?_ _) | (with_reducible refine Kd.C_drewN ?_ _) | (with_reducible refine Kd.C_drew ?_))); (case side4 => exact (Kd.R_reads' HO169.out).2.1); rintro e w103 ⟨rfl, hb⟩; have n0_ := Aside0.mk (Kd.R_below (by (with_reducible repeat (first | apply Kd.R_alloc | apply Kd.R_drewN | apply Kd.R_drew)); exact HO158.out) hb); have n1_ := Aside0.mk (Kd.R_below (by (with_reducible repeat (first | apply Kd.R_alloc | apply Kd.R_drewN | apply Kd.R_drew)); exact HO163.out) hb); have n2_ := Aside0.mk (Kd.R_below (by (with_reducible repeat (first | apply Kd.R_alloc | apply Kd.R_drewN | apply Kd.R_drew)); exact HO169.out) hb); have n3_ := Aside0.mk (Kd.R_below (by (with_reducible repeat (first | apply Kd.R_alloc | apply Kd.R_drewN | apply Kd.R_drew)); exact HO175.out) hb); have n4_ := Aside0.mk (Kd.R_below (by (with_reducible repeat (first | apply Kd.R_alloc | apply Kd.R_drewN | apply Kd.R_drew)); exact HO181.out) hb); have n5_ := Aside0.mk (blk_below (g := gb152) (o := .cells #[.int .i64 a0_0, .slice A0_1 l0_1.length c0_1] 24 (0, 0)) (by (with_reducible repeat (first | refine blk_drewN ?_ _ | refine blk_drew ?_ | refine blk_alloc ?_ _)); exact BK152.out) hb); have n6_ := Aside0.mk (blk_below (g := gb159) (o := .cells #[.int .i64 t155, .slice Ao24 t156.length co24] 24 (0, 0)) (by (with_reducible repeat (first | refine blk_drewN ?_ _ | refine blk_drew ?_ | refine blk_alloc ?_ _)); exact BK159.out) hb); have n7_ := Aside0.mk (blk_below (g := gb165) (o := .cells #[.int .i64 t160, .slice Ao31 t161.length co31] 24 (0, 0)) (by (with_reducible repeat (first | refine blk_drewN ?_ _ | refine blk_drew ?_ | refine blk_alloc ?_ _)); exact BK165.out) hb); have n8_ := Aside0.mk (blk_below (g := gb171) (o := .cells #[.int .i64 t166, .slice Ao39 t167.length co39] 24 (0, 0)) (by (with_reducible repeat (first | refine blk_drewN ?_ _ | refine blk_drew ?_ | refine blk_alloc ?_ _)); exact BK171.out) hb); have n9_ := Aside0.mk (blk_below (g := gb177) (o := .cells #[.int .i64 t172, .slice Ao48 t173.length co48] 24 (0, 0)) (by (with_reducible repeat (first | refine blk_drewN ?_ _ | refine blk_drew ?_ | refine blk_alloc ?_ _)); exact BK177.out) hb); have n10_ := Aside0.mk (blk_below (g := gb183) (o := .cells #[.int .i64 t178, .slice Ao58 t179.length co58] 24 (0, 0)) (by (with_reducible repeat (first | refine blk_drewN ?_ _ | refine blk_drew ?_ | refine blk_alloc ?_ _)); exact BK183.out) hb); have n11_ := Aside0.mk (below_step (by repeat (first | (with_reducible first | exact HB.out | apply below_alloc | apply pw_below_drewN | apply below_drew1 | refine below_set ?_ GE152.out | refine below_set ?_ GE159.out | refine below_set ?_ GE165.out | refine below_set ?_ GE171.out | refine below_set ?_ GE177.out | refine below_set ?_ GE183.out) | exact HB.out)) hb); clear HO158; clear HO163; clear HO169; clear HO175; clear HO181; clear BK152; clear BK159; clear BK165; clear BK171; clear BK177; clear BK183; clear HB; have HO158 := n0_; have HO163 := n1_; have HO169 := n2_; have HO175 := n3_; have HO181 := n4_; have BK152 := n5_; have BK159 := n6_; have BK165 := n7_; have BK171 := n8_; have BK177 := n9_; have BK183 := n10_; have HB := n11_; clear n0_ n1_ n2_ n3_ n4_ n5_ n6_ n7_ n8_ n9_ n10_ n11_; (try clear hb); (try clear hb2); (try clear hk); (try clear hi)))
            go_meet
            case rel => exact ⟨_, (true), (by first | rfl | (simp; done) | (simp [*]; done)), H', ⟨by first | omega | exact Nat.le_refl _⟩, ⟨by (with_reducible repeat (first | apply Kd.R_alloc | apply Kd.R_drewN | apply Kd.R_drew)); exact Kd.R_mono HO158.out (fun _ hk => ⟨hk.1.1.1.2, ⟨hk.1.1.2, ⟨hk.1.2, hk.2⟩⟩⟩)⟩, ⟨by (with_reducible repeat (first | apply Kd.R_alloc | apply Kd.R_drewN | apply Kd.R_drew)); exact Kd.R_mono HO163.out (fun _ hk => ⟨hk.1.1.1.2, ⟨hk.1.1.2, ⟨hk.1.2, hk.2⟩⟩⟩)⟩, ⟨by (with_reducible repeat (first | apply Kd.R_alloc | apply Kd.R_drewN | apply Kd.R_drew)); exact Kd.R_mono HO169.out (fun _ hk => ⟨hk.1.1.1.2, ⟨hk.1.1.2, ⟨hk.1.2, hk.2⟩⟩⟩)⟩, ⟨by (with_reducible repeat (first | apply Kd.R_alloc | apply Kd.R_drewN | apply Kd.R_drew)); exact Kd.R_mono HO175.out (fun _ hk => ⟨hk.1.1.1.2, ⟨hk.1.1.2, ⟨hk.1.2, hk.2⟩⟩⟩)⟩, ⟨by (with_reducible repeat (first | apply Kd.R_alloc | apply Kd.R_drewN | apply Kd.R_drew)); exact Kd.R_mono HO181.out (fun _ hk => ⟨hk.1.1.1.2, ⟨hk.1.1.2, ⟨hk.1.2, hk.2⟩⟩⟩)⟩, ⟨by (with_reducible repeat (first | refine blk_drewN ?_ _ | refine blk_drew ?_ | refine blk_alloc ?_ _)); exact BK152.out⟩, ⟨by (with_reducible repeat (first | refine blk_drewN ?_ _ | refine blk_drew ?_ | refine blk_alloc ?_ _)); exact BK159.out⟩, ⟨by (with_reducible repeat (first | refine blk_drewN ?_ _ | refine blk_drew ?_ | refine blk_alloc ?_ _)); exact BK165.out⟩, ⟨by (with_reducible repeat (first | refine blk_drewN ?_ _ | refine blk_drew ?_ | refine blk_alloc ?_ _)); exact BK171.out⟩, ⟨by (with_reducible repeat (first | refine blk_drewN ?_ _ | refine blk_drew ?_ | refine blk_alloc ?_ _)); exact BK177.out⟩, ⟨by (with_reducible repeat (first | refine blk_drewN ?_ _ | refine blk_drew ?_ | refine blk_alloc ?_ _)); exact BK183.out⟩, ⟨by repeat (first | (with_reducible first | exact HB.out | apply below_alloc | apply pw_below_drewN | apply below_drew1 | refine below_set ?_ GE152.out | refine below_set ?_ GE159.out | refine below_set ?_ GE165.out | refine below_set ?_ GE171.out | refine below_set ?_ GE177.out | refine below_set ?_ GE183.out) | exact HB.out)⟩⟩
        · rw [if_neg c61] at H
          have c61b0 : (t176 == t164) = false := beq_eq_false_iff_ne.mpr c61
          have c61b1 : (t176 != t164) = true := bne_iff_ne.mpr c61
          (first | rw [c61b0] | (simp only [i64_w, i32_w]; rw [c61b0]) | skip)
          have H' := Aside0.mk H
          clear H
          have hnb104 := NB177_152.out
          have hnc104 := NB152_177.out
          have hnb105 := NB177_159.out
          have hnc105 := NB159_177.out
          have hnb106 := NB177_165.out
          have hnc106 := NB165_177.out
          have hnb107 := NB177_171.out
          have hnc107 := NB171_177.out
          have hnb108 := NB177_183.out
          have hnc108 := NB183_177.out
          have hcz109_0 : w51.cell? ⟨gb177, 0, none⟩ = some (.int .i64 t172) := (blk_cell BK177.out 0).trans rfl
          have hcz109_1 : w51.cell? ⟨gb177, 1, none⟩ = some (.slice Ao48 t173.length co48) := (blk_cell BK177.out 1).trans rfl
          have hfz109_0 := blk_frozen BK177.out 0
          have hfz109_1 := blk_frozen BK177.out 1
          have hnb110 := NB165_152.out
          have hnc110 := NB152_165.out
          have hnb111 := NB165_159.out
          have hnc111 := NB159_165.out
          have hnb112 := NB165_171.out
          have hnc112 := NB171_165.out
          have hnb113 := NB165_183.out
          have hnc113 := NB183_165.out
          have hcz114_0 : w51.cell? ⟨gb165, 0, none⟩ = some (.int .i64 t160) := (blk_cell BK165.out 0).trans rfl
          have hcz114_1 : w51.cell? ⟨gb165, 1, none⟩ = some (.slice Ao31 t161.length co31) := (blk_cell BK165.out 1).trans rfl
          have hfz114_0 := blk_frozen BK165.out 0
          have hfz114_1 := blk_frozen BK165.out 1
          go_wp2_with (first | ((with_reducible refine gate_callee (f := 48) rfl ?_); refine goesL_ (some 46) rfl rfl Try.func48 (by kernel_rfl) rfl #[.agg #[.int .i64 t172, .slice Ao48 t173.length co48], .agg #[.int .i64 t160, .slice Ao31 t161.length co31]] rfl (by (try simp only [List.map_toArray, List.map_cons, List.map_nil]); first | done | rfl | (simp only [List.length_drop, List.length_take]; rfl)) ?_; (with_reducible refine (verditerref03_Same.calls k t172 _ _ t173 t160 _ _ t161 true _ ?side1 ?side2 ?side3 ?side4 A59.out).mono ?_); (case side1 => refine (Kd.R_reads' (e := 43) (base := w.heap.size) (ok := fun k_ => ((((True ∧ some k_ ≠ (.slice Ao24 t156.length co24 : Value).ownBlock) ∧ some k_ ≠ (.slice Ao31 t161.length co31 : Value).ownBlock) ∧ some k_ ≠ (.slice Ao39 t167.length co39 : Value).ownBlock) ∧ some k_ ≠ (.slice Ao58 t179.length co58 : Value).ownBlock)) (n := t173.length) (c := co48) ?_).2.2; exact (by (with_reducible repeat (first | apply Kd.R_alloc | apply Kd.R_drewN | apply Kd.R_drew)); exact (Kd.R_mono (Kd.R_far (p := ⟨gb183, 1, none⟩) (Kd.R_far (p := ⟨gb183, 0, none⟩) (Kd.R_types HO175.out BK183.out (by decide)) (fun _ hk => hk.2) (.int .i64 t178)) (fun _ hk => hk.2) (.slice Ao58 t179.length co58)) (fun _ h_ => h_.1)))); (case side2 => exact (Kd.R_reads' HO175.out).2.1); (case side3 => refine (Kd.R_reads' (e := 43) (base := w.heap.size) (ok := fun k_ => ((((True ∧ some k_ ≠ (.slice Ao24 t156.length co24 : Value).ownBlock) ∧ some k_ ≠ (.slice Ao39 t167.length co39 : Value).ownBlock) ∧ some k_ ≠ (.slice Ao48 t173.length co48 : Value).ownBlock) ∧ some k_ ≠ (.slice Ao58 t179.length co58 : Value).ownBlock)) (n := t161.length) (c := co31) ?_).2.2; exact (by (with_reducible repeat (first | apply Kd.R_alloc | apply Kd.R_drewN | apply Kd.R_drew)); exact (Kd.R_mono (Kd.R_far (p := ⟨gb183, 1, none⟩) (Kd.R_far (p := ⟨gb183, 0, none⟩) (Kd.R_types HO163.out BK183.out (by decide)) (fun _ hk => hk.2) (.int .i64 t178)) (fun _ hk => hk.2) (.slice Ao58 t179.length co58)) (fun _ h_ => h_.1)))); (case side4 => exact (Kd.R_reads' HO163.out).2.1); rintro e w115 ⟨rfl, hb⟩; refine ⟨_, rfl, ?_⟩; have n0_ := Aside0.mk (Kd.R_below (by (with_reducible repeat (first | apply Kd.R_alloc | apply Kd.R_drewN | apply Kd.R_drew)); exact (Kd.R_mono (Kd.R_far (p := ⟨gb183, 1, none⟩) (Kd.R_far (p := ⟨gb183, 0, none⟩) (Kd.R_types HO158.out BK183.out (by decide)) (fun _ hk => hk.2) (.int .i64 t178)) (fun _ hk => hk.2) (.slice Ao58 t179.length co58)) (fun _ h_ => h_.1))) hb); have n1_ := Aside0.mk (Kd.R_below (by (with_reducible repeat (first | apply Kd.R_alloc | apply Kd.R_drewN | apply Kd.R_drew)); exact (Kd.R_mono (Kd.R_far (p := ⟨gb183, 1, none⟩) (Kd.R_far (p := ⟨gb183, 0, none⟩) (Kd.R_types HO163.out BK183.out (by decide)) (fun _ hk => hk.2) (.int .i64 t178)) (fun _ hk => hk.2) (.slice Ao58 t179.length co58)) (fun _ h_ => h_.1))) hb); have n2_ := Aside0.mk (Kd.R_below (by (with_reducible repeat (first | apply Kd.R_alloc | apply Kd.R_drewN | apply Kd.R_drew)); exact (Kd.R_mono (Kd.R_far (p := ⟨gb183, 1, none⟩) (Kd.R_far (p := ⟨gb183, 0, none⟩) (Kd.R_types HO169.out BK183.out (by decide)) (fun _ hk => hk.2) (.int .i64 t178)) (fun _ hk => hk.2) (.slice Ao58 t179.length co58)) (fun _ h_ => h_.1))) hb); have n3_ := Aside0.mk (Kd.R_below (by (with_reducible repeat (first | apply Kd.R_alloc | apply Kd.R_drewN | apply Kd.R_drew)); exact (Kd.R_mono (Kd.R_far (p := ⟨gb183, 1, none⟩) (Kd.R_far (p := ⟨gb183, 0, none⟩) (Kd.R_types HO175.out BK183.out (by decide)) (fun _ hk => hk.2) (.int .i64 t178)) (fun _ hk => hk.2) (.slice Ao58 t179.length co58)) (fun _ h_ => h_.1))) hb); have n4_ := Aside0.mk (Kd.R_below (by (with_reducible repeat (first | apply Kd.R_alloc | apply Kd.R_drewN | apply Kd.R_drew)); exact (Kd.R_mono (Kd.R_far (p := ⟨gb183, 1, none⟩) (Kd.R_far (p := ⟨gb183, 0, none⟩) (Kd.R_types HO181.out BK183.out (by decide)) (fun _ hk => hk.2) (.int .i64 t178)) (fun _ hk => hk.2) (.slice Ao58 t179.length co58)) (fun _ h_ => h_.1))) hb); have n5_ := Aside0.mk (blk_below (g := gb152) (o := .cells #[.int .i64 a0_0, .slice A0_1 l0_1.length c0_1] 24 (0, 0)) (by (with_reducible repeat (first | refine blk_drewN ?_ _ | refine blk_drew ?_ | refine blk_alloc ?_ _)); refine blk_far ?_ NB152_183.out _; (with_reducible repeat (first | refine blk_drewN ?_ _ | refine blk_drew ?_ | refine blk_alloc ?_ _)); refine blk_far ?_ NB152_183.out _; (with_reducible repeat (first | refine blk_drewN ?_ _ | refine blk_drew ?_ | refine blk_alloc ?_ _)); exact BK152.out) hb); have n6_ := Aside0.mk (blk_below (g := gb159) (o := .cells #[.int .i64 t155, .slice Ao24 t156.length co24] 24 (0, 0)) (by (with_reducible repeat (first | refine blk_drewN ?_ _ | refine blk_drew ?_ | refine blk_alloc ?_ _)); refine blk_far ?_ NB159_183.out _; (with_reducible repeat (first | refine blk_drewN ?_ _ | refine blk_drew ?_ | refine blk_alloc ?_ _)); refine blk_far ?_ NB159_183.out _; (with_reducible repeat (first | refine blk_drewN ?_ _ | refine blk_drew ?_ | refine blk_alloc ?_ _)); exact BK159.out) hb); have n7_ := Aside0.mk (blk_below (g := gb165) (o := .cells #[.int .i64 t160, .slice Ao31 t161.length co31] 24 (0, 0)) (by (with_reducible repeat (first | refine blk_drewN ?_ _ | refine blk_drew ?_ | refine blk_alloc ?_ _)); refine blk_far ?_ NB165_183.out _; (with_reducible repeat (first | refine blk_drewN ?_ _ | refine blk_drew ?_ | refine blk_alloc ?_ _)); refine blk_far ?_ NB165_183.out _; (with_reducible repeat (first | refine blk_drewN ?_ _ | refine blk_drew ?_ | refine blk_alloc ?_ _)); exact BK165.out) hb); have n8_ := Aside0.mk (blk_below (g := gb171) (o := .cells #[.int .i64 t166, .slice Ao39 t167.length co39] 24 (0, 0)) (by (with_reducible repeat (first | refine blk_drewN ?_ _ | refine blk_drew ?_ | refine blk_alloc ?_ _)); refine blk_far ?_ NB171_183.out _; (with_reducible repeat (first | refine blk_drewN ?_ _ | refine blk_drew ?_ | refine blk_alloc ?_ _)); refine blk_far ?_ NB171_183.out _; (with_reducible repeat (first | refine blk_drewN ?_ _ | refine blk_drew ?_ | refine blk_alloc ?_ _)); exact BK171.out) hb); have n9_ := Aside0.mk (blk_below (g := gb177) (o := .cells #[.int .i64 t172, .slice Ao48 t173.length co48] 24 (0, 0)) (by (with_reducible repeat (first | refine blk_drewN ?_ _ | refine blk_drew ?_ | refine blk_alloc ?_ _)); refine blk_far ?_ NB177_183.out _; (with_reducible repeat (first | refine blk_drewN ?_ _ | refine blk_drew ?_ | refine blk_alloc ?_ _)); refine blk_far ?_ NB177_183.out _; (with_reducible repeat (first | refine blk_drewN ?_ _ | refine blk_drew ?_ | refine blk_alloc ?_ _)); exact BK177.out) hb); have n10_ := Aside0.mk (blk_below (g := gb183) (o := .cells #[.int .i64 t178, .slice Ao58 t179.length co58] 24 (0, 0)) (by (with_reducible repeat (first | refine blk_drewN ?_ _ | refine blk_drew ?_ | refine blk_alloc ?_ _)); refine blk_put (cs := #[.int .i64 t178, .slice none 0 0]) ?_ 1 _ rfl; (with_reducible repeat (first | refine blk_drewN ?_ _ | refine blk_drew ?_ | refine blk_alloc ?_ _)); refine blk_put (cs := #[.int .i64 0, .slice none 0 0]) ?_ 0 _ rfl; (with_reducible repeat (first | refine blk_drewN ?_ _ | refine blk_drew ?_ | refine blk_alloc ?_ _)); exact BK183.out) hb); have n11_ := Aside0.mk (below_step (by repeat (first | (with_reducible first | exact HB.out | apply below_alloc | apply pw_below_drewN | apply below_drew1 | refine below_set ?_ GE152.out | refine below_set ?_ GE159.out | refine below_set ?_ GE165.out | refine below_set ?_ GE171.out | refine below_set ?_ GE177.out | refine below_set ?_ GE183.out) | exact HB.out)) hb); clear HO158; clear HO163; clear HO169; clear HO175; clear HO181; clear BK152; clear BK159; clear BK165; clear BK171; clear BK177; clear BK183; clear HB; have HO158 := n0_; have HO163 := n1_; have HO169 := n2_; have HO175 := n3_; have HO181 := n4_; have BK152 := n5_; have BK159 := n6_; have BK165 := n7_; have BK171 := n8_; have BK177 := n9_; have BK183 := n10_; have HB := n11_; clear n0_ n1_ n2_ n3_ n4_ n5_ n6_ n7_ n8_ n9_ n10_ n11_; (try clear hb); (try clear hb2); (try clear hk); (try clear hi)))
          go_meet
          case rel => exact ⟨_, (true), (by first | rfl | (simp; done) | (simp [*]; done)), H', ⟨by first | omega | exact Nat.le_refl _⟩, ⟨by (with_reducible repeat (first | apply Kd.R_alloc | apply Kd.R_drewN | apply Kd.R_drew)); exact Kd.R_mono HO158.out (fun _ hk => ⟨hk.1.1.1.2, ⟨hk.1.1.2, ⟨hk.1.2, hk.2⟩⟩⟩)⟩, ⟨by (with_reducible repeat (first | apply Kd.R_alloc | apply Kd.R_drewN | apply Kd.R_drew)); exact Kd.R_mono HO163.out (fun _ hk => ⟨hk.1.1.1.2, ⟨hk.1.1.2, ⟨hk.1.2, hk.2⟩⟩⟩)⟩, ⟨by (with_reducible repeat (first | apply Kd.R_alloc | apply Kd.R_drewN | apply Kd.R_drew)); exact Kd.R_mono HO169.out (fun _ hk => ⟨hk.1.1.1.2, ⟨hk.1.1.2, ⟨hk.1.2, hk.2⟩⟩⟩)⟩, ⟨by (with_reducible repeat (first | apply Kd.R_alloc | apply Kd.R_drewN | apply Kd.R_drew)); exact Kd.R_mono HO175.out (fun _ hk => ⟨hk.1.1.1.2, ⟨hk.1.1.2, ⟨hk.1.2, hk.2⟩⟩⟩)⟩, ⟨by (with_reducible repeat (first | apply Kd.R_alloc | apply Kd.R_drewN | apply Kd.R_drew)); exact Kd.R_mono HO181.out (fun _ hk => ⟨hk.1.1.1.2, ⟨hk.1.1.2, ⟨hk.1.2, hk.2⟩⟩⟩)⟩, ⟨by (with_reducible repeat (first | refine blk_drewN ?_ _ | refine blk_drew ?_ | refine blk_alloc ?_ _)); exact BK152.out⟩, ⟨by (with_reducible repeat (first | refine blk_drewN ?_ _ | refine blk_drew ?_ | refine blk_alloc ?_ _)); exact BK159.out⟩, ⟨by (with_reducible repeat (first | refine blk_drewN ?_ _ | refine blk_drew ?_ | refine blk_alloc ?_ _)); exact BK165.out⟩, ⟨by (with_reducible repeat (first | refine blk_drewN ?_ _ | refine blk_drew ?_ | refine blk_alloc ?_ _)); exact BK171.out⟩, ⟨by (with_reducible repeat (first | refine blk_drewN ?_ _ | refine blk_drew ?_ | refine blk_alloc ?_ _)); exact BK177.out⟩, ⟨by (with_reducible repeat (first | refine blk_drewN ?_ _ | refine blk_drew ?_ | refine blk_alloc ?_ _)); exact BK183.out⟩, ⟨by repeat (first | (with_reducible first | exact HB.out | apply below_alloc | apply pw_below_drewN | apply below_drew1 | refine below_set ?_ GE152.out | refine below_set ?_ GE159.out | refine below_set ?_ GE165.out | refine below_set ?_ GE171.out | refine below_set ?_ GE177.out | refine below_set ?_ GE183.out) | exact HB.out)⟩⟩
      · replace c60 := Bool.eq_false_iff.mpr c60
        subst c60
        have H1 : (verditerlaw03_feudDrops.j0 k true a0_0 l0_1 t155 t156 t172 t173) = some r := by rw [if_neg (show ¬ (false = true) by decide)] at H; exact H
        clear H
        have H := H1
        clear H1
        have H' := Aside0.mk H
        clear H
        have hnb116 := NB177_152.out
        have hnc116 := NB152_177.out
        have hnb117 := NB177_159.out
        have hnc117 := NB159_177.out
        have hnb118 := NB177_165.out
        have hnc118 := NB165_177.out
        have hnb119 := NB177_171.out
        have hnc119 := NB171_177.out
        have hnb120 := NB177_183.out
        have hnc120 := NB183_177.out
        have hcz121_0 : w51.cell? ⟨gb177, 0, none⟩ = some (.int .i64 t172) := (blk_cell BK177.out 0).trans rfl
        have hcz121_1 : w51.cell? ⟨gb177, 1, none⟩ = some (.slice Ao48 t173.length co48) := (blk_cell BK177.out 1).trans rfl
        have hfz121_0 := blk_frozen BK177.out 0
        have hfz121_1 := blk_frozen BK177.out 1
        have hnb122 := NB165_152.out
        have hnc122 := NB152_165.out
        have hnb123 := NB165_159.out
        have hnc123 := NB159_165.out
        have hnb124 := NB165_171.out
        have hnc124 := NB171_165.out
        have hnb125 := NB165_183.out
        have hnc125 := NB183_165.out
        have hcz126_0 : w51.cell? ⟨gb165, 0, none⟩ = some (.int .i64 t160) := (blk_cell BK165.out 0).trans rfl
        have hcz126_1 : w51.cell? ⟨gb165, 1, none⟩ = some (.slice Ao31 t161.length co31) := (blk_cell BK165.out 1).trans rfl
        have hfz126_0 := blk_frozen BK165.out 0
        have hfz126_1 := blk_frozen BK165.out 1
        go_wp2_with (first | ((with_reducible refine gate_callee (f := 48) rfl ?_); refine goesL_ (some 46) rfl rfl Try.func48 (by kernel_rfl) rfl #[.agg #[.int .i64 t172, .slice Ao48 t173.length co48], .agg #[.int .i64 t160, .slice Ao31 t161.length co31]] rfl (by (try simp only [List.map_toArray, List.map_cons, List.map_nil]); first | done | rfl | (simp only [List.length_drop, List.length_take]; rfl)) ?_; (with_reducible refine (verditerref03_Same.calls k t172 _ _ t173 t160 _ _ t161 false _ ?side1 ?side2 ?side3 ?side4 A59.out).mono ?_); (case side1 => refine (Kd.R_reads' (e := 43) (base := w.heap.size) (ok := fun k_ => ((((True ∧ some k_ ≠ (.slice Ao24 t156.length co24 : Value).ownBlock) ∧ some k_ ≠ (.slice Ao31 t161.length co31 : Value).ownBlock) ∧ some k_ ≠ (.slice Ao39 t167.length co39 : Value).ownBlock) ∧ some k_ ≠ (.slice Ao58 t179.length co58 : Value).ownBlock)) (n := t173.length) (c := co48) ?_).2.2; exact (by (with_reducible repeat (first | apply Kd.R_alloc | apply Kd.R_drewN | apply Kd.R_drew)); exact (Kd.R_mono (Kd.R_far (p := ⟨gb183, 1, none⟩) (Kd.R_far (p := ⟨gb183, 0, none⟩) (Kd.R_types HO175.out BK183.out (by decide)) (fun _ hk => hk.2) (.int .i64 t178)) (fun _ hk => hk.2) (.slice Ao58 t179.length co58)) (fun _ h_ => h_.1)))); (case side2 => exact (Kd.R_reads' HO175.out).2.1); (case side3 => refine (Kd.R_reads' (e := 43) (base := w.heap.size) (ok := fun k_ => ((((True ∧ some k_ ≠ (.slice Ao24 t156.length co24 : Value).ownBlock) ∧ some k_ ≠ (.slice Ao39 t167.length co39 : Value).ownBlock) ∧ some k_ ≠ (.slice Ao48 t173.length co48 : Value).ownBlock) ∧ some k_ ≠ (.slice Ao58 t179.length co58 : Value).ownBlock)) (n := t161.length) (c := co31) ?_).2.2; exact (by (with_reducible repeat (first | apply Kd.R_alloc | apply Kd.R_drewN | apply Kd.R_drew)); exact (Kd.R_mono (Kd.R_far (p := ⟨gb183, 1, none⟩) (Kd.R_far (p := ⟨gb183, 0, none⟩) (Kd.R_types HO163.out BK183.out (by decide)) (fun _ hk => hk.2) (.int .i64 t178)) (fun _ hk => hk.2) (.slice Ao58 t179.length co58)) (fun _ h_ => h_.1)))); (case side4 => exact (Kd.R_reads' HO163.out).2.1); rintro e w127 ⟨rfl, hb⟩; refine ⟨_, rfl, ?_⟩; have n0_ := Aside0.mk (Kd.R_below (by (with_reducible repeat (first | apply Kd.R_alloc | apply Kd.R_drewN | apply Kd.R_drew)); exact (Kd.R_mono (Kd.R_far (p := ⟨gb183, 1, none⟩) (Kd.R_far (p := ⟨gb183, 0, none⟩) (Kd.R_types HO158.out BK183.out (by decide)) (fun _ hk => hk.2) (.int .i64 t178)) (fun _ hk => hk.2) (.slice Ao58 t179.length co58)) (fun _ h_ => h_.1))) hb); have n1_ := Aside0.mk (Kd.R_below (by (with_reducible repeat (first | apply Kd.R_alloc | apply Kd.R_drewN | apply Kd.R_drew)); exact (Kd.R_mono (Kd.R_far (p := ⟨gb183, 1, none⟩) (Kd.R_far (p := ⟨gb183, 0, none⟩) (Kd.R_types HO163.out BK183.out (by decide)) (fun _ hk => hk.2) (.int .i64 t178)) (fun _ hk => hk.2) (.slice Ao58 t179.length co58)) (fun _ h_ => h_.1))) hb); have n2_ := Aside0.mk (Kd.R_below (by (with_reducible repeat (first | apply Kd.R_alloc | apply Kd.R_drewN | apply Kd.R_drew)); exact (Kd.R_mono (Kd.R_far (p := ⟨gb183, 1, none⟩) (Kd.R_far (p := ⟨gb183, 0, none⟩) (Kd.R_types HO169.out BK183.out (by decide)) (fun _ hk => hk.2) (.int .i64 t178)) (fun _ hk => hk.2) (.slice Ao58 t179.length co58)) (fun _ h_ => h_.1))) hb); have n3_ := Aside0.mk (Kd.R_below (by (with_reducible repeat (first | apply Kd.R_alloc | apply Kd.R_drewN | apply Kd.R_drew)); exact (Kd.R_mono (Kd.R_far (p := ⟨gb183, 1, none⟩) (Kd.R_far (p := ⟨gb183, 0, none⟩) (Kd.R_types HO175.out BK183.out (by decide)) (fun _ hk => hk.2) (.int .i64 t178)) (fun _ hk => hk.2) (.slice Ao58 t179.length co58)) (fun _ h_ => h_.1))) hb); have n4_ := Aside0.mk (Kd.R_below (by (with_reducible repeat (first | apply Kd.R_alloc | apply Kd.R_drewN | apply Kd.R_drew)); exact (Kd.R_mono (Kd.R_far (p := ⟨gb183, 1, none⟩) (Kd.R_far (p := ⟨gb183, 0, none⟩) (Kd.R_types HO181.out BK183.out (by decide)) (fun _ hk => hk.2) (.int .i64 t178)) (fun _ hk => hk.2) (.slice Ao58 t179.length co58)) (fun _ h_ => h_.1))) hb); have n5_ := Aside0.mk (blk_below (g := gb152) (o := .cells #[.int .i64 a0_0, .slice A0_1 l0_1.length c0_1] 24 (0, 0)) (by (with_reducible repeat (first | refine blk_drewN ?_ _ | refine blk_drew ?_ | refine blk_alloc ?_ _)); refine blk_far ?_ NB152_183.out _; (with_reducible repeat (first | refine blk_drewN ?_ _ | refine blk_drew ?_ | refine blk_alloc ?_ _)); refine blk_far ?_ NB152_183.out _; (with_reducible repeat (first | refine blk_drewN ?_ _ | refine blk_drew ?_ | refine blk_alloc ?_ _)); exact BK152.out) hb); have n6_ := Aside0.mk (blk_below (g := gb159) (o := .cells #[.int .i64 t155, .slice Ao24 t156.length co24] 24 (0, 0)) (by (with_reducible repeat (first | refine blk_drewN ?_ _ | refine blk_drew ?_ | refine blk_alloc ?_ _)); refine blk_far ?_ NB159_183.out _; (with_reducible repeat (first | refine blk_drewN ?_ _ | refine blk_drew ?_ | refine blk_alloc ?_ _)); refine blk_far ?_ NB159_183.out _; (with_reducible repeat (first | refine blk_drewN ?_ _ | refine blk_drew ?_ | refine blk_alloc ?_ _)); exact BK159.out) hb); have n7_ := Aside0.mk (blk_below (g := gb165) (o := .cells #[.int .i64 t160, .slice Ao31 t161.length co31] 24 (0, 0)) (by (with_reducible repeat (first | refine blk_drewN ?_ _ | refine blk_drew ?_ | refine blk_alloc ?_ _)); refine blk_far ?_ NB165_183.out _; (with_reducible repeat (first | refine blk_drewN ?_ _ | refine blk_drew ?_ | refine blk_alloc ?_ _)); refine blk_far ?_ NB165_183.out _; (with_reducible repeat (first | refine blk_drewN ?_ _ | refine blk_drew ?_ | refine blk_alloc ?_ _)); exact BK165.out) hb); have n8_ := Aside0.mk (blk_below (g := gb171) (o := .cells #[.int .i64 t166, .slice Ao39 t167.length co39] 24 (0, 0)) (by (with_reducible repeat (first | refine blk_drewN ?_ _ | refine blk_drew ?_ | refine blk_alloc ?_ _)); refine blk_far ?_ NB171_183.out _; (with_reducible repeat (first | refine blk_drewN ?_ _ | refine blk_drew ?_ | refine blk_alloc ?_ _)); refine blk_far ?_ NB171_183.out _; (with_reducible repeat (first | refine blk_drewN ?_ _ | refine blk_drew ?_ | refine blk_alloc ?_ _)); exact BK171.out) hb); have n9_ := Aside0.mk (blk_below (g := gb177) (o := .cells #[.int .i64 t172, .slice Ao48 t173.length co48] 24 (0, 0)) (by (with_reducible repeat (first | refine blk_drewN ?_ _ | refine blk_drew ?_ | refine blk_alloc ?_ _)); refine blk_far ?_ NB177_183.out _; (with_reducible repeat (first | refine blk_drewN ?_ _ | refine blk_drew ?_ | refine blk_alloc ?_ _)); refine blk_far ?_ NB177_183.out _; (with_reducible repeat (first | refine blk_drewN ?_ _ | refine blk_drew ?_ | refine blk_alloc ?_ _)); exact BK177.out) hb); have n10_ := Aside0.mk (blk_below (g := gb183) (o := .cells #[.int .i64 t178, .slice Ao58 t179.length co58] 24 (0, 0)) (by (with_reducible repeat (first | refine blk_drewN ?_ _ | refine blk_drew ?_ | refine blk_alloc ?_ _)); refine blk_put (cs := #[.int .i64 t178, .slice none 0 0]) ?_ 1 _ rfl; (with_reducible repeat (first | refine blk_drewN ?_ _ | refine blk_drew ?_ | refine blk_alloc ?_ _)); refine blk_put (cs := #[.int .i64 0, .slice none 0 0]) ?_ 0 _ rfl; (with_reducible repeat (first | refine blk_drewN ?_ _ | refine blk_drew ?_ | refine blk_alloc ?_ _)); exact BK183.out) hb); have n11_ := Aside0.mk (below_step (by repeat (first | (with_reducible first | exact HB.out | apply below_alloc | apply pw_below_drewN | apply below_drew1 | refine below_set ?_ GE152.out | refine below_set ?_ GE159.out | refine below_set ?_ GE165.out | refine below_set ?_ GE171.out | refine below_set ?_ GE177.out | refine below_set ?_ GE183.out) | exact HB.out)) hb); clear HO158; clear HO163; clear HO169; clear HO175; clear HO181; clear BK152; clear BK159; clear BK165; clear BK171; clear BK177; clear BK183; clear HB; have HO158 := n0_; have HO163 := n1_; have HO169 := n2_; have HO175 := n3_; have HO181 := n4_; have BK152 := n5_; have BK159 := n6_; have BK165 := n7_; have BK171 := n8_; have BK177 := n9_; have BK183 := n10_; have HB := n11_; clear n0_ n1_ n2_ n3_ n4_ n5_ n6_ n7_ n8_ n9_ n10_ n11_; (try clear hb); (try clear hb2); (try clear hk); (try clear hi)))
        go_meet
        case rel => exact ⟨_, (true), (by first | rfl | (simp; done) | (simp [*]; done)), H', ⟨by first | omega | exact Nat.le_refl _⟩, ⟨by (with_reducible repeat (first | apply Kd.R_alloc | apply Kd.R_drewN | apply Kd.R_drew)); exact Kd.R_mono HO158.out (fun _ hk => ⟨hk.1.1.1.2, ⟨hk.1.1.2, ⟨hk.1.2, hk.2⟩⟩⟩)⟩, ⟨by (with_reducible repeat (first | apply Kd.R_alloc | apply Kd.R_drewN | apply Kd.R_drew)); exact Kd.R_mono HO163.out (fun _ hk => ⟨hk.1.1.1.2, ⟨hk.1.1.2, ⟨hk.1.2, hk.2⟩⟩⟩)⟩, ⟨by (with_reducible repeat (first | apply Kd.R_alloc | apply Kd.R_drewN | apply Kd.R_drew)); exact Kd.R_mono HO169.out (fun _ hk => ⟨hk.1.1.1.2, ⟨hk.1.1.2, ⟨hk.1.2, hk.2⟩⟩⟩)⟩, ⟨by (with_reducible repeat (first | apply Kd.R_alloc | apply Kd.R_drewN | apply Kd.R_drew)); exact Kd.R_mono HO175.out (fun _ hk => ⟨hk.1.1.1.2, ⟨hk.1.1.2, ⟨hk.1.2, hk.2⟩⟩⟩)⟩, ⟨by (with_reducible repeat (first | apply Kd.R_alloc | apply Kd.R_drewN | apply Kd.R_drew)); exact Kd.R_mono HO181.out (fun _ hk => ⟨hk.1.1.1.2, ⟨hk.1.1.2, ⟨hk.1.2, hk.2⟩⟩⟩)⟩, ⟨by (with_reducible repeat (first | refine blk_drewN ?_ _ | refine blk_drew ?_ | refine blk_alloc ?_ _)); exact BK152.out⟩, ⟨by (with_reducible repeat (first | refine blk_drewN ?_ _ | refine blk_drew ?_ | refine blk_alloc ?_ _)); exact BK159.out⟩, ⟨by (with_reducible repeat (first | refine blk_drewN ?_ _ | refine blk_drew ?_ | refine blk_alloc ?_ _)); exact BK165.out⟩, ⟨by (with_reducible repeat (first | refine blk_drewN ?_ _ | refine blk_drew ?_ | refine blk_alloc ?_ _)); exact BK171.out⟩, ⟨by (with_reducible repeat (first | refine blk_drewN ?_ _ | refine blk_drew ?_ | refine blk_alloc ?_ _)); exact BK177.out⟩, ⟨by (with_reducible repeat (first | refine blk_drewN ?_ _ | refine blk_drew ?_ | refine blk_alloc ?_ _)); exact BK183.out⟩, ⟨by repeat (first | (with_reducible first | exact HB.out | apply below_alloc | apply pw_below_drewN | apply below_drew1 | refine below_set ?_ GE152.out | refine below_set ?_ GE159.out | refine below_set ?_ GE165.out | refine below_set ?_ GE171.out | refine below_set ?_ GE177.out | refine below_set ?_ GE183.out) | exact HB.out)⟩⟩
    case rest =>
      clear HC15
      try clear c1
      try clear c2
      try clear p2
      try clear c3
      try clear c4
      try clear c5
      try clear c6
      try clear c7
      try clear c8
      try clear c9
      try clear c10
      try clear c11
      try clear c12
      try clear c21
      try clear c22
      try clear c28
      try clear c29
      try clear c35
      try clear c36
      try clear c37
      try clear c43
      try clear c44
      try clear c45
      try clear c46
      try clear c47
      try clear c48
      try clear c52
      try clear c53
      try clear c54
      try clear c55
      try clear c56
      try clear c60
      try clear c61
      try clear c61b0
      try clear c61b1
      try clear c63
      try clear c64
      try clear c65
      try clear c66
      try clear c67
      try clear c68
      try clear c70
      try clear c71
      try clear c72
      try clear c73
      try clear c76
      try clear c77
      try clear c78
      try clear c80
      try clear c81
      try clear c84
      try clear c85
      try clear c86
      try clear c87
      try clear c88
      try clear c90
      try clear c91
      try clear c92
      try clear c93
      try clear c96
      try clear c97
      try clear c98
      try clear c100
      try clear c101
      try clear c104
      try clear c105
      try clear c106
      try clear c107
      try clear c108
      try clear c110
      try clear c111
      try clear c112
      try clear c113
      try clear c116
      try clear c117
      try clear c118
      try clear c119
      try clear c120
      try clear c122
      try clear c123
      try clear c124
      try clear c125
      try clear hcz102_0
      try clear hcz102_1
      try clear hcz109_0
      try clear hcz109_1
      try clear hcz114_0
      try clear hcz114_1
      try clear hcz121_0
      try clear hcz121_1
      try clear hcz126_0
      try clear hcz126_1
      try clear hcz17_0
      try clear hcz17_1
      try clear hcz19_0
      try clear hcz19_1
      try clear hcz23_0
      try clear hcz23_1
      try clear hcz25_0
      try clear hcz25_1
      try clear hcz30_0
      try clear hcz30_1
      try clear hcz32_0
      try clear hcz32_1
      try clear hcz38_0
      try clear hcz38_1
      try clear hcz40_0
      try clear hcz40_1
      try clear hcz47_0
      try clear hcz47_1
      try clear hcz49_0
      try clear hcz49_1
      try clear hcz57_0
      try clear hcz57_1
      try clear hcz69_0
      try clear hcz69_1
      try clear hcz74_0
      try clear hcz74_1
      try clear hcz79_0
      try clear hcz79_1
      try clear hcz7_0
      try clear hcz7_1
      try clear hcz82_0
      try clear hcz82_1
      try clear hcz89_0
      try clear hcz89_1
      try clear hcz94_0
      try clear hcz94_1
      try clear hcz99_0
      try clear hcz99_1
      try clear hfz102_0
      try clear hfz102_1
      try clear hfz109_0
      try clear hfz109_1
      try clear hfz114_0
      try clear hfz114_1
      try clear hfz121_0
      try clear hfz121_1
      try clear hfz126_0
      try clear hfz126_1
      try clear hfz17_0
      try clear hfz17_1
      try clear hfz19_0
      try clear hfz19_1
      try clear hfz23_0
      try clear hfz23_1
      try clear hfz25_0
      try clear hfz25_1
      try clear hfz30_0
      try clear hfz30_1
      try clear hfz32_0
      try clear hfz32_1
      try clear hfz38_0
      try clear hfz38_1
      try clear hfz40_0
      try clear hfz40_1
      try clear hfz47_0
      try clear hfz47_1
      try clear hfz49_0
      try clear hfz49_1
      try clear hfz57_0
      try clear hfz57_1
      try clear hfz69_0
      try clear hfz69_1
      try clear hfz74_0
      try clear hfz74_1
      try clear hfz79_0
      try clear hfz79_1
      try clear hfz7_0
      try clear hfz7_1
      try clear hfz82_0
      try clear hfz82_1
      try clear hfz89_0
      try clear hfz89_1
      try clear hfz94_0
      try clear hfz94_1
      try clear hfz99_0
      try clear hfz99_1
      obtain ⟨kq, x63_14, rfl, HA, HJ14, HO_160001, HO_166001, HO_172001, HO_178001, HO_184001, BK152, BK159, BK165, BK171, BK177, BK183, HB⟩ := hcut
      cases kq with
      | zero => exact absurd HA.out (by simp [verditerlaw03_feudDrops.j0])
      | succ kj14 =>
        have H := HA.out
        clear HA
        simp only [verditerlaw03_feudDrops.j0] at H
        by_cases c128 : x63_14 = true
        · subst c128
          have H1 : (some false) = some r := by rw [if_pos rfl] at H; exact H
          clear H
          have H := H1
          clear H1
          obtain rfl := Option.some.inj H
          go_wp2
          go_ret
          exact ⟨by first | rfl | (simp [errW_none, errW_some] <;> rfl) | (simp [*, errW_none, errW_some] <;> rfl), by repeat (first | (with_reducible first | exact HB.out | apply below_alloc | apply pw_below_drewN | apply below_drew1 | refine below_set ?_ GE152.out | refine below_set ?_ GE159.out | refine below_set ?_ GE165.out | refine below_set ?_ GE171.out | refine below_set ?_ GE177.out | refine below_set ?_ GE183.out) | exact HB.out)⟩
        · replace c128 := Bool.eq_false_iff.mpr c128
          subst c128
          have H1 : (verditerlaw03_feudDrops.l0 kj14 0 a0_0 l0_1 t155 t156 t172 t173) = some r := by rw [if_neg (show ¬ (false = true) by decide)] at H; exact H
          clear H
          have H := H1
          clear H1
          have H' := Aside0.mk H
          clear H
          go_wp2
          go_loopg [14] kj14 (fun kq v14 w' => ∃ (x14_2 : Int) (x160001_2 : List (S43)) (x166001_2 : List (S43)) (x172001_2 : List (S43)) (x178001_2 : List (S43)) (x184001_2 : List (S43)) (u160001 : Value) (u166001 : Value) (u172001 : Value) (u178001 : Value) (u184001 : Value), v14 = .int .i64 x14_2 ∧ Aside0 (verditerlaw03_feudDrops.l0 kq x14_2 a0_0 l0_1 t155 x160001_2 t172 x178001_2 = some r) ∧ Aside0 (kq ≤ kj14) ∧ Aside0 (Kd.R k43 43 w' w.heap.size (fun k_ => some k_ ≠ (u166001 : Value).ownBlock ∧ some k_ ≠ (u172001 : Value).ownBlock ∧ some k_ ≠ (u178001 : Value).ownBlock ∧ some k_ ≠ (u184001 : Value).ownBlock) u160001 x160001_2) ∧ Aside0 (Kd.R k43 43 w' w.heap.size (fun k_ => some k_ ≠ (u160001 : Value).ownBlock ∧ some k_ ≠ (u172001 : Value).ownBlock ∧ some k_ ≠ (u178001 : Value).ownBlock ∧ some k_ ≠ (u184001 : Value).ownBlock) u166001 x166001_2) ∧ Aside0 (Kd.R k43 43 w' w.heap.size (fun k_ => some k_ ≠ (u160001 : Value).ownBlock ∧ some k_ ≠ (u166001 : Value).ownBlock ∧ some k_ ≠ (u178001 : Value).ownBlock ∧ some k_ ≠ (u184001 : Value).ownBlock) u172001 x172001_2) ∧ Aside0 (Kd.R k43 43 w' w.heap.size (fun k_ => some k_ ≠ (u160001 : Value).ownBlock ∧ some k_ ≠ (u166001 : Value).ownBlock ∧ some k_ ≠ (u172001 : Value).ownBlock ∧ some k_ ≠ (u184001 : Value).ownBlock) u178001 x178001_2) ∧ Aside0 (Kd.R k43 43 w' w.heap.size (fun k_ => some k_ ≠ (u160001 : Value).ownBlock ∧ some k_ ≠ (u166001 : Value).ownBlock ∧ some k_ ≠ (u172001 : Value).ownBlock ∧ some k_ ≠ (u178001 : Value).ownBlock) u184001 x184001_2) ∧ Aside0 (w'.heap[gb152]? = some (.cells #[.int .i64 a0_0, (.slice A0_1 l0_1.length c0_1)] 24 (0, 0))) ∧ Aside0 (w'.heap[gb159]? = some (.cells #[.int .i64 t155, u160001] 24 (0, 0))) ∧ Aside0 (w'.heap[gb165]? = some (.cells #[.int .i64 t160, u166001] 24 (0, 0))) ∧ Aside0 (w'.heap[gb171]? = some (.cells #[.int .i64 t166, u172001] 24 (0, 0))) ∧ Aside0 (w'.heap[gb177]? = some (.cells #[.int .i64 t172, u178001] 24 (0, 0))) ∧ Aside0 (w'.heap[gb183]? = some (.cells #[.int .i64 t178, u184001] 24 (0, 0))) ∧ Aside0 (Below w.heap.size w w'))
          case atStart => exact ⟨(0), (t156), (t161), (t167), (t173), (t179), (.slice Ao24 t156.length co24), (.slice Ao31 t161.length co31), (.slice Ao39 t167.length co39), (.slice Ao48 t173.length co48), (.slice Ao58 t179.length co58), (by first | rfl | (simp; done) | (simp [*]; done)), H', ⟨Nat.le_refl _⟩, ⟨by (with_reducible repeat (first | apply Kd.R_alloc | apply Kd.R_drewN | apply Kd.R_drew)); exact HO_160001.out⟩, ⟨by (with_reducible repeat (first | apply Kd.R_alloc | apply Kd.R_drewN | apply Kd.R_drew)); exact HO_166001.out⟩, ⟨by (with_reducible repeat (first | apply Kd.R_alloc | apply Kd.R_drewN | apply Kd.R_drew)); exact HO_172001.out⟩, ⟨by (with_reducible repeat (first | apply Kd.R_alloc | apply Kd.R_drewN | apply Kd.R_drew)); exact HO_178001.out⟩, ⟨by (with_reducible repeat (first | apply Kd.R_alloc | apply Kd.R_drewN | apply Kd.R_drew)); exact HO_184001.out⟩, ⟨by (with_reducible repeat (first | refine blk_drewN ?_ _ | refine blk_drew ?_ | refine blk_alloc ?_ _)); exact BK152.out⟩, ⟨by (with_reducible repeat (first | refine blk_drewN ?_ _ | refine blk_drew ?_ | refine blk_alloc ?_ _)); exact BK159.out⟩, ⟨by (with_reducible repeat (first | refine blk_drewN ?_ _ | refine blk_drew ?_ | refine blk_alloc ?_ _)); exact BK165.out⟩, ⟨by (with_reducible repeat (first | refine blk_drewN ?_ _ | refine blk_drew ?_ | refine blk_alloc ?_ _)); exact BK171.out⟩, ⟨by (with_reducible repeat (first | refine blk_drewN ?_ _ | refine blk_drew ?_ | refine blk_alloc ?_ _)); exact BK177.out⟩, ⟨by (with_reducible repeat (first | refine blk_drewN ?_ _ | refine blk_drew ?_ | refine blk_alloc ?_ _)); exact BK183.out⟩, ⟨by repeat (first | (with_reducible first | exact HB.out | apply below_alloc | apply pw_below_drewN | apply below_drew1 | refine below_set ?_ GE152.out | refine below_set ?_ GE159.out | refine below_set ?_ GE165.out | refine below_set ?_ GE171.out | refine below_set ?_ GE177.out | refine below_set ?_ GE183.out) | exact HB.out)⟩⟩
          case round =>
            clear H'
            try clear c1
            try clear c2
            try clear p2
            try clear c3
            try clear c4
            try clear c5
            try clear c6
            try clear c7
            try clear c8
            try clear c9
            try clear c10
            try clear c11
            try clear c12
            try clear c21
            try clear c22
            try clear c28
            try clear c29
            try clear c35
            try clear c36
            try clear c37
            try clear c43
            try clear c44
            try clear c45
            try clear c46
            try clear c47
            try clear c48
            try clear c52
            try clear c53
            try clear c54
            try clear c55
            try clear c56
            try clear c60
            try clear c61
            try clear c61b0
            try clear c61b1
            try clear c63
            try clear c64
            try clear c65
            try clear c66
            try clear c67
            try clear c68
            try clear c70
            try clear c71
            try clear c72
            try clear c73
            try clear c76
            try clear c77
            try clear c78
            try clear c80
            try clear c81
            try clear c84
            try clear c85
            try clear c86
            try clear c87
            try clear c88
            try clear c90
            try clear c91
            try clear c92
            try clear c93
            try clear c96
            try clear c97
            try clear c98
            try clear c100
            try clear c101
            try clear c104
            try clear c105
            try clear c106
            try clear c107
            try clear c108
            try clear c110
            try clear c111
            try clear c112
            try clear c113
            try clear c116
            try clear c117
            try clear c118
            try clear c119
            try clear c120
            try clear c122
            try clear c123
            try clear c124
            try clear c125
            try clear c128
            try clear hcz102_0
            try clear hcz102_1
            try clear hcz109_0
            try clear hcz109_1
            try clear hcz114_0
            try clear hcz114_1
            try clear hcz121_0
            try clear hcz121_1
            try clear hcz126_0
            try clear hcz126_1
            try clear hcz17_0
            try clear hcz17_1
            try clear hcz19_0
            try clear hcz19_1
            try clear hcz23_0
            try clear hcz23_1
            try clear hcz25_0
            try clear hcz25_1
            try clear hcz30_0
            try clear hcz30_1
            try clear hcz32_0
            try clear hcz32_1
            try clear hcz38_0
            try clear hcz38_1
            try clear hcz40_0
            try clear hcz40_1
            try clear hcz47_0
            try clear hcz47_1
            try clear hcz49_0
            try clear hcz49_1
            try clear hcz57_0
            try clear hcz57_1
            try clear hcz69_0
            try clear hcz69_1
            try clear hcz74_0
            try clear hcz74_1
            try clear hcz79_0
            try clear hcz79_1
            try clear hcz7_0
            try clear hcz7_1
            try clear hcz82_0
            try clear hcz82_1
            try clear hcz89_0
            try clear hcz89_1
            try clear hcz94_0
            try clear hcz94_1
            try clear hcz99_0
            try clear hcz99_1
            try clear hfz102_0
            try clear hfz102_1
            try clear hfz109_0
            try clear hfz109_1
            try clear hfz114_0
            try clear hfz114_1
            try clear hfz121_0
            try clear hfz121_1
            try clear hfz126_0
            try clear hfz126_1
            try clear hfz17_0
            try clear hfz17_1
            try clear hfz19_0
            try clear hfz19_1
            try clear hfz23_0
            try clear hfz23_1
            try clear hfz25_0
            try clear hfz25_1
            try clear hfz30_0
            try clear hfz30_1
            try clear hfz32_0
            try clear hfz32_1
            try clear hfz38_0
            try clear hfz38_1
            try clear hfz40_0
            try clear hfz40_1
            try clear hfz47_0
            try clear hfz47_1
            try clear hfz49_0
            try clear hfz49_1
            try clear hfz57_0
            try clear hfz57_1
            try clear hfz69_0
            try clear hfz69_1
            try clear hfz74_0
            try clear hfz74_1
            try clear hfz79_0
            try clear hfz79_1
            try clear hfz7_0
            try clear hfz7_1
            try clear hfz82_0
            try clear hfz82_1
            try clear hfz89_0
            try clear hfz89_1
            try clear hfz94_0
            try clear hfz94_1
            try clear hfz99_0
            try clear hfz99_1
            try clear p2
            obtain ⟨x14_2, x160001_2, x166001_2, x172001_2, x178001_2, x184001_2, u160001, u166001, u172001, u178001, u184001, rfl, HA, HK2, HO_160001, HO_166001, HO_172001, HO_178001, HO_184001, BK152, BK159, BK165, BK171, BK177, BK183, HB⟩ := hrel
            cases gk with
            | zero => exact absurd HA.out (by simp [verditerlaw03_feudDrops.l0])
            | succ k2 =>
              have H := HA.out
              clear HA
              simp only [verditerlaw03_feudDrops.l0] at H
              by_cases c129 : x14_2 < (x178001_2.length : Int)
              · rw [if_pos c129] at H
                have c129b0 : decide (x14_2 < (x178001_2.length : Int)) = true := decide_eq_true c129
                clear c129
                by_cases c130 : 0 ≤ x14_2
                · rw [if_pos c130] at H
                  have c130b0 : decide (0 ≤ x14_2) = true := decide_eq_true c130
                  clear c130
                  obtain ⟨y186, hy186⟩ : ∃ y_ : List (S43), y_ = (x178001_2.set (x14_2 : Int).toNat (⟨(-1), (rd_T43 x178001_2 x14_2).f1⟩ : S43)) := ⟨_, rfl⟩
                  replace H : (verditerlaw03_feudDrops.l0 k2 (wrap64 (x14_2 + 1)) a0_0 l0_1 t155 x160001_2 t172 y186) = some r := by first | (rw [hy186]; with_reducible exact H) | (have H2_ := (Option.bind_some _ _).symm.trans H; rw [hy186]; with_reducible exact H2_) | (have H2_ := (Option.bind_some _ _).symm.trans H; with_reducible exact H2_) | with_reducible exact H | (rw [hy186]; exact H) | exact H
                  have Ny186 := Aside0.mk hy186
                  clear hy186
                  have H' := Aside0.mk H
                  clear H
                  have hnb132 := NB177_152.out
                  have hnc132 := NB152_177.out
                  have hnb133 := NB177_159.out
                  have hnc133 := NB159_177.out
                  have hnb134 := NB177_165.out
                  have hnc134 := NB165_177.out
                  have hnb135 := NB177_171.out
                  have hnc135 := NB171_177.out
                  have hnb136 := NB177_183.out
                  have hnc136 := NB183_177.out
                  have hcz137_0 : wr.cell? ⟨gb177, 0, none⟩ = some (.int .i64 t172) := (blk_cell BK177.out 0).trans rfl
                  have hcz137_1 : wr.cell? ⟨gb177, 1, none⟩ = some (u178001) := (blk_cell BK177.out 1).trans rfl
                  have hfz137_0 := blk_frozen BK177.out 0
                  have hfz137_1 := blk_frozen BK177.out 1
                  obtain ⟨Ao138, co138, eo138⟩ := Kd.R_slice HO_178001.out
                  subst eo138
                  have p131 : 0 ≤ (x14_2 : Int) := of_decide_eq_true (by first | (with_reducible assumption) | assumption)
                  have q131 : (x14_2 : Int) < ((x178001_2.length : Int) : Int) := of_decide_eq_true (by first | (with_reducible assumption) | assumption)
                  obtain ⟨go131, co131, eo131, gb131, gl131, cl131, HG131⟩ := Kd.R_form HO_178001.out (by omega)
                  (first | cases eo131 | (injection eo131 with ea_ en_ ec_; (first | subst ea_ | (injection ea_ with ea_; subst ea_)); subst ec_; clear en_))
                  have GB131 := Aside0.mk gb131
                  have GG131 := Aside0.mk HG131
                  clear gb131 gl131 HG131
                  obtain ⟨ce131, hcl131, hM131, hcc131, hfr131⟩ := Kd.R_elem HO_178001.out z43 (x14_2 : Int) p131 q131
                  obtain rfl := k43_openM hM131
                  have hx131_0 : wr.cell? ⟨go131, (x14_2 : Int).toNat * 2, none⟩ = some (.int .i64 ((rd_T43 x178001_2 x14_2).f0)) := hcc131 0 _ rfl
                  have hx131_1 : wr.cell? ⟨go131, (x14_2 : Int).toNat * 2 + 1, none⟩ = some (.int .i64 ((rd_T43 x178001_2 x14_2).f1)) := hcc131 1 _ rfl
                  have hf131_0 : wr.frozen? ⟨go131, (x14_2 : Int).toNat * 2, none⟩ = false := hfr131 0
                  have hf131_1 : wr.frozen? ⟨go131, (x14_2 : Int).toNat * 2 + 1, none⟩ = false := hfr131 1
                  clear hcl131 hcc131 hfr131 hM131
                  replace p131 := eq_true p131
                  replace q131 := eq_true q131
                  have HX139 := Aside0.mk (show Kd.R k43 43 wr w.heap.size (fun k_ => some k_ ≠ (u160001 : Value).ownBlock ∧ some k_ ≠ (u166001 : Value).ownBlock ∧ some k_ ≠ (u172001 : Value).ownBlock ∧ some k_ ≠ (u184001 : Value).ownBlock) (.slice (some ⟨go131, 0, none⟩) x178001_2.length co138) x178001_2 from (by (with_reducible repeat (first | apply Kd.R_alloc | apply Kd.R_drewN | apply Kd.R_drew)); exact HO_178001.out))
                  obtain ⟨ce139, hcl139, hM139, hcc139, hfr139⟩ := Kd.R_elem HX139.out z43 (x14_2 : Int) (of_decide_eq_true (by first | (with_reducible assumption) | assumption)) (by have h_ : (x14_2 : Int) < ((x178001_2.length : Int) : Int) := of_decide_eq_true (by first | (with_reducible assumption) | assumption); first | exact h_ | (have e_ := (Kd.R_reads' HO_178001.out).1; omega) | simpa using h_)
                  obtain rfl := k43_openM hM139
                  have HP139 := Kd.R_seg HX139.out (x14_2 : Int) (of_decide_eq_true (by first | (with_reducible assumption) | assumption)) (by have h_ : (x14_2 : Int) < ((x178001_2.length : Int) : Int) := of_decide_eq_true (by first | (with_reducible assumption) | assumption); first | exact h_ | (have e_ := (Kd.R_reads' HO_178001.out).1; omega) | simpa using h_) (seg := [.int .i64 (-1)]) (j := 0) hcl139 hcc139 (show 1 ≤ 2 from by decide) (x' := (⟨(-1), (rd_T43 x178001_2 x14_2).f1⟩ : S43)) (k43_mkM _ _ _ (⟨(-1), (rd_T43 x178001_2 x14_2).f1⟩ : S43) ) (fun _ hk => hk)
                  have hx139_0 := hcc139 0 _ rfl
                  (try simp only [show (k43).sz = 2 from rfl, Nat.mul_one, Nat.add_zero] at hx139_0)
                  have hf139_0 := hfr139 0
                  (try simp only [show (k43).sz = 2 from rfl, Nat.mul_one, Nat.add_zero] at hf139_0)
                  clear hcl139 hcc139 hfr139 hM139
                  go_wp2_with (first | ((with_reducible refine gate_store (t := 3) (p := 75) rfl ?_); refine store_event (t := 3) (p := 75) (v := ?vo_w140) (w1 := (wr.setCell ⟨go131, (x14_2 : Int).toNat * 2, none⟩ (.int .i64 (-1)))) ?hg ?ho ?hn ?hr ?_; (case ho => rfl); (case hg => rfl); (case hn => rfl); (case hr => first | (go_simp; done) | (go_simp; rfl)); intro w140 hw; have hg : wr.grownBy w140 (some go131) := (by rw [hw]; exact HP139.2); have hp_ : Kd.R k43 43 w140 w.heap.size (fun k_ => some k_ ≠ (u160001 : Value).ownBlock ∧ some k_ ≠ (u166001 : Value).ownBlock ∧ some k_ ≠ (u172001 : Value).ownBlock ∧ some k_ ≠ (u184001 : Value).ownBlock) (.slice (some ⟨go131, 0, none⟩) x178001_2.length co138) y186 := (by rw [hw, Ny186.out]; exact HP139.1); clear HP139; have n0_ := Aside0.mk (Kd.R_after (v := (.slice (some ⟨go131, 0, none⟩) x178001_2.length co138)) (v1 := (.slice (some ⟨go131, 0, none⟩) x178001_2.length co138)) (ok := (fun k_ => some k_ ≠ (u166001 : Value).ownBlock ∧ some k_ ≠ (u172001 : Value).ownBlock ∧ some k_ ≠ (u184001 : Value).ownBlock)) (by (with_reducible repeat (first | apply Kd.R_alloc | apply Kd.R_drewN | apply Kd.R_drew)); exact Kd.R_mono HO_160001.out (fun _ hk => ⟨⟨hk.1, ⟨hk.2.1, hk.2.2.2⟩⟩, hk.2.2.1⟩)) hg (.inl rfl)); have n1_ := Aside0.mk (Kd.R_after (v := (.slice (some ⟨go131, 0, none⟩) x178001_2.length co138)) (v1 := (.slice (some ⟨go131, 0, none⟩) x178001_2.length co138)) (ok := (fun k_ => some k_ ≠ (u160001 : Value).ownBlock ∧ some k_ ≠ (u172001 : Value).ownBlock ∧ some k_ ≠ (u184001 : Value).ownBlock)) (by (with_reducible repeat (first | apply Kd.R_alloc | apply Kd.R_drewN | apply Kd.R_drew)); exact Kd.R_mono HO_166001.out (fun _ hk => ⟨⟨hk.1, ⟨hk.2.1, hk.2.2.2⟩⟩, hk.2.2.1⟩)) hg (.inl rfl)); have n2_ := Aside0.mk (Kd.R_after (v := (.slice (some ⟨go131, 0, none⟩) x178001_2.length co138)) (v1 := (.slice (some ⟨go131, 0, none⟩) x178001_2.length co138)) (ok := (fun k_ => some k_ ≠ (u160001 : Value).ownBlock ∧ some k_ ≠ (u166001 : Value).ownBlock ∧ some k_ ≠ (u184001 : Value).ownBlock)) (by (with_reducible repeat (first | apply Kd.R_alloc | apply Kd.R_drewN | apply Kd.R_drew)); exact Kd.R_mono HO_172001.out (fun _ hk => ⟨⟨hk.1, ⟨hk.2.1, hk.2.2.2⟩⟩, hk.2.2.1⟩)) hg (.inl rfl)); have n3_ := Aside0.mk (hp_); have n4_ := Aside0.mk (Kd.R_after (v := (.slice (some ⟨go131, 0, none⟩) x178001_2.length co138)) (v1 := (.slice (some ⟨go131, 0, none⟩) x178001_2.length co138)) (ok := (fun k_ => some k_ ≠ (u160001 : Value).ownBlock ∧ some k_ ≠ (u166001 : Value).ownBlock ∧ some k_ ≠ (u172001 : Value).ownBlock)) (by (with_reducible repeat (first | apply Kd.R_alloc | apply Kd.R_drewN | apply Kd.R_drew)); exact Kd.R_mono HO_184001.out (fun _ hk => ⟨⟨hk.1, ⟨hk.2.1, hk.2.2.1⟩⟩, hk.2.2.2⟩)) hg (.inl rfl)); have n5_ := Aside0.mk (blk_grown (g := gb152) (o := .cells #[.int .i64 a0_0, .slice A0_1 l0_1.length c0_1] 24 (0, 0)) (by (with_reducible repeat (first | refine blk_drewN ?_ _ | refine blk_drew ?_ | refine blk_alloc ?_ _)); exact BK152.out) hg (Kd.R_ne HO_178001.out BK152.out (by decide))); have n6_ := Aside0.mk (blk_grown (g := gb159) (o := .cells #[.int .i64 t155, u160001] 24 (0, 0)) (by (with_reducible repeat (first | refine blk_drewN ?_ _ | refine blk_drew ?_ | refine blk_alloc ?_ _)); exact BK159.out) hg (Kd.R_ne HO_178001.out BK159.out (by decide))); have n7_ := Aside0.mk (blk_grown (g := gb165) (o := .cells #[.int .i64 t160, u166001] 24 (0, 0)) (by (with_reducible repeat (first | refine blk_drewN ?_ _ | refine blk_drew ?_ | refine blk_alloc ?_ _)); exact BK165.out) hg (Kd.R_ne HO_178001.out BK165.out (by decide))); have n8_ := Aside0.mk (blk_grown (g := gb171) (o := .cells #[.int .i64 t166, u172001] 24 (0, 0)) (by (with_reducible repeat (first | refine blk_drewN ?_ _ | refine blk_drew ?_ | refine blk_alloc ?_ _)); exact BK171.out) hg (Kd.R_ne HO_178001.out BK171.out (by decide))); have n9_ := Aside0.mk (blk_grown (g := gb177) (o := .cells #[.int .i64 t172, .slice (some ⟨go131, 0, none⟩) x178001_2.length co138] 24 (0, 0)) (by (with_reducible repeat (first | refine blk_drewN ?_ _ | refine blk_drew ?_ | refine blk_alloc ?_ _)); exact BK177.out) hg (Kd.R_ne HO_178001.out BK177.out (by decide))); have n10_ := Aside0.mk (blk_grown (g := gb183) (o := .cells #[.int .i64 t178, u184001] 24 (0, 0)) (by (with_reducible repeat (first | refine blk_drewN ?_ _ | refine blk_drew ?_ | refine blk_alloc ?_ _)); exact BK183.out) hg (Kd.R_ne HO_178001.out BK183.out (by decide))); have n11_ := Aside0.mk ((by rw [hw]; exact below_set (HB.out) GB131.out : Below w.heap.size w w140)); clear HO_160001; clear HO_166001; clear HO_172001; clear HO_178001; clear HO_184001; clear BK152; clear BK159; clear BK165; clear BK171; clear BK177; clear BK183; clear HB; have HO_160001 := n0_; have HO_166001 := n1_; have HO_172001 := n2_; have HO_178001 := n3_; have HO_184001 := n4_; have BK152 := n5_; have BK159 := n6_; have BK165 := n7_; have BK171 := n8_; have BK177 := n9_; have BK183 := n10_; have HB := n11_; clear n0_ n1_ n2_ n3_ n4_ n5_ n6_ n7_ n8_ n9_ n10_ n11_; clear hg hw hp_))
                  go_roundg k2
                  case measure => have := HJ14.out; have := HK2.out; omega
                  case rel => exact ⟨(wrap64 (x14_2 + 1)), (x160001_2), (x166001_2), (x172001_2), (y186), (x184001_2), (u160001), (u166001), (u172001), (.slice (some ⟨go131, 0, none⟩) x178001_2.length co138), (u184001), (by first | rfl | (simp; done) | (simp [*]; done)), H', ⟨by have := HJ14.out; have := HK2.out; omega⟩, ⟨by (with_reducible repeat (first | apply Kd.R_alloc | apply Kd.R_drewN | apply Kd.R_drew)); exact Kd.R_mono HO_160001.out (fun _ hk => ⟨hk.1.1, ⟨hk.1.2.1, ⟨hk.2, hk.1.2.2⟩⟩⟩)⟩, ⟨by (with_reducible repeat (first | apply Kd.R_alloc | apply Kd.R_drewN | apply Kd.R_drew)); exact Kd.R_mono HO_166001.out (fun _ hk => ⟨hk.1.1, ⟨hk.1.2.1, ⟨hk.2, hk.1.2.2⟩⟩⟩)⟩, ⟨by (with_reducible repeat (first | apply Kd.R_alloc | apply Kd.R_drewN | apply Kd.R_drew)); exact Kd.R_mono HO_172001.out (fun _ hk => ⟨hk.1.1, ⟨hk.1.2.1, ⟨hk.2, hk.1.2.2⟩⟩⟩)⟩, ⟨by (with_reducible repeat (first | apply Kd.R_alloc | apply Kd.R_drewN | apply Kd.R_drew)); exact HO_178001.out⟩, ⟨by (with_reducible repeat (first | apply Kd.R_alloc | apply Kd.R_drewN | apply Kd.R_drew)); exact Kd.R_mono HO_184001.out (fun _ hk => ⟨hk.1.1, ⟨hk.1.2.1, ⟨hk.1.2.2, hk.2⟩⟩⟩)⟩, ⟨by (with_reducible repeat (first | refine blk_drewN ?_ _ | refine blk_drew ?_ | refine blk_alloc ?_ _)); exact BK152.out⟩, ⟨by (with_reducible repeat (first | refine blk_drewN ?_ _ | refine blk_drew ?_ | refine blk_alloc ?_ _)); exact BK159.out⟩, ⟨by (with_reducible repeat (first | refine blk_drewN ?_ _ | refine blk_drew ?_ | refine blk_alloc ?_ _)); exact BK165.out⟩, ⟨by (with_reducible repeat (first | refine blk_drewN ?_ _ | refine blk_drew ?_ | refine blk_alloc ?_ _)); exact BK171.out⟩, ⟨by (with_reducible repeat (first | refine blk_drewN ?_ _ | refine blk_drew ?_ | refine blk_alloc ?_ _)); exact BK177.out⟩, ⟨by (with_reducible repeat (first | refine blk_drewN ?_ _ | refine blk_drew ?_ | refine blk_alloc ?_ _)); exact BK183.out⟩, ⟨by repeat (first | (with_reducible first | exact HB.out | apply below_alloc | apply pw_below_drewN | apply below_drew1 | refine below_set ?_ GE152.out | refine below_set ?_ GE159.out | refine below_set ?_ GE165.out | refine below_set ?_ GE171.out | refine below_set ?_ GE177.out | refine below_set ?_ GE183.out) | exact HB.out)⟩⟩
                · rw [if_neg c130] at H
                  exact absurd H (by simp)
              · rw [if_neg c129] at H
                have c129b0 : decide (x14_2 < (x178001_2.length : Int)) = false := decide_eq_false c129
                clear c129
                replace H := Option.bind_eq_some_iff.mp H
                obtain ⟨t187, A1410, H⟩ := H
                replace H : (if t187 = true then ((verditerlaw03_known.f k2).bind fun t188 => (some t188)) else (some false)) = some r := H
                have A141 := Aside0.mk A1410
                clear A1410
                by_cases c142 : t187 = true
                · subst c142
                  have H1 : ((verditerlaw03_known.f k2).bind fun t188 => (some t188)) = some r := by rw [if_pos rfl] at H; exact H
                  clear H
                  have H := H1
                  clear H1
                  replace H := Option.bind_eq_some_iff.mp H
                  obtain ⟨t188, A1430, H⟩ := H
                  replace H : (some t188) = some r := H
                  have A143 := Aside0.mk A1430
                  clear A1430
                  obtain rfl := Option.some.inj H
                  have hnb144 := NB177_152.out
                  have hnc144 := NB152_177.out
                  have hnb145 := NB177_159.out
                  have hnc145 := NB159_177.out
                  have hnb146 := NB177_165.out
                  have hnc146 := NB165_177.out
                  have hnb147 := NB177_171.out
                  have hnc147 := NB171_177.out
                  have hnb148 := NB177_183.out
                  have hnc148 := NB183_177.out
                  have hcz149_0 : wr.cell? ⟨gb177, 0, none⟩ = some (.int .i64 t172) := (blk_cell BK177.out 0).trans rfl
                  have hcz149_1 : wr.cell? ⟨gb177, 1, none⟩ = some (u178001) := (blk_cell BK177.out 1).trans rfl
                  have hfz149_0 := blk_frozen BK177.out 0
                  have hfz149_1 := blk_frozen BK177.out 1
                  obtain ⟨Ao150, co150, eo150⟩ := Kd.R_slice HO_178001.out
                  subst eo150
                  have hnb151 := NB159_152.out
                  have hnc151 := NB152_159.out
                  have hnb152 := NB159_165.out
                  have hnc152 := NB165_159.out
                  have hnb153 := NB159_171.out
                  have hnc153 := NB171_159.out
                  have hnb154 := NB159_183.out
                  have hnc154 := NB183_159.out
                  have hcz155_0 : wr.cell? ⟨gb159, 0, none⟩ = some (.int .i64 t155) := (blk_cell BK159.out 0).trans rfl
                  have hcz155_1 : wr.cell? ⟨gb159, 1, none⟩ = some (u160001) := (blk_cell BK159.out 1).trans rfl
                  have hfz155_0 := blk_frozen BK159.out 0
                  have hfz155_1 := blk_frozen BK159.out 1
                  have hnb156 := NB152_165.out
                  have hnc156 := NB165_152.out
                  have hnb157 := NB152_171.out
                  have hnc157 := NB171_152.out
                  have hnb158 := NB152_183.out
                  have hnc158 := NB183_152.out
                  have hcz159_0 : wr.cell? ⟨gb152, 0, none⟩ = some (.int .i64 a0_0) := (blk_cell BK152.out 0).trans rfl
                  have hcz159_1 : wr.cell? ⟨gb152, 1, none⟩ = some (.slice A0_1 l0_1.length c0_1) := (blk_cell BK152.out 1).trans rfl
                  have hfz159_0 := blk_frozen BK152.out 0
                  have hfz159_1 := blk_frozen BK152.out 1
                  obtain ⟨Ao160, co160, eo160⟩ := Kd.R_slice HO_160001.out
                  subst eo160
                  go_wp2_with (first | ((with_reducible refine gate_callee (f := 48) rfl ?_); refine goesL_ (some 78) rfl rfl Try.func48 (by kernel_rfl) rfl #[.agg #[.int .i64 t155, .slice Ao160 x160001_2.length co160], .agg #[.int .i64 a0_0, .slice A0_1 l0_1.length c0_1]] rfl (by (try simp only [List.map_toArray, List.map_cons, List.map_nil]); first | done | rfl | (simp only [List.length_drop, List.length_take]; rfl)) ?_; (with_reducible refine (verditerref03_Same.calls k2 t155 _ _ x160001_2 a0_0 _ _ l0_1 true _ ?side1 ?side2 ?side3 ?side4 A141.out).mono ?_); (case side1 => repeat (first | exact (Kd.R_reads' HO_160001.out).2.2 | (with_reducible refine Kd.C_alloc ?_ _) | (with_reducible refine Kd.C_drewN ?_ _) | (with_reducible refine Kd.C_drew ?_))); (case side2 => exact (Kd.R_reads' HO_160001.out).2.1); (case side3 => repeat (first | exact (Kd.C_below HR0_1.out HB.out) | (with_reducible refine Kd.C_alloc ?_ _) | (with_reducible refine Kd.C_drewN ?_ _) | (with_reducible refine Kd.C_drew ?_))); (case side4 => exact HC0_1.out); rintro e w161 ⟨rfl, hb⟩; refine ⟨_, rfl, ?_⟩; have n0_ := Aside0.mk (Kd.R_below (by (with_reducible repeat (first | apply Kd.R_alloc | apply Kd.R_drewN | apply Kd.R_drew)); exact HO_160001.out) hb); have n1_ := Aside0.mk (Kd.R_below (by (with_reducible repeat (first | apply Kd.R_alloc | apply Kd.R_drewN | apply Kd.R_drew)); exact HO_166001.out) hb); have n2_ := Aside0.mk (Kd.R_below (by (with_reducible repeat (first | apply Kd.R_alloc | apply Kd.R_drewN | apply Kd.R_drew)); exact HO_172001.out) hb); have n3_ := Aside0.mk (Kd.R_below (by (with_reducible repeat (first | apply Kd.R_alloc | apply Kd.R_drewN | apply Kd.R_drew)); exact HO_178001.out) hb); have n4_ := Aside0.mk (Kd.R_below (by (with_reducible repeat (first | apply Kd.R_alloc | apply Kd.R_drewN | apply Kd.R_drew)); exact HO_184001.out) hb); have n5_ := Aside0.mk (blk_below (g := gb152) (o := .cells #[.int .i64 a0_0, .slice A0_1 l0_1.length c0_1] 24 (0, 0)) (by (with_reducible repeat (first | refine blk_drewN ?_ _ | refine blk_drew ?_ | refine blk_alloc ?_ _)); exact BK152.out) hb); have n6_ := Aside0.mk (blk_below (g := gb159) (o := .cells #[.int .i64 t155, .slice Ao160 x160001_2.length co160] 24 (0, 0)) (by (with_reducible repeat (first | refine blk_drewN ?_ _ | refine blk_drew ?_ | refine blk_alloc ?_ _)); exact BK159.out) hb); have n7_ := Aside0.mk (blk_below (g := gb165) (o := .cells #[.int .i64 t160, u166001] 24 (0, 0)) (by (with_reducible repeat (first | refine blk_drewN ?_ _ | refine blk_drew ?_ | refine blk_alloc ?_ _)); exact BK165.out) hb); have n8_ := Aside0.mk (blk_below (g := gb171) (o := .cells #[.int .i64 t166, u172001] 24 (0, 0)) (by (with_reducible repeat (first | refine blk_drewN ?_ _ | refine blk_drew ?_ | refine blk_alloc ?_ _)); exact BK171.out) hb); have n9_ := Aside0.mk (blk_below (g := gb177) (o := .cells #[.int .i64 t172, .slice Ao150 x178001_2.length co150] 24 (0, 0)) (by (with_reducible repeat (first | refine blk_drewN ?_ _ | refine blk_drew ?_ | refine blk_alloc ?_ _)); exact BK177.out) hb); have n10_ := Aside0.mk (blk_below (g := gb183) (o := .cells #[.int .i64 t178, u184001] 24 (0, 0)) (by (with_reducible repeat (first | refine blk_drewN ?_ _ | refine blk_drew ?_ | refine blk_alloc ?_ _)); exact BK183.out) hb); have n11_ := Aside0.mk (below_step (by repeat (first | (with_reducible first | exact HB.out | apply below_alloc | apply pw_below_drewN | apply below_drew1 | refine below_set ?_ GE152.out | refine below_set ?_ GE159.out | refine below_set ?_ GE165.out | refine below_set ?_ GE171.out | refine below_set ?_ GE177.out | refine below_set ?_ GE183.out) | exact HB.out)) hb); clear HO_160001; clear HO_166001; clear HO_172001; clear HO_178001; clear HO_184001; clear BK152; clear BK159; clear BK165; clear BK171; clear BK177; clear BK183; clear HB; have HO_160001 := n0_; have HO_166001 := n1_; have HO_172001 := n2_; have HO_178001 := n3_; have HO_184001 := n4_; have BK152 := n5_; have BK159 := n6_; have BK165 := n7_; have BK171 := n8_; have BK177 := n9_; have BK183 := n10_; have HB := n11_; clear n0_ n1_ n2_ n3_ n4_ n5_ n6_ n7_ n8_ n9_ n10_ n11_; (try clear hb); (try clear hb2); (try clear hk); (try clear hi)) | (go_at_call 36; (with_reducible refine (verditerlaw03_known.calls k2  t188 _ A143.out).mono ?_); rintro e w162 ⟨rfl, hb⟩; have n0_ := Aside0.mk (Kd.R_below (by (with_reducible repeat (first | apply Kd.R_alloc | apply Kd.R_drewN | apply Kd.R_drew)); exact HO_160001.out) hb); have n1_ := Aside0.mk (Kd.R_below (by (with_reducible repeat (first | apply Kd.R_alloc | apply Kd.R_drewN | apply Kd.R_drew)); exact HO_166001.out) hb); have n2_ := Aside0.mk (Kd.R_below (by (with_reducible repeat (first | apply Kd.R_alloc | apply Kd.R_drewN | apply Kd.R_drew)); exact HO_172001.out) hb); have n3_ := Aside0.mk (Kd.R_below (by (with_reducible repeat (first | apply Kd.R_alloc | apply Kd.R_drewN | apply Kd.R_drew)); exact HO_178001.out) hb); have n4_ := Aside0.mk (Kd.R_below (by (with_reducible repeat (first | apply Kd.R_alloc | apply Kd.R_drewN | apply Kd.R_drew)); exact HO_184001.out) hb); have n5_ := Aside0.mk (blk_below (g := gb152) (o := .cells #[.int .i64 a0_0, .slice A0_1 l0_1.length c0_1] 24 (0, 0)) (by (with_reducible repeat (first | refine blk_drewN ?_ _ | refine blk_drew ?_ | refine blk_alloc ?_ _)); exact BK152.out) hb); have n6_ := Aside0.mk (blk_below (g := gb159) (o := .cells #[.int .i64 t155, .slice Ao160 x160001_2.length co160] 24 (0, 0)) (by (with_reducible repeat (first | refine blk_drewN ?_ _ | refine blk_drew ?_ | refine blk_alloc ?_ _)); exact BK159.out) hb); have n7_ := Aside0.mk (blk_below (g := gb165) (o := .cells #[.int .i64 t160, u166001] 24 (0, 0)) (by (with_reducible repeat (first | refine blk_drewN ?_ _ | refine blk_drew ?_ | refine blk_alloc ?_ _)); exact BK165.out) hb); have n8_ := Aside0.mk (blk_below (g := gb171) (o := .cells #[.int .i64 t166, u172001] 24 (0, 0)) (by (with_reducible repeat (first | refine blk_drewN ?_ _ | refine blk_drew ?_ | refine blk_alloc ?_ _)); exact BK171.out) hb); have n9_ := Aside0.mk (blk_below (g := gb177) (o := .cells #[.int .i64 t172, .slice Ao150 x178001_2.length co150] 24 (0, 0)) (by (with_reducible repeat (first | refine blk_drewN ?_ _ | refine blk_drew ?_ | refine blk_alloc ?_ _)); exact BK177.out) hb); have n10_ := Aside0.mk (blk_below (g := gb183) (o := .cells #[.int .i64 t178, u184001] 24 (0, 0)) (by (with_reducible repeat (first | refine blk_drewN ?_ _ | refine blk_drew ?_ | refine blk_alloc ?_ _)); exact BK183.out) hb); have n11_ := Aside0.mk (below_step (by repeat (first | (with_reducible first | exact HB.out | apply below_alloc | apply pw_below_drewN | apply below_drew1 | refine below_set ?_ GE152.out | refine below_set ?_ GE159.out | refine below_set ?_ GE165.out | refine below_set ?_ GE171.out | refine below_set ?_ GE177.out | refine below_set ?_ GE183.out) | exact HB.out)) hb); clear HO_160001; clear HO_166001; clear HO_172001; clear HO_178001; clear HO_184001; clear BK152; clear BK159; clear BK165; clear BK171; clear BK177; clear BK183; clear HB; have HO_160001 := n0_; have HO_166001 := n1_; have HO_172001 := n2_; have HO_178001 := n3_; have HO_184001 := n4_; have BK152 := n5_; have BK159 := n6_; have BK165 := n7_; have BK171 := n8_; have BK177 := n9_; have BK183 := n10_; have HB := n11_; clear n0_ n1_ n2_ n3_ n4_ n5_ n6_ n7_ n8_ n9_ n10_ n11_; (try clear hb); (try clear hb2); (try clear hk); (try clear hi)))
                  go_ret
                  exact ⟨by first | rfl | (simp [errW_none, errW_some] <;> rfl) | (simp [*, errW_none, errW_some] <;> rfl), by repeat (first | (with_reducible first | exact HB.out | apply below_alloc | apply pw_below_drewN | apply below_drew1 | refine below_set ?_ GE152.out | refine below_set ?_ GE159.out | refine below_set ?_ GE165.out | refine below_set ?_ GE171.out | refine below_set ?_ GE177.out | refine below_set ?_ GE183.out) | exact HB.out)⟩
                · replace c142 := Bool.eq_false_iff.mpr c142
                  subst c142
                  have H1 : (some false) = some r := by rw [if_neg (show ¬ (false = true) by decide)] at H; exact H
                  clear H
                  have H := H1
                  clear H1
                  obtain rfl := Option.some.inj H
                  have hnb163 := NB177_152.out
                  have hnc163 := NB152_177.out
                  have hnb164 := NB177_159.out
                  have hnc164 := NB159_177.out
                  have hnb165 := NB177_165.out
                  have hnc165 := NB165_177.out
                  have hnb166 := NB177_171.out
                  have hnc166 := NB171_177.out
                  have hnb167 := NB177_183.out
                  have hnc167 := NB183_177.out
                  have hcz168_0 : wr.cell? ⟨gb177, 0, none⟩ = some (.int .i64 t172) := (blk_cell BK177.out 0).trans rfl
                  have hcz168_1 : wr.cell? ⟨gb177, 1, none⟩ = some (u178001) := (blk_cell BK177.out 1).trans rfl
                  have hfz168_0 := blk_frozen BK177.out 0
                  have hfz168_1 := blk_frozen BK177.out 1
                  obtain ⟨Ao169, co169, eo169⟩ := Kd.R_slice HO_178001.out
                  subst eo169
                  have hnb170 := NB159_152.out
                  have hnc170 := NB152_159.out
                  have hnb171 := NB159_165.out
                  have hnc171 := NB165_159.out
                  have hnb172 := NB159_171.out
                  have hnc172 := NB171_159.out
                  have hnb173 := NB159_183.out
                  have hnc173 := NB183_159.out
                  have hcz174_0 : wr.cell? ⟨gb159, 0, none⟩ = some (.int .i64 t155) := (blk_cell BK159.out 0).trans rfl
                  have hcz174_1 : wr.cell? ⟨gb159, 1, none⟩ = some (u160001) := (blk_cell BK159.out 1).trans rfl
                  have hfz174_0 := blk_frozen BK159.out 0
                  have hfz174_1 := blk_frozen BK159.out 1
                  have hnb175 := NB152_165.out
                  have hnc175 := NB165_152.out
                  have hnb176 := NB152_171.out
                  have hnc176 := NB171_152.out
                  have hnb177 := NB152_183.out
                  have hnc177 := NB183_152.out
                  have hcz178_0 : wr.cell? ⟨gb152, 0, none⟩ = some (.int .i64 a0_0) := (blk_cell BK152.out 0).trans rfl
                  have hcz178_1 : wr.cell? ⟨gb152, 1, none⟩ = some (.slice A0_1 l0_1.length c0_1) := (blk_cell BK152.out 1).trans rfl
                  have hfz178_0 := blk_frozen BK152.out 0
                  have hfz178_1 := blk_frozen BK152.out 1
                  obtain ⟨Ao179, co179, eo179⟩ := Kd.R_slice HO_160001.out
                  subst eo179
                  go_wp2_with (first | ((with_reducible refine gate_callee (f := 48) rfl ?_); refine goesL_ (some 78) rfl rfl Try.func48 (by kernel_rfl) rfl #[.agg #[.int .i64 t155, .slice Ao179 x160001_2.length co179], .agg #[.int .i64 a0_0, .slice A0_1 l0_1.length c0_1]] rfl (by (try simp only [List.map_toArray, List.map_cons, List.map_nil]); first | done | rfl | (simp only [List.length_drop, List.length_take]; rfl)) ?_; (with_reducible refine (verditerref03_Same.calls k2 t155 _ _ x160001_2 a0_0 _ _ l0_1 false _ ?side1 ?side2 ?side3 ?side4 A141.out).mono ?_); (case side1 => repeat (first | exact (Kd.R_reads' HO_160001.out).2.2 | (with_reducible refine Kd.C_alloc ?_ _) | (with_reducible refine Kd.C_drewN ?_ _) | (with_reducible refine Kd.C_drew ?_))); (case side2 => exact (Kd.R_reads' HO_160001.out).2.1); (case side3 => repeat (first | exact (Kd.C_below HR0_1.out HB.out) | (with_reducible refine Kd.C_alloc ?_ _) | (with_reducible refine Kd.C_drewN ?_ _) | (with_reducible refine Kd.C_drew ?_))); (case side4 => exact HC0_1.out); rintro e w180 ⟨rfl, hb⟩; refine ⟨_, rfl, ?_⟩; have n0_ := Aside0.mk (Kd.R_below (by (with_reducible repeat (first | apply Kd.R_alloc | apply Kd.R_drewN | apply Kd.R_drew)); exact HO_160001.out) hb); have n1_ := Aside0.mk (Kd.R_below (by (with_reducible repeat (first | apply Kd.R_alloc | apply Kd.R_drewN | apply Kd.R_drew)); exact HO_166001.out) hb); have n2_ := Aside0.mk (Kd.R_below (by (with_reducible repeat (first | apply Kd.R_alloc | apply Kd.R_drewN | apply Kd.R_drew)); exact HO_172001.out) hb); have n3_ := Aside0.mk (Kd.R_below (by (with_reducible repeat (first | apply Kd.R_alloc | apply Kd.R_drewN | apply Kd.R_drew)); exact HO_178001.out) hb); have n4_ := Aside0.mk (Kd.R_below (by (with_reducible repeat (first | apply Kd.R_alloc | apply Kd.R_drewN | apply Kd.R_drew)); exact HO_184001.out) hb); have n5_ := Aside0.mk (blk_below (g := gb152) (o := .cells #[.int .i64 a0_0, .slice A0_1 l0_1.length c0_1] 24 (0, 0)) (by (with_reducible repeat (first | refine blk_drewN ?_ _ | refine blk_drew ?_ | refine blk_alloc ?_ _)); exact BK152.out) hb); have n6_ := Aside0.mk (blk_below (g := gb159) (o := .cells #[.int .i64 t155, .slice Ao179 x160001_2.length co179] 24 (0, 0)) (by (with_reducible repeat (first | refine blk_drewN ?_ _ | refine blk_drew ?_ | refine blk_alloc ?_ _)); exact BK159.out) hb); have n7_ := Aside0.mk (blk_below (g := gb165) (o := .cells #[.int .i64 t160, u166001] 24 (0, 0)) (by (with_reducible repeat (first | refine blk_drewN ?_ _ | refine blk_drew ?_ | refine blk_alloc ?_ _)); exact BK165.out) hb); have n8_ := Aside0.mk (blk_below (g := gb171) (o := .cells #[.int .i64 t166, u172001] 24 (0, 0)) (by (with_reducible repeat (first | refine blk_drewN ?_ _ | refine blk_drew ?_ | refine blk_alloc ?_ _)); exact BK171.out) hb); have n9_ := Aside0.mk (blk_below (g := gb177) (o := .cells #[.int .i64 t172, .slice Ao169 x178001_2.length co169] 24 (0, 0)) (by (with_reducible repeat (first | refine blk_drewN ?_ _ | refine blk_drew ?_ | refine blk_alloc ?_ _)); exact BK177.out) hb); have n10_ := Aside0.mk (blk_below (g := gb183) (o := .cells #[.int .i64 t178, u184001] 24 (0, 0)) (by (with_reducible repeat (first | refine blk_drewN ?_ _ | refine blk_drew ?_ | refine blk_alloc ?_ _)); exact BK183.out) hb); have n11_ := Aside0.mk (below_step (by repeat (first | (with_reducible first | exact HB.out | apply below_alloc | apply pw_below_drewN | apply below_drew1 | refine below_set ?_ GE152.out | refine below_set ?_ GE159.out | refine below_set ?_ GE165.out | refine below_set ?_ GE171.out | refine below_set ?_ GE177.out | refine below_set ?_ GE183.out) | exact HB.out)) hb); clear HO_160001; clear HO_166001; clear HO_172001; clear HO_178001; clear HO_184001; clear BK152; clear BK159; clear BK165; clear BK171; clear BK177; clear BK183; clear HB; have HO_160001 := n0_; have HO_166001 := n1_; have HO_172001 := n2_; have HO_178001 := n3_; have HO_184001 := n4_; have BK152 := n5_; have BK159 := n6_; have BK165 := n7_; have BK171 := n8_; have BK177 := n9_; have BK183 := n10_; have HB := n11_; clear n0_ n1_ n2_ n3_ n4_ n5_ n6_ n7_ n8_ n9_ n10_ n11_; (try clear hb); (try clear hb2); (try clear hk); (try clear hi)))
                  go_ret
                  exact ⟨by first | rfl | (simp [errW_none, errW_some] <;> rfl) | (simp [*, errW_none, errW_some] <;> rfl), by repeat (first | (with_reducible first | exact HB.out | apply below_alloc | apply pw_below_drewN | apply below_drew1 | refine below_set ?_ GE152.out | refine below_set ?_ GE159.out | refine below_set ?_ GE165.out | refine below_set ?_ GE171.out | refine below_set ?_ GE177.out | refine below_set ?_ GE183.out) | exact HB.out)⟩

end Go.Proofs.Ytpmjmhdofjbcbaa.QR
