/- feud.Validate. -/
import Derived.Test.YtpmjmhdofjbcbaaFB
import Derived.Deep.RegionWith
namespace Go.Proofs.Ytpmjmhdofjbcbaa.H
open Go.RowKit Go.Maps Go.Proofs.Ytpmjmhdofjbcbaa.QA Go.Proofs.YtpmjmhdofjbcbaaW.PrintWords Go.Proofs.YtpmjmhdofjbcbaaW.PrintLast Go.Proofs.YtpmjmhdofjbcbaaW.PrintMore
set_option linter.unusedVariables false
set_option linter.unusedSimpArgs false
def badF (p : Int) (f : S43) : Prop := f.f0 < 0 ∨ p ≤ f.f1 ∨ f.f1 ≤ f.f0
instance (p : Int) (f : S43) : Decidable (badF p f) := inferInstanceAs (Decidable (_ ∨ _ ∨ _))
/-- The first error of a shop. -/
def vldF (p : Int) (l : List S43) : Int := if p < 1 ∨ 7 < p then 1 else if (∃ f ∈ l, badF p f) then 1 else if l.Nodup then 0 else 6
def feud_Validate.f (p : Int) (l : List S43) : Option Int := if l.length ≤ 1000 then some (vldF p l) else none
theorem wf_good {p : Int} {f : S43} (hp : p ≤ 7) (h : ¬ badF p f) : WfF f := by
  unfold badF at h
  exact ⟨wf_small (by omega) (by omega), wf_small (by omega) (by omega)⟩
set_option maxRecDepth 100000 in
set_option maxHeartbeats 4000000 in
theorem feud_Validate.calls_out (p : Int) (A : Option Addr) (c : Nat) (l : List S43) (w : World) (hp : p < 1 ∨ 7 < p) :
    Calls Try.prog 63 #[.agg #[.int .i64 p, .slice A l.length c]] w fun e w' => e = .returned (.int .i64 1) ∧ Below w.heap.size w w' := by
  rcases hp with hp | hp
  · have h1 : decide (p < 1) = true := decide_eq_true hp
    clear hp
    go_enter Try.func63, Try.ntmps63
    go_wp2
    go_ret
    exact ⟨rfl, (Below.refl _ w).alloc (Nat.le_refl _) _⟩
  · have h1 : decide (p < 1) = false := decide_eq_false (by omega)
    have h2 : decide (7 < p) = true := decide_eq_true hp
    clear hp
    go_enter Try.func63, Try.ntmps63
    go_wp2
    go_ret
    exact ⟨rfl, (Below.refl _ w).alloc (Nat.le_refl _) _⟩
set_option maxRecDepth 100000 in
set_option maxHeartbeats 8000000 in
theorem feud_Validate.calls_in (p : Int) (A : Option Addr) (c : Nat) (l : List S43) (w : World) (hr : Kd.C k43 w A l.length l) (hl : l.length ≤ 1000) (h1 : 1 ≤ p) (h7 : p ≤ 7) :
    Calls Try.prog 63 #[.agg #[.int .i64 p, .slice A l.length c]] w fun e w' => e = .returned (.int .i64 (if (∃ f ∈ l, badF p f) then 1 else if l.Nodup then 0 else 6)) ∧ Below w.heap.size w w' := by
  have hF := fun (hwf : ∀ f ∈ l, WfF f) W (hW : Below w.heap.size w W) => feuds.calls p A c l W (Kd.C_below hr hW) hl hwf
  have HF := Aside0.mk hF
  have HR := Aside0.mk hr
  have hp1 : decide (p < 1) = false := decide_eq_false (by omega)
  have hp2 : decide (7 < p) = false := decide_eq_false (by omega)
  clear hr hF
  obtain ⟨R, hR⟩ : ∃ R : Int, R = (if (∃ f ∈ l, badF p f) then 1 else if l.Nodup then 0 else 6) := ⟨_, rfl⟩
  rw [← hR]
  have HRR := Aside0.mk hR
  clear hR
  go_enter Try.func63, Try.ntmps63
  go_wp2
  obtain ⟨w0, hw0⟩ : ∃ w0, w0 = w.alloc (shopB p A l.length c) := ⟨_, rfl⟩
  have hB0 : Below w.heap.size w w0 := by rw [hw0]; exact (Below.refl _ w).alloc (Nat.le_refl _) _
  have hx0 : w0.heap[w.heap.size]? = some (shopB p A l.length c) := by rw [hw0]; exact blk_new _ _
  have hs0 : w0.heap.size = w.heap.size + 1 := by rw [hw0]; simp
  rw [← hw0]
  have HX0 := Aside0.mk hx0
  have HB0 := Aside0.mk hB0
  have HS0 := Aside0.mk hs0
  clear hw0 hx0 hB0 hs0
  go_loopw [16] (fun s16 wr => ∃ k : Nat, k ≤ l.length ∧ s16 = .int .i64 k ∧ Aside0 (∀ f ∈ l.take k, ¬ badF p f) ∧ Aside0 (Below w0.heap.size w0 wr)) (fun s16 _ => l.length - (intOf s16).toNat)
  case atStart => exact ⟨0, Nat.zero_le _, rfl, ⟨fun f hf => by simp at hf⟩, ⟨Below.refl _ _⟩⟩
  case round =>
    obtain ⟨k, hk, rfl, HG, HB⟩ := hrel
    have hxk := (HB.out.block w.heap.size (by have := HS0.out; omega)).trans HX0.out
    have hBk := HB0.out.trans (HB.out.mono HB0.out.size)
    by_cases hlt : k < l.length
    · have hltz : (k : Int) < (l.length : Int) := by omega
      obtain ⟨ad, rfl, h0, h1'⟩ := at_feud (Kd.C_below HR.out hBk) k hlt
      have HT := Aside0.mk (take_snocF hlt)
      have HMm := Aside0.mk (getD_memF hlt)
      generalize l.getD k z43 = f at *
      have cp : (wr.alloc (.cells #[.int .i64 f.f0, .int .i64 f.f1] 43)).cell? ⟨w.heap.size, 0, none⟩ = some (.int .i64 p) := (blk_cell (blk_alloc hxk _) 0).trans rfl
      have HBk := Aside0.mk hBk
      clear hxk hBk
      by_cases hbad : badF p f
      · have hR1 : R = 1 := by rw [HRR.out, if_pos ⟨f, HMm.out, hbad⟩]
        subst hR1
        by_cases e0 : f.f0 < 0
        · have d0 : decide (f.f0 < 0) = true := decide_eq_true e0
          clear hbad
          go_wp2
          go_ret
          exact ⟨rfl, HBk.out.alloc HBk.out.size _⟩
        · have d0 : decide (f.f0 < 0) = false := decide_eq_false e0
          by_cases e1 : p ≤ f.f1
          · have d1 : decide (p ≤ f.f1) = true := decide_eq_true e1
            clear hbad
            go_wp2
            go_ret
            exact ⟨rfl, HBk.out.alloc HBk.out.size _⟩
          · have d1 : decide (p ≤ f.f1) = false := decide_eq_false e1
            have d2 : decide (f.f1 ≤ f.f0) = true := decide_eq_true (by unfold badF at hbad; omega)
            clear hbad
            go_wp2
            go_ret
            exact ⟨rfl, HBk.out.alloc HBk.out.size _⟩
      · have HNb := Aside0.mk hbad
        unfold badF at hbad
        have d0 : decide (f.f0 < 0) = false := decide_eq_false (by omega)
        have d1 : decide (p ≤ f.f1) = false := decide_eq_false (by omega)
        have d2 : decide (f.f1 ≤ f.f0) = false := decide_eq_false (by omega)
        clear hbad
        go_wp2
        go_roundw
        case rel => exact ⟨k + 1, by omega, by go_num, ⟨fun g hg => by
          rw [HT.out] at hg
          rcases List.mem_append.1 hg with m | m
          · exact HG.out g m
          · rw [List.mem_singleton.1 m]; exact HNb.out⟩, ⟨HB.out.alloc (by have := HB.out.size; omega) _⟩⟩
        case measure => simp [intOf]; omega
    · obtain rfl : k = l.length := by omega
      have hgood := HG.out
      rw [List.take_length] at hgood
      have hwf : ∀ f ∈ l, WfF f := fun f hf => wf_good h7 (hgood f hf)
      have hC := HF.out hwf
      have hz := size_set hwf
      have hno : ¬ ∃ f ∈ l, badF p f := fun ⟨f, hf, hb⟩ => hgood f hf hb
      have HRR2 := Aside0.mk (show R = if l.Nodup then 0 else 6 from by rw [HRR.out, if_neg hno])
      have cp0 : wr.cell? ⟨w.heap.size, 0, none⟩ = some (.int .i64 p) := (blk_cell hxk 0).trans rfl
      have cp1 : wr.cell? ⟨w.heap.size, 1, none⟩ = some (.slice A l.length c) := (blk_cell hxk 1).trans rfl
      have HBk := Aside0.mk hBk
      have HXk := Aside0.mk hxk
      have hlt2 : w.heap.size < wr.heap.size := by have := HB.out.size; have := HS0.out; omega
      clear hgood hwf hno hxk hBk
      have hsz : ∃ z : Nat, size (setD l) = z ∧ z ≤ l.length ∧ (z = l.length ↔ l.Nodup) := ⟨_, rfl, hz.1, hz.2⟩
      obtain ⟨z, hz0, hz1, hz2⟩ := hsz
      have HZ0 := Aside0.mk hz0
      clear hz hz0
      by_cases hn : l.Nodup
      · have hR0 : R = 0 := by rw [HRR2.out, if_pos hn]
        subst hR0
        have hd : decide (z < l.length) = false := decide_eq_false (by have := hz2.2 hn; omega)
        clear hz2 hn
        go_wp2_with fail
        go_region_with (go_at_call 102; refine (hC _ (by repeat (first | exact HBk.out | apply below_drew))).mono ?_; rintro e w5 ⟨b, rfl, hM, hb, hb5⟩; have hln := hM.len (e := 4) Try.underlying83 3; rw [HZ0.out] at hln; have cq0 := (hb5.cell (p := ⟨w.heap.size, 0, none⟩) hlt2).trans cp0; have cq1 := (hb5.cell (p := ⟨w.heap.size, 1, none⟩) hlt2).trans cp1; have HM := Aside0.mk hM; have HB5 := Aside0.mk ((show Below w.heap.size w wr.drew from below_drew HBk.out).trans (hb5.mono HBk.out.size)); clear hM)
        all_goals (go_wp2; go_ret; exact ⟨rfl, HB5.out⟩)
      · have hR0 : R = 6 := by rw [HRR2.out, if_neg hn]
        subst hR0
        have hd : decide (z < l.length) = true := decide_eq_true (by have : z ≠ l.length := fun e => hn (hz2.1 e); omega)
        clear hz2 hn
        go_wp2_with fail
        go_region_with (go_at_call 102; refine (hC _ (by repeat (first | exact HBk.out | apply below_drew))).mono ?_; rintro e w5 ⟨b, rfl, hM, hb, hb5⟩; have hln := hM.len (e := 4) Try.underlying83 3; rw [HZ0.out] at hln; have cq0 := (hb5.cell (p := ⟨w.heap.size, 0, none⟩) hlt2).trans cp0; have cq1 := (hb5.cell (p := ⟨w.heap.size, 1, none⟩) hlt2).trans cp1; have HM := Aside0.mk hM; have HB5 := Aside0.mk ((show Below w.heap.size w wr.drew from below_drew HBk.out).trans (hb5.mono HBk.out.size)); clear hM)
        all_goals (go_wp2; go_ret; exact ⟨rfl, HB5.out⟩)
theorem feud_Validate.calls (p : Int) (A : Option Addr) (c : Nat) (l : List S43) (r : Int) (w : World) (hr : Kd.C k43 w A l.length l) (hc : l.length ≤ c) (h : feud_Validate.f p l = some r) :
    Calls Try.prog 63 #[.agg #[.int .i64 p, .slice A l.length c]] w fun e w' => e = .returned (.int .i64 r) ∧ Below w.heap.size w w' := by
  unfold feud_Validate.f at h
  by_cases hl : l.length ≤ 1000
  · rw [if_pos hl] at h
    obtain rfl := Option.some.inj h
    unfold vldF
    by_cases hp : p < 1 ∨ 7 < p
    · rw [if_pos hp]
      exact feud_Validate.calls_out p A c l w hp
    · rw [if_neg hp]
      exact feud_Validate.calls_in p A c l w hr hl (by omega) (by omega)
  · rw [if_neg hl] at h; cases h
end Go.Proofs.Ytpmjmhdofjbcbaa.H
