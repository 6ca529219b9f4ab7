/- feud.feuds, feud.with, feud.Validate: walked. -/
import Derived.Test.YtpmjmhdofjbcbaaFA
import Derived.RangeFuncNested
import Derived.Outline
namespace Go.Proofs.Ytpmjmhdofjbcbaa.H
open Go.RowKit Go.Maps Go.Proofs.Ytpmjmhdofjbcbaa.QA Go.Proofs.YtpmjmhdofjbcbaaW.PrintWords Go.Proofs.YtpmjmhdofjbcbaaW.PrintLast Go.Proofs.YtpmjmhdofjbcbaaW.PrintMore
set_option linter.unusedVariables false
set_option linter.unusedSimpArgs false
/-- A shop's block. -/
abbrev shopB (p : Int) (A : Option Addr) (n c : Nat) : Obj := .cells #[.int .i64 p, .slice A n c] 24 (0, 0)
/-- A feud of a list. -/
theorem at_feud {w : World} {A : Option Addr} {n : Nat} {xs : List S43} (h : Kd.C k43 w A n xs) (i : Nat) (h1 : i < n) : ∃ ad , A = some ad ∧ w.cell? (ad.add (i * 2)) = some (.int .i64 (xs.getD i z43).f0) ∧ w.cell? ⟨(ad.add (i * 2)).block, (ad.add (i * 2)).off + 1, none⟩ = some (.int .i64 (xs.getD i z43).f1) := by
  have := at_T43 h (i : Int) (by omega) (by omega)
  rw [Int.toNat_natCast] at this
  simpa [rd_T43] using this
theorem getD_memF {l : List S43} {k : Nat} (h : k < l.length) : l.getD k z43 ∈ l := by
  rw [List.getD_eq_getElem?_getD, List.getElem?_eq_getElem h]
  exact List.getElem_mem h
theorem take_snocF {l : List S43} {k : Nat} (h : k < l.length) : l.take (k + 1) = l.take k ++ [l.getD k z43] := by
  rw [List.take_succ_eq_append_getElem h, List.getD_eq_getElem?_getD, List.getElem?_eq_getElem h]
  rfl
set_option maxRecDepth 100000 in
set_option maxHeartbeats 2000000 in
theorem feuds.calls (p : Int) (A : Option Addr) (c : Nat) (l : List S43) (w : World) (hr : Kd.C k43 w A l.length l) (hl : l.length ≤ 1000) (hwf : ∀ f ∈ l, WfF f) :
    Calls Try.prog 102 #[.agg #[.int .i64 p, .slice A l.length c]] w fun e w' => ∃ b, e = .returned (.map (some b)) ∧ w'.ownsMap Try.prog 43 (plainElem Try.prog 4) b l.length (setD l) ∧ w.heap.size ≤ b ∧ Below w.heap.size w w' := by
  have HR := Aside0.mk hr
  have HW := Aside0.mk hwf
  have hmm := @run_makeMap Try.prog
  clear hr hwf
  go_enter Try.func102, Try.ntmps102
  go_wp2
  obtain ⟨w0, hw0⟩ : ∃ w0, w0 = w.alloc (shopB p A l.length c) := ⟨_, rfl⟩
  have hB0 : Below w.heap.size w w0 := by rw [hw0]; exact (Below.refl _ w).alloc (Nat.le_refl _) _
  have hs0 : w0.heap.size = w.heap.size + 1 := by rw [hw0]; simp
  have hm0 : (w0.alloc (.map #[] 0)).ownsMap (H := Unit) Try.prog 43 (plainElem Try.prog 4) w0.heap.size 0 (.map []) := World.ownsMap_made _ _ _ _
  have hB1 : Below w.heap.size w (w0.alloc (.map #[] 0)) := hB0.alloc hB0.size _
  rw [hs0] at hm0
  rw [← hw0]
  obtain ⟨w1, hw1⟩ : ∃ w1, w1 = w0.alloc (.map #[] 0) := ⟨_, rfl⟩
  rw [← hw1] at hm0 hB1 ⊢
  have HM0 := Aside0.mk hm0
  have HB1 := Aside0.mk hB1
  clear hm0 hB1 hw1 hw0 hs0 hB0
  go_loopw [10] (fun s10 wr => ∃ k : Nat, k ≤ l.length ∧ s10 = .int .i64 k ∧ Aside0 (wr.ownsMap Try.prog 43 (plainElem Try.prog 4) (w.heap.size + 1) k (setD (l.take k))) ∧ Aside0 (Below w.heap.size w wr)) (fun s10 _ => l.length - (intOf s10).toNat)
  case atStart => exact ⟨0, Nat.zero_le _, rfl, HM0, HB1⟩
  case round =>
    obtain ⟨k, hk, rfl, HM, HB⟩ := hrel
    by_cases hlt : k < l.length
    · have hltz : (k : Int) < (l.length : Int) := by omega
      obtain ⟨ad, rfl, h0, h1⟩ := at_feud (Kd.C_below HR.out HB.out) k hlt
      have HF := Aside0.mk (HW.out _ (getD_memF hlt))
      have HT := Aside0.mk (take_snocF hlt)
      generalize l.getD k z43 = f at *
      have HN := Aside0.mk (HM.out.alloc (.cells #[.int .i64 f.f0, .int .i64 f.f1] 43))
      have HB2 := Aside0.mk (HB.out.alloc HB.out.size (.cells #[.int .i64 f.f0, .int .i64 f.f1] 43))
      go_wp2_with (at_mapUpdate; refine wpList_mapUpdate_own _ rfl _ _ _ 83 rfl 43 4 keyed43 Try.underlying83 _ (w.heap.size + 1) k _ rfl HN.out (by unfold maxLen; omega) _ _ (kl f) rfl rfl (key_feud HF.out) _ [] (plainElem_bool Try.underlying4 true) ?_; intro w2 hown2 hgrow2)
      go_roundw
      case rel => exact ⟨k + 1, by omega, by go_num, ⟨by rw [HT.out, setD_snoc]; exact hown2⟩, ⟨HB2.out.grown hgrow2 HB2.out.size (fun j hj => by cases hj; omega)⟩⟩
      case measure => simp [intOf]; omega
    · obtain rfl : k = l.length := by omega
      go_wp2
      go_ret
      exact ⟨w.heap.size + 1, rfl, by have := HM.out; rw [List.take_length] at this; exact this, by omega, HB.out⟩
/-- The feud of two paints, the smaller one first. -/
def pairF (a b : Nat) : S43 := ⟨(min a b : Nat), (max a b : Nat)⟩
theorem wf_small {x : Int} (h0 : 0 ≤ x) (h1 : x ≤ 1000) : (Lit.int .i64 x).wf = true := by
  have e1 : IntKind.i64.min = -9223372036854775808 := by decide
  have e2 : IntKind.i64.max = 9223372036854775807 := by decide
  simp only [Lit.wf, e1, e2, Bool.and_eq_true, decide_eq_true_eq]
  omega
theorem pairF_wf {a b : Nat} (ha : a ≤ 1000) (hb : b ≤ 1000) : WfF (pairF a b) := ⟨wf_small (Int.natCast_nonneg _) (by show ((min a b : Nat) : Int) ≤ 1000; omega), wf_small (Int.natCast_nonneg _) (by show ((max a b : Nat) : Int) ≤ 1000; omega)⟩
/-- Have two paints a feud? -/
def fdB (l : List S43) (a b : Nat) : Bool := decide (pairF a b ∈ l)
def withTo (l : List S43) (q k : Nat) : List Int := ((List.range k).filter fun p => fdB l p q).map Int.ofNat
def withL (n : Nat) (l : List S43) (q : Nat) : List Int := withTo l q n
theorem withTo_hit {l : List S43} {q k : Nat} (h : fdB l k q = true) : withTo l q (k + 1) = withTo l q k ++ [(k : Int)] := by
  unfold withTo
  rw [List.range_succ, List.filter_append, List.map_append, List.filter_cons, if_pos h]
  rfl
theorem withTo_miss {l : List S43} {q k : Nat} (h : fdB l k q = false) : withTo l q (k + 1) = withTo l q k := by
  unfold withTo
  rw [List.range_succ, List.filter_append, List.map_append, List.filter_cons, if_neg (by simp [h])]
  simp
theorem withTo_len (l : List S43) (q k : Nat) : (withTo l q k).length ≤ k := by
  unfold withTo
  rw [List.length_map]
  exact Nat.le_trans (List.length_filter_le _ _) (by simp)
attribute [local go_sem] max2_int min2_int max_two min_two
set_option maxRecDepth 100000 in
set_option maxHeartbeats 4000000 in
theorem with.calls (n q : Nat) (hn : n ≤ 7) (hq : q ≤ 7) (A : Option Addr) (c : Nat) (l : List S43) (w : World) (hr : Kd.C k43 w A l.length l) (hl : l.length ≤ 1000) (hwf : ∀ f ∈ l, WfF f) :
    Calls Try.prog 98 #[.agg #[.int .i64 n, .slice A l.length c], .int .i64 q] w fun e w' => ∃ v, e = .returned v ∧ w'.ownsRow w.heap.size 3 1 v (withL n l q).length (nums .i64 (withL n l q)) ∧ Below w.heap.size w w' := by
  have hF := fun W (hW : Below w.heap.size w W) => feuds.calls (n : Int) A c l W (Kd.C_below hr hW) hl hwf
  have HW := Aside0.mk hwf
  clear hr hwf
  go_enter Try.func98, Try.ntmps98
  go_wp2_with fail
  obtain ⟨w0, hw0⟩ : ∃ w0, w0 = w.alloc (shopB n A l.length c) := ⟨_, rfl⟩
  have hB0 : Below w.heap.size w w0 := by rw [hw0]; exact (Below.refl _ w).alloc (Nat.le_refl _) _
  have hx0 : w0.heap[w.heap.size]? = some (shopB n A l.length c) := by rw [hw0]; exact blk_new _ _
  have hs0 : w0.heap.size = w.heap.size + 1 := by rw [hw0]; simp
  rw [← hw0]
  refine (hF w0 hB0).mono ?_
  rintro e w1 ⟨b, rfl, hM, hb, hB1⟩
  have hx1 := (hB1.block w.heap.size (by omega)).trans hx0
  have hcn := (blk_cell hx1 0).trans rfl
  have HB1 := Aside0.mk (hB0.trans (hB1.mono hB0.size))
  have HM := Aside0.mk hM
  have HX := Aside0.mk hx1
  have HS := Aside0.mk hs0
  have hbw : w.heap.size + 1 ≤ b := by omega
  clear hw0 hB0 hx0 hs0 hF hM hB1 hx1
  have hc0 : w1.cell? ⟨w.heap.size, 0, none⟩ = some (.int .i64 n) := hcn
  clear hcn
  go_wp2
  go_loopw [6, 12] (fun s6 s12 wr => ∃ k : Nat, k ≤ n ∧ s12 = .int .i64 k ∧ Aside0 (wr.ownsRow w1.heap.size 3 1 s6 (withTo l q k).length (nums .i64 (withTo l q k))) ∧ Aside0 (Below w1.heap.size w1 wr)) (fun _ s12 _ => n - (intOf s12).toNat)
  case atStart => exact ⟨0, Nat.zero_le _, rfl, ⟨own_nil _ _ _ _⟩, ⟨Below.refl _ _⟩⟩
  case round =>
    obtain ⟨k, hk, rfl, HO, HB⟩ := hrel
    by_cases hlt : k < n
    · have hltz : (k : Int) < (n : Int) := by omega
      have hMk : wr.ownsMap Try.prog 43 (plainElem Try.prog 4) b l.length (setD l) := by
        obtain ⟨es, clock, h1, h2⟩ := HM.out
        exact ⟨es, clock, (HB.out.block b (HM.out.lt)).trans h1, h2⟩
      have hlk := look_set hMk HW.out (pairF_wf (show k ≤ 1000 by omega) (show q ≤ 1000 by omega))
      have hlen := withTo_len l q k
      have HFB : Aside0 (fdB l k q = decide (pairF k q ∈ l)) := ⟨rfl⟩
      clear hMk
      unfold aggF pairF at hlk
      dsimp only at hlk
      cases hd : decide ((⟨((min k q : Nat) : Int), ((max k q : Nat) : Int)⟩ : S43) ∈ l) with
      | true =>
        rw [hd] at hlk
        have HH : Aside0 (fdB l k q = true) := ⟨HFB.out.trans hd⟩
        clear HFB hd
        rcases Nat.lt_trichotomy k q with hc | hc | hc
        · have h1 : ¬ (q : Int) < (k : Int) := by omega
          have h2 : (k : Int) < (q : Int) := by omega
          rw [Nat.min_eq_left (by omega), Nat.max_eq_right (by omega)] at hlk
          go_wp2_with ((with_reducible refine gate_builtin (b := .append) (xs := #[.tmp 24, .tmp 26]) rfl ?_); at_builtin; refine print_append_num (w0 := w1) w1.heap.size rfl (.tmp 24) (.tmp 26) 30 3 .i64 8 rfl Try.underlying30 infoH3 (by decide) u6 (withTo l q k) (k : Int) rfl rfl ?aO ?aB ?aS ?aL ?_; (case aO => exact HO.out); (case aB => exact HB.out); (case aS => exact HB.out.size); (case aL => omega); intro v1 w2 hown hB2 hg hat)
          go_roundw
          case rel => exact ⟨k + 1, by omega, by go_num, ⟨by rw [withTo_hit HH.out]; exact hown⟩, ⟨hB2⟩⟩
          case measure => simp [intOf]; omega
        · subst hc
          have h1 : ¬ (k : Int) < (k : Int) := by omega
          rw [Nat.min_self, Nat.max_self] at hlk
          go_wp2_with ((with_reducible refine gate_builtin (b := .append) (xs := #[.tmp 24, .tmp 26]) rfl ?_); at_builtin; refine print_append_num (w0 := w1) w1.heap.size rfl (.tmp 24) (.tmp 26) 30 3 .i64 8 rfl Try.underlying30 infoH3 (by decide) u6 (withTo l k k) (k : Int) rfl rfl ?aO ?aB ?aS ?aL ?_; (case aO => exact HO.out); (case aB => exact HB.out); (case aS => exact HB.out.size); (case aL => omega); intro v1 w2 hown hB2 hg hat)
          go_roundw
          case rel => exact ⟨k + 1, by omega, by go_num, ⟨by rw [withTo_hit HH.out]; exact hown⟩, ⟨hB2⟩⟩
          case measure => simp [intOf]; omega
        · have h1 : (q : Int) < (k : Int) := by omega
          have h2 : ¬ (k : Int) < (q : Int) := by omega
          rw [Nat.min_eq_right (by omega), Nat.max_eq_left (by omega)] at hlk
          go_wp2_with ((with_reducible refine gate_builtin (b := .append) (xs := #[.tmp 24, .tmp 26]) rfl ?_); at_builtin; refine print_append_num (w0 := w1) w1.heap.size rfl (.tmp 24) (.tmp 26) 30 3 .i64 8 rfl Try.underlying30 infoH3 (by decide) u6 (withTo l q k) (k : Int) rfl rfl ?aO ?aB ?aS ?aL ?_; (case aO => exact HO.out); (case aB => exact HB.out); (case aS => exact HB.out.size); (case aL => omega); intro v1 w2 hown hB2 hg hat)
          go_roundw
          case rel => exact ⟨k + 1, by omega, by go_num, ⟨by rw [withTo_hit HH.out]; exact hown⟩, ⟨hB2⟩⟩
          case measure => simp [intOf]; omega
      | false =>
        rw [hd] at hlk
        have HH : Aside0 (fdB l k q = false) := ⟨HFB.out.trans hd⟩
        clear HFB hd
        rcases Nat.lt_trichotomy k q with hc | hc | hc
        · have h1 : ¬ (q : Int) < (k : Int) := by omega
          have h2 : (k : Int) < (q : Int) := by omega
          rw [Nat.min_eq_left (by omega), Nat.max_eq_right (by omega)] at hlk
          go_wp2
          go_roundw
          case rel => exact ⟨k + 1, by omega, by go_num, ⟨by rw [withTo_miss HH.out]; exact HO.out⟩, HB⟩
          case measure => simp [intOf]; omega
        · subst hc
          have h1 : ¬ (k : Int) < (k : Int) := by omega
          rw [Nat.min_self, Nat.max_self] at hlk
          go_wp2
          go_roundw
          case rel => exact ⟨k + 1, by omega, by go_num, ⟨by rw [withTo_miss HH.out]; exact HO.out⟩, HB⟩
          case measure => simp [intOf]; omega
        · have h1 : (q : Int) < (k : Int) := by omega
          have h2 : ¬ (k : Int) < (q : Int) := by omega
          rw [Nat.min_eq_right (by omega), Nat.max_eq_left (by omega)] at hlk
          go_wp2
          go_roundw
          case rel => exact ⟨k + 1, by omega, by go_num, ⟨by rw [withTo_miss HH.out]; exact HO.out⟩, HB⟩
          case measure => simp [intOf]; omega
    · obtain rfl : k = n := by omega
      go_wp2
      go_ret
      exact ⟨_, rfl, own_weaken HO.out (by have := HB1.out.size; omega), HB1.out.trans (HB.out.mono (HB1.out.size))⟩
end Go.Proofs.Ytpmjmhdofjbcbaa.H
