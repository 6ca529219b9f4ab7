/- The reference's functions on shops: Validate, Feud, numbered, Drop, Same. -/
import Derived.Test.YtpmjmhdofjbcbaaFNb
import Derived.Test.YtpmjmhdofjbcbaaQR5
namespace Go.Proofs.Ytpmjmhdofjbcbaa.H
open Go.RowKit Go.Proofs.Ytpmjmhdofjbcbaa.QA Go.Proofs.Ytpmjmhdofjbcbaa.QE Go.Proofs.Ytpmjmhdofjbcbaa.QK Go.Proofs.Ytpmjmhdofjbcbaa.QR Go.Proofs.YtpmjmhdofjbcbaaW.PrintWords Go.Proofs.YtpmjmhdofjbcbaaW.PrintLast Go.Proofs.YtpmjmhdofjbcbaaW.PrintMore
set_option linter.unusedVariables false
set_option linter.unusedSimpArgs false
theorem wr1 {i n : Nat} (hn : n ≤ 100000) (h : i < n) : wrap64 ((i : Int) + 1) = ((i + 1 : Nat) : Int) := by rw [IntWalk.wrap64_in _ (by omega)]; rfl
theorem rdT_nat (l : List S43) (i : Nat) : rd_T43 l (i : Int) = l.getD i z43 := by unfold rd_T43; rw [Int.toNat_natCast]
theorem within_eq (a b c : Int) : verditerref01_Within.f a b c = some (decide (b ≤ a ∧ a ≤ c)) := by
  unfold verditerref01_Within.f
  by_cases h : a ≥ b
  · rw [if_pos h]
    congr 1
    by_cases h2 : a ≤ c
    · rw [decide_eq_true h2, decide_eq_true ⟨h, h2⟩]
    · rw [decide_eq_false h2, decide_eq_false (fun x => h2 x.2)]
  · rw [if_neg h, decide_eq_false (fun x => h x.1)]
theorem nodup_snoc {l : List S43} {i : Nat} (hi : i < l.length) : (l.take (i + 1)).Nodup ↔ (l.take i).Nodup ∧ ∀ j, j < i → l.getD j z43 ≠ l.getD i z43 := by
  rw [take_snocF hi]
  unfold List.Nodup
  rw [List.pairwise_append]
  constructor
  · rintro ⟨h1, _, h3⟩
    refine ⟨h1, fun j hj => ?_⟩
    refine h3 _ ?_ _ (by simp)
    rw [List.mem_iff_getElem?]
    refine ⟨j, ?_⟩
    rw [List.getElem?_take, if_pos hj, List.getD_eq_getElem?_getD, List.getElem?_eq_getElem (show j < l.length by omega)]
    rfl
  · rintro ⟨h1, h2⟩
    refine ⟨h1, by simp, fun a ha b hb => ?_⟩
    obtain ⟨j, hj⟩ := List.mem_iff_getElem?.1 ha
    rw [List.getElem?_take] at hj
    split at hj
    · rw [List.mem_singleton.1 hb]
      have := h2 j (by assumption)
      rw [List.getD_eq_getElem?_getD, hj] at this
      exact this
    · cases hj
theorem s43_beq (f g : S43) : ((f.f0 == g.f0) && (f.f1 == g.f1)) = decide (f = g) := by
  by_cases h : f = g
  · subst h; simp
  · rw [decide_eq_false h]
    have : ¬ (f.f0 = g.f0 ∧ f.f1 = g.f1) := fun e => h (by cases f; cases g; simp at e; rw [e.1, e.2])
    by_cases h0 : f.f0 = g.f0
    · have h1 : ¬ f.f1 = g.f1 := fun x => this ⟨h0, x⟩
      simp [h1]
    · simp [h0]
theorem Ev_vld1 (p : Int) (l : List S43) (hl : l.length ≤ 1000) : ∀ d i, i + d = l.length → (l.take i).Nodup → Ev (fun k => verditerref03_Validate.l1 k (i : Int) p l) (if l.Nodup then 0 else 6) := by
  intro d
  induction d with
  | zero =>
    intro i hi hn
    rw [List.take_of_length_le (by omega)] at hn
    refine Ev.step (f := fun _ => some 0) (fun k => ?_) (ev_cast (Ev.now (0 : Int)) (fun _ => rfl) (if_pos hn))
    rw [verditerref03_Validate.l1, if_neg (by omega)]
  | succ d ih =>
    intro i hi hn
    have hil : i < l.length := by omega
    refine Ev.step (f := fun k => verditerref03_Validate.l2 k (i : Int) ((0 : Nat) : Int) p l) (fun k => by rw [verditerref03_Validate.l1, if_pos (by omega)]; rfl) ?_
    have inner : ∀ e j, j + e = i → (∀ q, q < j → l.getD q z43 ≠ l.getD i z43) → Ev (fun k => verditerref03_Validate.l2 k (i : Int) (j : Int) p l) (if l.Nodup then 0 else 6) := by
      intro e
      induction e with
      | zero =>
        intro j hj hne
        refine Ev.step (f := fun k => verditerref03_Validate.l1 k ((i + 1 : Nat) : Int) p l) (fun k => ?_) (ih (i + 1) (by omega) ((nodup_snoc hil).2 ⟨hn, fun q hq => hne q (by omega)⟩))
        rw [verditerref03_Validate.l2, if_neg (by omega), wr1 (n := l.length) (by omega) hil]
      | succ e ihe =>
        intro j hj hne
        by_cases hq : l.getD j z43 = l.getD i z43
        · have hnd : ¬ l.Nodup := fun h => by
            have h2 : (l.take (i + 1)).Nodup := (List.take_sublist (i + 1) l).nodup h
            exact ((nodup_snoc hil).1 h2).2 j (by omega) hq
          refine Ev.step (f := fun _ => some 6) (fun k => ?_) (ev_cast (Ev.now (6 : Int)) (fun _ => rfl) (if_neg hnd))
          rw [verditerref03_Validate.l2, if_pos (by omega), if_pos (by omega), if_pos (by omega), if_pos (by omega), if_pos (by omega), rdT_nat, rdT_nat, s43_beq, if_pos (decide_eq_true hq)]
        · refine Ev.step (f := fun k => verditerref03_Validate.l2 k (i : Int) ((j + 1 : Nat) : Int) p l) (fun k => ?_) (ihe (j + 1) (by omega) (fun q hq2 => by
            by_cases e2 : q = j
            · rw [e2]; exact hq
            · exact hne q (by omega)))
          rw [verditerref03_Validate.l2, if_pos (by omega), if_pos (by omega), if_pos (by omega), if_pos (by omega), if_pos (by omega), rdT_nat, rdT_nat, s43_beq, if_neg (by rw [decide_eq_true_eq]; exact hq), wr1 (n := l.length) (by omega) (by omega)]
    exact inner i 0 (by omega) (fun q hq => absurd hq (by omega))
theorem Ev_vld0 (p : Int) (l : List S43) (hl : l.length ≤ 1000) : ∀ d i, i + d = l.length → (∀ f ∈ l.take i, ¬ badF p f) → Ev (fun k => verditerref03_Validate.l0 k (i : Int) p l) (if (∃ f ∈ l, badF p f) then 1 else if l.Nodup then 0 else 6) := by
  intro d
  induction d with
  | zero =>
    intro i hi hn
    rw [List.take_of_length_le (by omega)] at hn
    rw [if_neg (fun ⟨f, hf, hb⟩ => hn f hf hb)]
    refine Ev.step (f := fun k => verditerref03_Validate.l1 k ((0 : Nat) : Int) p l) (fun k => ?_) (Ev_vld1 p l hl l.length 0 (by omega) (by simp))
    rw [verditerref03_Validate.l0, if_neg (by omega)]
    rfl
  | succ d ih =>
    intro i hi hn
    have hil : i < l.length := by omega
    by_cases hb : badF p (l.getD i z43)
    · rw [if_pos ⟨_, getD_memF hil, hb⟩]
      refine Ev.step (f := fun _ => some 1) (fun k => ?_) (Ev.now _)
      rw [verditerref03_Validate.l0, if_pos (by omega), if_pos (by omega), rdT_nat]
      unfold badF at hb
      by_cases h1 : (l.getD i z43).f0 < 0
      · rw [if_pos h1]
      · rw [if_neg h1]
        by_cases h2 : (l.getD i z43).f1 ≥ p
        · rw [if_pos h2]
        · rw [if_neg h2, if_pos (by omega)]
    · refine Ev.step (f := fun k => verditerref03_Validate.l0 k ((i + 1 : Nat) : Int) p l) (fun k => ?_) (ih (i + 1) (by omega) (fun f hf => ?_))
      · rw [verditerref03_Validate.l0, if_pos (by omega), if_pos (by omega), rdT_nat]
        unfold badF at hb
        rw [if_neg (by omega), if_neg (by omega), if_neg (by omega), wr1 (n := l.length) (by omega) hil]
      · rw [take_snocF hil] at hf
        rcases List.mem_append.1 hf with h | h
        · exact hn f h
        · rw [List.mem_singleton.1 h]; exact hb
theorem Ev_refVld (p : Int) (l : List S43) (hl : l.length ≤ 1000) : Ev (fun k => verditerref03_Validate.f k p l) (vldF p l) := by
  unfold vldF
  by_cases h : p < 1 ∨ 7 < p
  · rw [if_pos h]
    refine Ev.congr (f := fun _ => some 1) (fun k => ?_) (Ev.now _)
    unfold verditerref03_Validate.f
    rw [within_eq, Option.bind_some, if_neg (by rw [decide_eq_true_eq]; omega)]
  · rw [if_neg h]
    refine Ev.congr (f := fun k => verditerref03_Validate.l0 k ((0 : Nat) : Int) p l) (fun k => ?_) (Ev_vld0 p l hl l.length 0 (by omega) (by simp))
    unfold verditerref03_Validate.f
    rw [within_eq, Option.bind_some, if_pos (decide_eq_true (by omega))]
    rfl
def fdI (l : List S43) (a b : Int) : Bool := decide ((⟨min a b, max a b⟩ : S43) ∈ l)
theorem mn_eq (a b : Int) : mn a b = min a b := by unfold mn; split <;> omega
theorem mx_eq (a b : Int) : mx a b = max a b := by unfold mx; split <;> omega
theorem Ev_refFeud (p : Int) (l : List S43) (hl : l.length ≤ 1000) (a b : Int) : Ev (fun k => verditerref03_Feud.f k p l a b) (fdI l a b) := by
  have key : ∀ d i, i + d = l.length → (∀ f ∈ l.take i, f ≠ ⟨min a b, max a b⟩) → Ev (fun k => verditerref03_Feud.l0 k a b (i : Int) p l) (fdI l a b) := by
    intro d
    induction d with
    | zero =>
      intro i hi hn
      rw [List.take_of_length_le (by omega)] at hn
      refine Ev.step (f := fun _ => some false) (fun k => ?_) (ev_cast (Ev.now false) (fun _ => rfl) (decide_eq_false fun h => hn _ h rfl))
      rw [verditerref03_Feud.l0, if_neg (by omega)]
    | succ d ih =>
      intro i hi hn
      have hil : i < l.length := by omega
      by_cases hb : l.getD i z43 = ⟨min a b, max a b⟩
      · refine Ev.step (f := fun _ => some true) (fun k => ?_) (ev_cast (Ev.now true) (fun _ => rfl) (decide_eq_true (by rw [← hb]; exact getD_memF hil)))
        rw [verditerref03_Feud.l0, if_pos (by omega), if_pos (by omega), rdT_nat, hb, mn_eq, mx_eq, if_pos rfl, if_pos rfl]
      · refine Ev.step (f := fun k => verditerref03_Feud.l0 k a b ((i + 1 : Nat) : Int) p l) (fun k => ?_) (ih (i + 1) (by omega) (fun f hf => ?_))
        · rw [verditerref03_Feud.l0, if_pos (by omega), if_pos (by omega), rdT_nat, mn_eq, mx_eq, wr1 (n := l.length) (by omega) hil]
          by_cases h1 : (l.getD i z43).f0 = min a b
          · rw [if_pos h1, if_neg (fun h2 => hb (by rw [← h1, ← h2]))]
          · rw [if_neg h1]
        · rw [take_snocF hil] at hf
          rcases List.mem_append.1 hf with h | h
          · exact hn f h
          · rw [List.mem_singleton.1 h]; exact hb
  exact key l.length 0 (by omega) (by simp)
theorem Ev_numbered (p : Int) (l : List S43) (hl : l.length ≤ 1000) (k0 : Int) : Ev (fun k => verditerref03_numbered.f k p l k0) (if vldF p l = 0 then (if 0 ≤ k0 ∧ k0 < l.length then 0 else 4) else vldF p l) := by
  by_cases h : vldF p l = 0
  · refine ev_cast (g := fun k => (verditerref03_Validate.f k p l).bind fun t163 => if t163 = 0 then ((verditerref01_Within.f k0 0 (wrap64 ((l.length : Int) - 1))).bind fun t164 => (if t164 = true then (some 0) else (some 4))) else (some t163)) (Ev.bind (Ev_refVld p l hl) (ev_cast (Ev.now (if 0 ≤ k0 ∧ k0 < (l.length : Int) then (0 : Int) else 4)) (fun k => ?_) rfl)) (fun _ => rfl) (if_pos h)
    rw [if_pos h, within_eq, Option.bind_some, IntWalk.wrap64_in _ (by omega)]
    by_cases h2 : 0 ≤ k0 ∧ k0 < l.length
    · rw [if_pos (decide_eq_true (by omega)), if_pos h2]
    · rw [if_neg (by rw [decide_eq_true_eq]; omega), if_neg h2]
  · refine ev_cast (g := fun k => (verditerref03_Validate.f k p l).bind fun t163 => if t163 = 0 then ((verditerref01_Within.f k0 0 (wrap64 ((l.length : Int) - 1))).bind fun t164 => (if t164 = true then (some 0) else (some 4))) else (some t163)) (Ev.bind (Ev_refVld p l hl) (ev_cast (Ev.now (vldF p l)) (fun k => ?_) rfl)) (fun _ => rfl) (if_neg h)
    rw [if_neg h]
end Go.Proofs.Ytpmjmhdofjbcbaa.H
