/- The reference's Drop, Merge, Same. -/
import Derived.Test.YtpmjmhdofjbcbaaFN5
namespace Go.Proofs.Ytpmjmhdofjbcbaa.H
open Go.RowKit Go.Proofs.Ytpmjmhdofjbcbaa.QA Go.Proofs.Ytpmjmhdofjbcbaa.QE Go.Proofs.Ytpmjmhdofjbcbaa.QK Go.Proofs.Ytpmjmhdofjbcbaa.QR Go.Proofs.YtpmjmhdofjbcbaaW.PrintWords Go.Proofs.YtpmjmhdofjbcbaaW.PrintLast Go.Proofs.YtpmjmhdofjbcbaaW.PrintMore
set_option linter.unusedVariables false
set_option linter.unusedSimpArgs false
def drpTo (l : List S43) (j i : Nat) : List S43 := if i ≤ j then l.take i else l.take j ++ (l.take i).drop (j + 1)
theorem drpTo_step {l : List S43} {j i : Nat} (hi : i < l.length) (hne : i ≠ j) : drpTo l j i ++ [l.getD i z43] = drpTo l j (i + 1) := by
  unfold drpTo
  by_cases h : i ≤ j
  · rw [if_pos h, if_pos (by omega), take_snocF hi]
  · rw [if_neg h, if_neg (by omega), take_snocF hi, List.drop_append_of_le_length (by rw [List.length_take]; omega), List.append_assoc]
theorem drpTo_hit {l : List S43} {j : Nat} : drpTo l j (j + 1) = drpTo l j j := by
  unfold drpTo
  rw [if_neg (by omega), if_pos (by omega), List.drop_eq_nil_of_le (by rw [List.length_take]; omega), List.append_nil]
theorem drpTo_end {l : List S43} {j : Nat} (hj : j < l.length) : drpTo l j l.length = dropL l j := by
  unfold drpTo dropL
  rw [if_neg (by omega), List.take_length]
theorem drpTo_len (l : List S43) (j i : Nat) : (drpTo l j i).length ≤ l.length := by
  unfold drpTo
  split
  · rw [List.length_take]; omega
  · rw [List.length_append, List.length_drop, List.length_take, List.length_take]; omega
theorem s43_eta (f : S43) : (⟨f.f0, f.f1⟩ : S43) = f := rfl
theorem Ev_refDrop (p : Int) (l : List S43) (hl : l.length ≤ 1000) (k0 : Int) : Ev (fun k => verditerref03_Drop.f k p l k0) (if vldF p l = 0 then (if 0 ≤ k0 ∧ k0 < l.length then (p, dropL l k0.toNat, 0) else (0, [], 4)) else (0, [], vldF p l)) := by
  by_cases h : vldF p l = 0
  · by_cases h2 : 0 ≤ k0 ∧ k0 < l.length
    · obtain ⟨j, rfl⟩ : ∃ j : Nat, k0 = j := ⟨k0.toNat, by omega⟩
      have hj : j < l.length := by omega
      have hN := Ev_numbered p l hl (j : Int)
      rw [if_pos h, if_pos h2] at hN
      have key : ∀ d i, i + d = l.length → Ev (fun k => verditerref03_Drop.l0 k (j : Int) (i : Int) p l p (drpTo l j i)) (p, dropL l j, 0) := by
        intro d
        induction d with
        | zero =>
          intro i hi
          refine Ev.step (f := fun _ => some (p, dropL l j, 0)) (fun k => ?_) (Ev.now _)
          rw [verditerref03_Drop.l0, if_neg (by omega), show i = l.length by omega, drpTo_end hj]
        | succ d ih =>
          intro i hi
          have hil : i < l.length := by omega
          refine Ev.step (f := fun k => verditerref03_Drop.l0 k (j : Int) ((i + 1 : Nat) : Int) p l p (drpTo l j (i + 1))) (fun k => ?_) (ih (i + 1) (by omega))
          rw [verditerref03_Drop.l0, if_pos (by omega), wr1 (n := l.length) (by omega) hil]
          by_cases e : i = j
          · rw [if_pos (by omega), e, drpTo_hit]
          · rw [if_neg (by omega), if_pos (by omega), if_pos (by have := drpTo_len l j i; omega), rdT_nat, s43_eta, drpTo_step hil e]
      have k0 := key l.length 0 (by omega)
      refine ev_cast (Ev.bind hN (ev_cast k0 (fun k => ?_) rfl)) (fun k => rfl) (by rw [if_pos h, if_pos h2, Int.toNat_natCast])
      rw [if_pos rfl]
      rfl
    · have hN := Ev_numbered p l hl k0
      rw [if_pos h, if_neg h2] at hN
      refine ev_cast (Ev.bind hN (ev_cast (Ev.now (((0 : Int), ([] : List S43), (4 : Int)))) (fun k => ?_) rfl)) (fun k => rfl) (by rw [if_pos h, if_neg h2])
      rw [if_neg (by decide)]
  · have hN := Ev_numbered p l hl k0
    rw [if_neg h] at hN
    refine ev_cast (Ev.bind hN (ev_cast (Ev.now (((0 : Int), ([] : List S43), vldF p l))) (fun k => ?_) rfl)) (fun k => rfl) (by rw [if_neg h])
    rw [if_neg h]
theorem Ev_Same (p : Int) (l : List S43) (p' : Int) (l' : List S43) (hl : l.length ≤ 1000) : Ev (fun k => verditerref03_Same.f k p l p' l') (decide (p = p' ∧ l = l')) := by
  have no : ∀ {q : Prop} [Decidable q], ¬ q → Ev (fun k => verditerref03_Same.j0 k true p l p' l') (decide q) := fun hq => by
    refine Ev.step (f := fun _ => some false) (fun k => ?_) (ev_cast (Ev.now false) (fun _ => rfl) (decide_eq_false hq))
    rw [verditerref03_Same.j0, if_pos rfl]
  by_cases hp : p = p'
  · by_cases hlen : l.length = l'.length
    · have key : ∀ d i, i + d = l.length → l.take i = l'.take i → Ev (fun k => verditerref03_Same.l0 k (i : Int) p l p' l') (decide (p = p' ∧ l = l')) := by
        intro d
        induction d with
        | zero =>
          intro i hi ht
          rw [List.take_of_length_le (by omega), List.take_of_length_le (by omega)] at ht
          refine Ev.step (f := fun _ => some true) (fun k => ?_) (ev_cast (Ev.now true) (fun _ => rfl) (decide_eq_true ⟨hp, ht⟩))
          rw [verditerref03_Same.l0, if_neg (by omega)]
        | succ d ih =>
          intro i hi ht
          have hil : i < l.length := by omega
          have hb : ((!((l.getD i z43).f0 == (l'.getD i z43).f0)) || (!((l.getD i z43).f1 == (l'.getD i z43).f1))) = !decide (l.getD i z43 = l'.getD i z43) := by rw [← s43_beq, Bool.not_and]
          by_cases he : l.getD i z43 = l'.getD i z43
          · refine Ev.step (f := fun k => verditerref03_Same.l0 k ((i + 1 : Nat) : Int) p l p' l') (fun k => ?_) (ih (i + 1) (by omega) (by rw [take_snocF hil, take_snocF (by omega), ht, he]))
            rw [verditerref03_Same.l0, if_pos (by omega), if_pos (by omega), if_pos (by omega), rdT_nat, rdT_nat, hb, if_neg (by rw [decide_eq_true he]; decide), wr1 (n := l.length) (by omega) hil]
          · refine Ev.step (f := fun _ => some false) (fun k => ?_) (ev_cast (Ev.now false) (fun _ => rfl) (decide_eq_false fun e => he (by rw [e.2])))
            rw [verditerref03_Same.l0, if_pos (by omega), if_pos (by omega), if_pos (by omega), rdT_nat, rdT_nat, hb, if_pos (by rw [decide_eq_false he]; rfl)]
      have k0 := key l.length 0 (by omega) (by simp)
      refine ev_cast (Ev.step (g := fun k => verditerref03_Same.j0 k false p l p' l') (fun k => ?_) k0) (fun k => ?_) rfl
      · rw [verditerref03_Same.j0, if_neg (by decide)]; rfl
      · unfold verditerref03_Same.f
        rw [if_pos hp, hlen, bne_self_eq_false]
    · refine ev_cast (no (q := p = p' ∧ l = l') fun h => hlen (by rw [h.2])) (fun k => ?_) rfl
      unfold verditerref03_Same.f
      rw [if_pos hp, show ((l.length : Int) != (l'.length : Int)) = true from by simp; omega]
  · refine ev_cast (no (q := p = p' ∧ l = l') fun h => hp h.1) (fun k => ?_) rfl
    unfold verditerref03_Same.f
    rw [if_neg hp]
/-! Merge -/
def oldN (A B p : Nat) : List Nat := if p = A then [A, B] else if p ≥ B then [p + 1] else [p]
theorem old_iff {A B x a : Nat} (h : A < B) : x ∈ oldN A B a ↔ numb A B x = a := by
  unfold oldN numb
  by_cases h1 : a = A
  · rw [if_pos h1, List.mem_cons, List.mem_singleton]
    constructor
    · rintro (rfl | rfl)
      · rw [if_neg (by omega), if_neg (by omega)]; omega
      · rw [if_pos rfl]; omega
    · intro e
      split at e
      · right; assumption
      · split at e <;> omega
  · rw [if_neg h1]
    by_cases h2 : a ≥ B
    · rw [if_pos h2, List.mem_singleton]
      constructor
      · rintro rfl; rw [if_neg (by omega), if_pos (by omega)]; omega
      · intro e
        split at e
        · omega
        · split at e <;> omega
    · rw [if_neg h2, List.mem_singleton]
      constructor
      · rintro rfl; rw [if_neg (by omega), if_neg (by omega)]
      · intro e
        split at e
        · omega
        · split at e <;> omega
def mrgB (E : List (Nat × Nat)) (A B a b : Nat) : Bool := (oldN A B a).any fun x => (oldN A B b).any fun y => decide ((min x y, max x y) ∈ E)
theorem mrgB_iff {E : List (Nat × Nat)} {n : Nat} (hg : Good n E) {k : Nat} (hk : k < E.length) {a b : Nat} (hab : a < b) : mrgB E (E.getD k (0, 0)).1 (E.getD k (0, 0)).2 a b = true ↔ (a, b) ∈ conE (E.getD k (0, 0)).1 (E.getD k (0, 0)).2 (dropE E k) := by
  have hAB := (hg.1 _ (getD_memE hk)).1
  unfold mrgB conE
  rw [List.any_eq_true, List.mem_map]
  constructor
  · rintro ⟨x, hx, h⟩
    obtain ⟨y, hy, h2⟩ := List.any_eq_true.1 h
    have hm := of_decide_eq_true h2
    have ex := (old_iff hAB).1 hx
    have ey := (old_iff hAB).1 hy
    refine ⟨(min x y, max x y), (dropE_mem hg.2 hk).2 ⟨hm, fun e => ?_⟩, ?_⟩
    · have e1 : min x y = (E.getD k (0, 0)).1 := by rw [← e]
      have e2 : max x y = (E.getD k (0, 0)).2 := by rw [← e]
      have nA : numb (E.getD k (0, 0)).1 (E.getD k (0, 0)).2 (E.getD k (0, 0)).1 = (E.getD k (0, 0)).1 := by unfold numb; rw [if_neg (by omega), if_neg (by omega)]
      have nB : numb (E.getD k (0, 0)).1 (E.getD k (0, 0)).2 (E.getD k (0, 0)).2 = (E.getD k (0, 0)).1 := by unfold numb; rw [if_pos rfl]
      rcases Nat.le_total x y with q | q
      · have : x = (E.getD k (0, 0)).1 := by omega
        have : y = (E.getD k (0, 0)).2 := by omega
        simp_all
      · have : y = (E.getD k (0, 0)).1 := by omega
        have : x = (E.getD k (0, 0)).2 := by omega
        simp_all
    · rcases Nat.le_total x y with q | q
      · rw [Nat.min_eq_left q, Nat.max_eq_right q]
        simp only [ex, ey]
        rw [Nat.min_eq_left (by omega), Nat.max_eq_right (by omega)]
      · rw [Nat.min_eq_right q, Nat.max_eq_left q]
        simp only [ex, ey]
        rw [Nat.min_eq_right (by omega), Nat.max_eq_left (by omega)]
  · rintro ⟨e, he, h⟩
    obtain ⟨he1, _⟩ := (dropE_mem hg.2 hk).1 he
    have hlt := (hg.1 e he1).1
    have h1 : min (numb (E.getD k (0, 0)).1 (E.getD k (0, 0)).2 e.1) (numb (E.getD k (0, 0)).1 (E.getD k (0, 0)).2 e.2) = a := congrArg Prod.fst h
    have h2 : max (numb (E.getD k (0, 0)).1 (E.getD k (0, 0)).2 e.1) (numb (E.getD k (0, 0)).1 (E.getD k (0, 0)).2 e.2) = b := congrArg Prod.snd h
    rcases Nat.le_total (numb (E.getD k (0, 0)).1 (E.getD k (0, 0)).2 e.1) (numb (E.getD k (0, 0)).1 (E.getD k (0, 0)).2 e.2) with q | q
    · rw [Nat.min_eq_left q] at h1
      rw [Nat.max_eq_right q] at h2
      refine ⟨e.1, (old_iff hAB).2 h1, List.any_eq_true.2 ⟨e.2, (old_iff hAB).2 h2, ?_⟩⟩
      rw [Nat.min_eq_left (by omega), Nat.max_eq_right (by omega)]
      exact decide_eq_true he1
    · rw [Nat.min_eq_right q] at h1
      rw [Nat.max_eq_left q] at h2
      refine ⟨e.2, (old_iff hAB).2 h1, List.any_eq_true.2 ⟨e.1, (old_iff hAB).2 h2, ?_⟩⟩
      rw [Nat.min_eq_right (by omega), Nat.max_eq_left (by omega)]
      exact decide_eq_true he1
end Go.Proofs.Ytpmjmhdofjbcbaa.H
