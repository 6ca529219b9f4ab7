/- Sums, right tables, and the laws' small words in closed form. -/
import Derived.Test.YtbnjffhcpkfnhaaQA1
import Derived.Test.YtbnjffhcpkfnhaaHE
import Derived.Test.YtbnjffhcpkfnhaaHC
import Derived.Test.YtbnjffhcpkfnhaaHT
namespace Go.Proofs.Ytbnjffhcpkfnhaa.H
open Go.RowKit Go.Proofs.YtbnjffhcpkfnhaaW.PrintWords Go.Proofs.YtbnjffhcpkfnhaaW.PrintLast Go.Proofs.YtbnjffhcpkfnhaaW.PrintMore
set_option linter.unusedVariables false

/-! ### sums -/
def sumTo (f : Nat → Int) : Nat → Int
  | 0 => 0
  | n + 1 => sumTo f n + f n
theorem sumTo_congr {f g : Nat → Int} : ∀ {n : Nat}, (∀ i, i < n → f i = g i) → sumTo f n = sumTo g n
  | 0, _ => rfl
  | n + 1, h => by
    simp only [sumTo]
    rw [sumTo_congr (fun i hi => h i (by omega)), h n (by omega)]
theorem sumTo_add (f g : Nat → Int) : ∀ n, sumTo (fun i => f i + g i) n = sumTo f n + sumTo g n
  | 0 => rfl
  | n + 1 => by simp only [sumTo]; rw [sumTo_add f g n]; omega
theorem sumTo_mul (c : Int) (f : Nat → Int) : ∀ n, sumTo (fun i => c * f i) n = c * sumTo f n
  | 0 => by simp [sumTo]
  | n + 1 => by simp only [sumTo]; rw [sumTo_mul c f n, Int.mul_add]
theorem sumTo_mul_right (c : Int) (f : Nat → Int) (n : Nat) : sumTo (fun i => f i * c) n = sumTo f n * c := by
  rw [Int.mul_comm, ← sumTo_mul]; exact sumTo_congr (fun i _ => Int.mul_comm _ _)
theorem sumTo_zero : ∀ n, sumTo (fun _ => 0) n = 0
  | 0 => rfl
  | n + 1 => by simp only [sumTo]; rw [sumTo_zero n]; rfl
theorem sumTo_const (c : Int) : ∀ n : Nat, sumTo (fun _ => c) n = n * c
  | 0 => by simp [sumTo]
  | n + 1 => by
    simp only [sumTo]; rw [sumTo_const c n]
    have : ((n + 1 : Nat) : Int) = (n : Int) + 1 := by omega
    rw [this, Int.add_mul, Int.one_mul]
theorem sumTo_swap (f : Nat → Nat → Int) (m : Nat) : ∀ n, sumTo (fun i => sumTo (fun k => f i k) m) n = sumTo (fun k => sumTo (fun i => f i k) n) m
  | 0 => by simp only [sumTo]; rw [sumTo_zero]
  | n + 1 => by simp only [sumTo]; rw [sumTo_swap f m n, sumTo_add]
theorem sumTo_one (i : Nat) (f : Nat → Int) : ∀ n, sumTo (fun k => if k = i then f k else 0) n = if i < n then f i else 0
  | 0 => by simp [sumTo]
  | n + 1 => by
    simp only [sumTo]
    rw [sumTo_one i f n]
    by_cases h : i < n
    · rw [if_pos h, if_neg (by omega), if_pos (by omega)]; omega
    · by_cases h2 : n = i
      · subst h2; rw [if_neg h, if_pos rfl, if_pos (by omega)]; omega
      · rw [if_neg h, if_neg h2, if_neg (by omega)]; omega
theorem sumTo_le {f g : Nat → Int} : ∀ {n : Nat}, (∀ i, i < n → f i ≤ g i) → sumTo f n ≤ sumTo g n
  | 0, _ => Int.le_refl _
  | n + 1, h => by
    simp only [sumTo]
    have := sumTo_le (f := f) (g := g) (n := n) (fun i hi => h i (by omega))
    have := h n (by omega)
    omega
theorem sumTo_nonneg {f : Nat → Int} {n : Nat} (h : ∀ i, i < n → 0 ≤ f i) : 0 ≤ sumTo f n := by
  have := sumTo_le (f := fun _ => 0) (g := f) (n := n) h
  rw [sumTo_zero] at this
  exact this
theorem sumTo_bound {f : Nat → Int} {b : Int} {n : Nat} (h : ∀ i, i < n → 0 ≤ f i ∧ f i ≤ b) : 0 ≤ sumTo f n ∧ sumTo f n ≤ n * b := by
  refine ⟨sumTo_nonneg (fun i hi => (h i hi).1), ?_⟩
  have := sumTo_le (f := f) (g := fun _ => b) (n := n) (fun i hi => (h i hi).2)
  rw [sumTo_const] at this
  exact this
theorem sum_eq_sumTo (l : List Int) : l.sum = sumTo (fun i => l.getD i 0) l.length := by
  have h : ∀ (l : List Int) (k : Nat), k ≤ l.length → (l.take k).sum = sumTo (fun i => l.getD i 0) k := by
    intro l k
    induction k with
    | zero => intro _; rfl
    | succ k ih =>
      intro hk
      rw [List.take_succ_eq_append_getElem (by omega), List.sum_append, ih (by omega)]
      simp only [sumTo, List.sum_cons, List.sum_nil]
      rw [List.getD_eq_getElem?_getD, List.getElem?_eq_getElem (by omega)]
      simp
  rw [← h l l.length (Nat.le_refl _), List.take_length]

theorem wrap_small {x : Int} (h1 : -1000000 ≤ x) (h2 : x ≤ 1000000) : wrap64 x = x := by unfold wrap64; omega

/-! ### right tables -/
structure Right (t : List (List Int)) : Prop where
  pos : 1 ≤ t.length
  len : t.length ≤ 7
  row : ∀ i, i < t.length → (t.getD i []).length = t.length
  bit : ∀ i k, ent t i k = 0 ∨ ent t i k = 1
  diag : ∀ i, ent t i i = 0
  anti : ∀ i k, i < t.length → k < t.length → i ≠ k → ent t i k + ent t k i = 1
theorem ent_out {t : List (List Int)} {i : Nat} (h : ¬ i < t.length) (k : Nat) : ent t i k = 0 := by
  unfold ent
  rw [List.getD_eq_getElem?_getD (l := t), List.getElem?_eq_none (by omega)]
  rfl
theorem Right.of {t : List (List Int)} (h : errV t = 0) : Right t := by
  obtain ⟨h1, h2⟩ := (okV_iff t).1 (errV_ok h)
  refine ⟨errV_pos h, errV_len h, fun i hi => ((bitRow_iff t i).1 (h1 i hi)).1, fun i k => ?_, fun i => ?_, fun i k hi hk hne => ?_⟩
  · by_cases hi : i < t.length
    · exact ent_bit (h1 i hi) k
    · exact .inl (ent_out hi k)
  · by_cases hi : i < t.length
    · exact ((bitRow_iff t i).1 (h1 i hi)).2.2
    · exact ent_out hi i
  · by_cases hl : k < i
    · exact h2 i hi k hl
    · have := h2 k hk i (by omega)
      omega
theorem Right.small {t : List (List Int)} (h : Right t) : small t = true := by
  unfold H.small
  rw [Bool.and_eq_true, List.all_eq_true]
  refine ⟨decide_eq_true h.len, fun l hl => decide_eq_true ?_⟩
  obtain ⟨i, hi, rfl⟩ := List.getElem_of_mem hl
  have := h.row i hi
  rw [List.getD_eq_getElem?_getD, List.getElem?_eq_getElem hi, Option.getD_some] at this
  have := h.len
  omega
def winOf (t : List (List Int)) (i : Nat) : Int := sumTo (fun k => ent t i k) t.length
theorem Right.win_bound {t : List (List Int)} (h : Right t) (i : Nat) : 0 ≤ winOf t i ∧ winOf t i ≤ 7 := by
  have := sumTo_bound (f := fun k => ent t i k) (b := 1) (n := t.length) (fun k _ => by rcases h.bit i k with e | e <;> rw [e] <;> omega)
  have := h.len
  unfold winOf
  omega

/-! ### the laws' words -/
theorem rdA_nat (xs : List (List Int)) (i : Nat) : QA.rd_L1 xs (i : Int) = xs.getD i [] := by simp [QA.rd_L1]
theorem Ev_Long (t : List (List Int)) (ht : t.length ≤ 9223372036854775807) : ∃ b, Ev (fun k => QA.verditerlaw05_Long.f k t) b ∧ (b = false → t.length ≤ 40 ∧ ∀ l ∈ t, l.length ≤ 40) := by
  have h : ∀ d i, i + d = t.length → (∀ j, j < i → (t.getD j []).length ≤ 40) → ∃ b, Ev (fun k => QA.verditerlaw05_Long.l0 k t (i : Int)) b ∧ (b = false → t.length ≤ 40 ∧ ∀ l ∈ t, l.length ≤ 40) := by
    intro d
    induction d with
    | zero =>
      intro i hi hp
      refine ⟨_, Ev.step (fun k => by simp only [QA.verditerlaw05_Long.l0]; rw [if_neg (by omega)]) (Ev.now _), fun hb => ⟨by have := of_decide_eq_false hb; omega, fun l hl => ?_⟩⟩
      obtain ⟨j, hj, rfl⟩ := List.getElem_of_mem hl
      have := hp j (by omega)
      rwa [List.getD_eq_getElem?_getD, List.getElem?_eq_getElem hj, Option.getD_some] at this
    | succ d ih =>
      intro i hi hp
      by_cases hm : ((t.getD i []).length : Int) > 40
      · refine ⟨true, Ev.step (fun k => ?_) (Ev.now _), fun hb => by cases hb⟩
        simp only [QA.verditerlaw05_Long.l0, QA.verditerlaw05_many.f, Option.bind_some]
        rw [if_pos (by omega), if_pos (by omega), rdA_nat, if_pos (decide_eq_true hm)]
      · obtain ⟨b, hb, hs⟩ := ih (i + 1) (by omega) (fun j hj => by
          by_cases e : j = i
          · subst e; omega
          · exact hp j (by omega))
        refine ⟨b, Ev.step (fun k => ?_) hb, hs⟩
        simp only [QA.verditerlaw05_Long.l0, QA.verditerlaw05_many.f, Option.bind_some]
        rw [if_pos (by omega), if_pos (by omega), rdA_nat, if_neg (by rw [decide_eq_true_eq]; exact hm), wrap_nat (n := t.length) (by omega) ht]
  exact h t.length 0 (by omega) (fun j hj => absurd hj (by omega))
theorem Ev_same (l : List Int) (hl : l.length ≤ 9223372036854775807) : Ev (fun k => QA.verditerref01_SameInts.f k l l) true := by
  have h : ∀ d i, i + d = l.length → Ev (fun k => QA.verditerref01_SameInts.l0 k l l (i : Int)) true := by
    intro d
    induction d with
    | zero => intro i hi; exact Ev.step (fun k => by simp only [QA.verditerref01_SameInts.l0]; rw [if_neg (by omega)]) (Ev.now _)
    | succ d ih =>
      intro i hi
      refine Ev.step (fun k => ?_) (ih (i + 1) (by omega))
      simp only [QA.verditerref01_SameInts.l0]
      rw [if_pos (by omega), if_pos (by omega), if_pos (by omega), if_pos trivial, wrap_nat (n := l.length) (by omega) hl]
  refine Ev.congr (fun k => ?_) (h l.length 0 (by omega))
  simp only [QA.verditerref01_SameInts.f]
  rw [if_pos trivial]
  rfl
end Go.Proofs.Ytbnjffhcpkfnhaa.H
