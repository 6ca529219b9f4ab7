/- Strips by falling wins: a group is what all reach from one another; it ends where all so far beat all others. -/
import Derived.Test.YtbnjffhcpkfnhaaHRg
import Derived.Test.YtbnjffhcpkfnhaaHM
import Derived.Test.YtbnjffhcpkfnhaaHQ
namespace Go.Proofs.Ytbnjffhcpkfnhaa.H
open Go.RowKit Go.Proofs.YtbnjffhcpkfnhaaW.PrintWords Go.Proofs.YtbnjffhcpkfnhaaW.PrintLast Go.Proofs.YtbnjffhcpkfnhaaW.PrintMore
set_option linter.unusedVariables false
set_option linter.unusedSimpArgs false
/-! ### who reaches whom -/
/-- Over others below M. -/
def rB (t : List (List Int)) : Nat → Nat → Nat → Bool
  | 0, i, k => decide (i = k) || decide (ent t i k = 1)
  | M + 1, i, k => rB t M i k || (rB t M i M && rB t M M k)
def rc (t : List (List Int)) (i k : Nat) : Bool := rB t t.length i k
theorem rB_up {t : List (List Int)} {M i k : Nat} (h : rB t M i k = true) : rB t (M + 1) i k = true := by unfold rB; rw [h]; rfl
theorem rB_from {t : List (List Int)} {i k : Nat} (h : rB t 0 i k = true) : ∀ M, rB t M i k = true
  | 0 => h
  | M + 1 => rB_up (rB_from h M)
theorem rB_to {t : List (List Int)} (M i : Nat) : rB t (M + 1) i M = rB t M i M := by
  have e : rB t (M + 1) i M = (rB t M i M || (rB t M i M && rB t M M M)) := rfl
  rw [e]
  cases rB t M i M <;> simp
theorem rB_of {t : List (List Int)} (M k : Nat) : rB t (M + 1) M k = rB t M M k := by
  have e : rB t (M + 1) M k = (rB t M M k || (rB t M M M && rB t M M k)) := rfl
  rw [e]
  cases rB t M M k <;> simp
theorem rB_trans {t : List (List Int)} : ∀ (M i x y : Nat), x < M → rB t M i x = true → rB t M x y = true → rB t M i y = true
  | 0, _, _, _, h, _, _ => absurd h (Nat.not_lt_zero _)
  | M + 1, i, x, y, hx, h1, h2 => by
    have ih := rB_trans (t := t) M
    by_cases e : x = M
    · subst e
      rw [rB_to] at h1
      rw [rB_of] at h2
      show (rB t x i y || (rB t x i x && rB t x x y)) = true
      rw [h1, h2]; simp
    · have hx' : x < M := by omega
      have e1 : (rB t M i x || (rB t M i M && rB t M M x)) = true := h1
      have e2 : (rB t M x y || (rB t M x M && rB t M M y)) = true := h2
      show (rB t M i y || (rB t M i M && rB t M M y)) = true
      simp only [Bool.or_eq_true, Bool.and_eq_true] at e1 e2 ⊢
      rcases e1 with a | ⟨a, a'⟩
      · rcases e2 with c | ⟨c, c'⟩
        · exact .inl (ih _ _ _ hx' a c)
        · exact .inr ⟨ih _ _ _ hx' a c, c'⟩
      · rcases e2 with c | ⟨c, c'⟩
        · exact .inr ⟨a, ih _ _ _ hx' a' c⟩
        · exact .inr ⟨a, c'⟩
theorem rB_closed {t : List (List Int)} (S : Nat → Prop) (hS : ∀ x y, S x → ent t x y = 1 → S y) : ∀ (M i k : Nat), S i → rB t M i k = true → S k
  | 0, i, k, hi, h => by
    have e : (decide (i = k) || decide (ent t i k = 1)) = true := h
    simp only [Bool.or_eq_true, decide_eq_true_eq] at e
    rcases e with rfl | e
    · exact hi
    · exact hS _ _ hi e
  | M + 1, i, k, hi, h => by
    have e : (rB t M i k || (rB t M i M && rB t M M k)) = true := h
    simp only [Bool.or_eq_true, Bool.and_eq_true] at e
    rcases e with e | ⟨e1, e2⟩
    · exact rB_closed S hS M i k hi e
    · exact rB_closed S hS M M k (rB_closed S hS M i M hi e1) e2
theorem rc_refl (t : List (List Int)) (i : Nat) : rc t i i = true := rB_from (by unfold rB; simp) _
theorem rc_one {t : List (List Int)} {i k : Nat} (h : ent t i k = 1) : rc t i k = true := rB_from (by unfold rB; simp [h]) _
theorem rc_trans {t : List (List Int)} {i x y : Nat} (hx : x < t.length) (h1 : rc t i x = true) (h2 : rc t x y = true) : rc t i y = true := rB_trans _ _ _ _ hx h1 h2

/-! ### an order by falling wins -/
theorem sumTo_nums (f : Nat → Int) : ∀ n, sumTo f n = ((nums0 n).map fun x => f x.toNat).sum
  | 0 => rfl
  | n + 1 => by
    have e : nums0 (n + 1) = nums0 n ++ [(n : Int)] := by simp [nums0, List.range_succ]
    rw [e, List.map_append, List.sum_append, ← sumTo_nums f n]
    simp [sumTo]
theorem sumTo_list (g : Int → Int) (L : List Int) : ∀ k, k ≤ L.length → sumTo (fun a => g (L.getD a 0)) k = ((L.take k).map g).sum
  | 0, _ => by simp [sumTo]
  | k + 1, hk => by
    have ih := sumTo_list g L k (by omega)
    rw [List.take_succ_eq_append_getElem (by omega), List.map_append, List.sum_append, ← ih]
    simp [sumTo, List.getD_eq_getElem?_getD, List.getElem?_eq_getElem (show k < L.length by omega)]
theorem sum_perm {l m : List Int} (h : l.Perm m) : l.sum = m.sum := by
  induction h with
  | nil => rfl
  | cons x _ ih => rw [List.sum_cons, List.sum_cons, ih]
  | swap x y l => simp only [List.sum_cons]; omega
  | trans _ _ ih1 ih2 => rw [ih1, ih2]
theorem sumTo_order {n : Nat} {L : List Int} (ho : Order n L) (f : Nat → Int) : sumTo (fun a => f (L.getD a 0).toNat) n = sumTo f n := by
  have hl := ho.len
  rw [sumTo_nums f n, ← sum_perm (ho.map fun x => f x.toNat)]
  have := sumTo_list (fun x => f x.toNat) L n (by omega)
  rw [List.take_of_length_le (by omega)] at this
  exact this
/-- The strip at a place. -/
def at_ (L : List Int) (a : Nat) : Nat := (L.getD a 0).toNat
structure Fall (t : List (List Int)) (L : List Int) : Prop where
  ord : Order t.length L
  fall : ∀ a b, a < b → b < t.length → winOf t (at_ L b) ≤ winOf t (at_ L a)
theorem Fall.lt {t : List (List Int)} {L : List Int} (F : Fall t L) {a : Nat} (ha : a < t.length) : at_ L a < t.length := by
  have := F.ord.mem.1 (getD_mem (show a < L.length by rw [F.ord.len]; exact ha))
  unfold at_
  omega
theorem Fall.val {t : List (List Int)} {L : List Int} (F : Fall t L) {a : Nat} (ha : a < t.length) : L.getD a 0 = (at_ L a : Nat) := by
  have := F.ord.mem.1 (getD_mem (show a < L.length by rw [F.ord.len]; exact ha))
  unfold at_
  omega
theorem Fall.onto {t : List (List Int)} {L : List Int} (F : Fall t L) {x : Nat} (hx : x < t.length) : ∃ a, a < t.length ∧ at_ L a = x := by
  obtain ⟨a, ha, e⟩ := List.getElem_of_mem (F.ord.mem.2 (show 0 ≤ (x : Int) ∧ (x : Int) < t.length by omega))
  refine ⟨a, by rw [← F.ord.len]; exact ha, ?_⟩
  unfold at_
  rw [List.getD_eq_getElem?_getD, List.getElem?_eq_getElem ha, Option.getD_some, e, Int.toNat_natCast]
theorem Fall.inj {t : List (List Int)} {L : List Int} (F : Fall t L) {a b : Nat} (ha : a < t.length) (hb : b < t.length) (h : at_ L a = at_ L b) : a = b := by
  have hl := F.ord.len
  have hv : L.getD a 0 = L.getD b 0 := by rw [F.val ha, F.val hb, h]
  have hnd := F.ord.nodup
  unfold List.Nodup at hnd
  rw [List.pairwise_iff_getElem] at hnd
  rw [List.getD_eq_getElem?_getD, List.getElem?_eq_getElem (show a < L.length by omega), List.getD_eq_getElem?_getD, List.getElem?_eq_getElem (show b < L.length by omega)] at hv
  simp only [Option.getD_some] at hv
  rcases Nat.lt_trichotomy a b with c | c | c
  · exact absurd hv (hnd a b (by omega) (by omega) c)
  · exact c
  · exact absurd hv.symm (hnd b a (by omega) (by omega) c)
/-- All before place s beat all behind it. -/
def Dom (t : List (List Int)) (L : List Int) (s : Nat) : Prop := ∀ a, a < s → ∀ b, s ≤ b → b < t.length → ent t (at_ L a) (at_ L b) = 1
theorem Dom.zero (t : List (List Int)) (L : List Int) : Dom t L 0 := fun a ha => absurd ha (Nat.not_lt_zero _)
theorem Dom.all (t : List (List Int)) (L : List Int) : Dom t L t.length := fun a _ b h1 h2 => absurd h2 (by omega)
theorem sumTo_lt {f g : Nat → Int} {n j : Nat} (h : ∀ i, i < n → f i ≤ g i) (hj : j < n) (hs : f j < g j) : sumTo f n < sumTo g n := by
  induction n with
  | zero => exact absurd hj (Nat.not_lt_zero _)
  | succ n ih =>
    simp only [sumTo]
    by_cases e : j = n
    · subst e
      have := sumTo_le (f := f) (g := g) (n := j) (fun i hi => h i (by omega))
      omega
    · have := ih (fun i hi => h i (by omega)) (by omega)
      have := h n (by omega)
      omega
/-- What is reached from a place is what stands from its last cut on. -/
theorem reach_iff {t : List (List Int)} (h : Right t) {L : List Int} (F : Fall t L) {s a : Nat} (ha : a < t.length) (hsa : s ≤ a) (hD : Dom t L s) (hlast : ∀ j, s < j → j ≤ a → ¬ Dom t L j) {b : Nat} (hb : b < t.length) : rc t (at_ L a) (at_ L b) = true ↔ s ≤ b := by
  constructor
  · intro hr
    have := rB_closed (t := t) (fun x => ∃ c, s ≤ c ∧ c < t.length ∧ at_ L c = x) (by
      rintro x y ⟨c, hc, hcl, rfl⟩ he
      have hy : y < t.length := by
        apply Classical.byContradiction
        intro hn
        have e0 : ent t (at_ L c) y = 0 := by
          unfold ent
          rw [List.getD_eq_getElem?_getD (l := t.getD (at_ L c) []), List.getElem?_eq_none (by rw [h.row _ (F.lt hcl)]; omega)]
          rfl
        omega
      obtain ⟨d, hd, rfl⟩ := F.onto hy
      refine ⟨d, ?_, hd, rfl⟩
      apply Classical.byContradiction
      intro hn
      have h1 := hD d (by omega) c hc hcl
      have h2 := h.anti (at_ L c) (at_ L d) (F.lt hcl) (F.lt hd) (fun e => by have := F.inj hcl hd e; omega)
      omega) _ _ _ ⟨a, hsa, ha, rfl⟩ hr
    obtain ⟨c, hc, hcl, e⟩ := this
    have := F.inj hcl hb e
    omega
  · intro hsb
    -- what isn't reached beats all that is, and has more wins
    have beat : ∀ y x, y < t.length → x < t.length → rc t (at_ L a) y = false → rc t (at_ L a) x = true → ent t y x = 1 := fun y x hy hx h1 h2 => by
      have hne : y ≠ x := fun e => by subst e; rw [h1] at h2; cases h2
      rcases h.bit x y with e | e
      · have := h.anti y x hy hx hne; omega
      · have := rc_trans hx h2 (rc_one e)
        rw [h1] at this; cases this
    have more : ∀ y x, y < t.length → x < t.length → rc t (at_ L a) y = false → rc t (at_ L a) x = true → winOf t x < winOf t y := fun y x hy hx h1 h2 => by
      unfold winOf
      refine sumTo_lt (j := x) (fun k hk => ?_) hx ?_
      · cases hk2 : rc t (at_ L a) k with
        | true =>
          have := beat y k hy hk h1 hk2
          rcases h.bit x k with e | e <;> omega
        | false =>
          have e1 : ent t x k ≠ 1 := fun e => by
            have := rc_trans hx h2 (rc_one e)
            rw [hk2] at this; cases this
          rcases h.bit x k with e | e
          · rcases h.bit y k with e' | e' <;> omega
          · exact absurd e e1
      · have h3 := beat y x hy hx h1 h2
        have h4 := h.diag x
        omega
    have place : ∀ c d, c < t.length → d < t.length → rc t (at_ L a) (at_ L c) = false → rc t (at_ L a) (at_ L d) = true → c < d := fun c d hc hd h1 h2 => by
      have hm := more _ _ (F.lt hc) (F.lt hd) h1 h2
      rcases Nat.lt_trichotomy c d with e | e | e
      · exact e
      · subst e; rw [h1] at h2; cases h2
      · have := F.fall d c e hc; omega
    apply Classical.byContradiction
    intro hn
    have hnb : rc t (at_ L a) (at_ L b) = false := by simpa using hn
    have hba := place b a hb ha hnb (rc_refl t _)
    -- the first place behind b that is reached is a cut
    have : ∀ d, b < d → d ≤ a → rc t (at_ L a) (at_ L d) = true → (∀ c, b < c → c < d → rc t (at_ L a) (at_ L c) = false) → False := fun d h1 h2 h3 h4 => by
      refine hlast d (by omega) h2 (fun x hx y hy hyl => ?_)
      refine beat _ _ (F.lt (by omega)) (F.lt hyl) ?_ ?_
      · cases e : rc t (at_ L a) (at_ L x) with
        | false => rfl
        | true =>
          have := place b x hb (by omega) hnb e
          rw [h4 x this hx] at e; cases e
      · cases e : rc t (at_ L a) (at_ L y) with
        | true => rfl
        | false =>
          have := place y d hyl (by omega) e h3
          omega
    have any : ∀ k d, d = b + 1 + k → d ≤ a → (∀ c, b < c → c < d → rc t (at_ L a) (at_ L c) = false) → False ∨ ∀ c, b < c → c ≤ d → rc t (at_ L a) (at_ L c) = false := by
      intro k
      induction k with
      | zero =>
        intro d hd hda h4
        cases e : rc t (at_ L a) (at_ L d) with
        | true => exact .inl (this d (by omega) hda e h4)
        | false =>
          exact .inr fun c h1 h2 => by
            obtain rfl : c = d := by omega
            exact e
      | succ k ih =>
        intro d hd hda h4
        cases e : rc t (at_ L a) (at_ L d) with
        | true => exact .inl (this d (by omega) hda e h4)
        | false =>
          exact .inr fun c h1 h2 => by
            by_cases e2 : c = d
            · subst e2; exact e
            · exact h4 c h1 (by omega)
    have all : ∀ d, b < d → d ≤ a → ∀ c, b < c → c ≤ d → rc t (at_ L a) (at_ L c) = false := by
      intro d
      induction d with
      | zero => intro h1; omega
      | succ d ih =>
        intro h1 h2
        have h4 : ∀ c, b < c → c < d + 1 → rc t (at_ L a) (at_ L c) = false := fun c h5 h6 => ih (by omega) (by omega) c h5 (by omega)
        rcases any (d + 1 - (b + 1)) (d + 1) (by omega) h2 h4 with e | e
        · exact e.elim
        · exact e
    have := all a hba (Nat.le_refl _) a hba (Nat.le_refl _)
    rw [rc_refl] at this
    cases this
end Go.Proofs.Ytbnjffhcpkfnhaa.H
