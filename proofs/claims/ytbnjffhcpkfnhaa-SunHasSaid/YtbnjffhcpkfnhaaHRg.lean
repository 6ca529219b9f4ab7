/- The number of rings, as the wins tell it (not to be imported beside the plain law of SunWins, which holds the same). -/
import Derived.Test.YtbnjffhcpkfnhaaHS
namespace Go.Proofs.Ytbnjffhcpkfnhaa.H
open Go.RowKit Go.Proofs.YtbnjffhcpkfnhaaW.PrintWords Go.Proofs.YtbnjffhcpkfnhaaW.PrintLast Go.Proofs.YtbnjffhcpkfnhaaW.PrintMore
set_option linter.unusedVariables false

/-! ### wins -/
theorem ones_sum {row : List Int} (h : ∀ k, row.getD k 0 = 0 ∨ row.getD k 0 = 1) : ∀ k, ((onesTo row k).length : Int) = sumTo (fun i => row.getD i 0) k
  | 0 => rfl
  | k + 1 => by
    simp only [sumTo]
    rw [← ones_sum h k]
    rcases h k with e | e
    · rw [onesTo_miss (by omega), e]; omega
    · rw [onesTo_hit e, e, List.length_append]; simp
theorem Right.wins_get {t : List (List Int)} (h : Right t) {i : Nat} (hi : i < t.length) : (winsL t).getD i 0 = winOf t i := by
  unfold winsL
  rw [List.getD_eq_getElem?_getD, List.getElem?_map, List.getElem?_eq_getElem hi]
  simp only [Option.map_some, Option.getD_some]
  have hr := h.row i hi
  have e : t[i] = t.getD i [] := by rw [List.getD_eq_getElem?_getD, List.getElem?_eq_getElem hi]; rfl
  rw [e]
  unfold ones
  rw [ones_sum (fun k => h.bit i k), hr]
  rfl
theorem winsL_len (t : List (List Int)) : (winsL t).length = t.length := by simp [winsL]

/-! ### rings -/
def ringT3 (t : List (List Int)) (i k m : Nat) : Int := ent t i k * ent t k m * ent t m i
def ringSum (t : List (List Int)) : Int := sumTo (fun i => sumTo (fun k => sumTo (fun m => ringT3 t i k m) t.length) t.length) t.length
theorem ringT3_bit {t : List (List Int)} (h : Right t) (i k m : Nat) : 0 ≤ ringT3 t i k m ∧ ringT3 t i k m ≤ 1 := by
  unfold ringT3
  rcases h.bit i k with a | a <;> rcases h.bit k m with b | b <;> rcases h.bit m i with c | c <;> rw [a, b, c] <;> omega

/-! ### the count: each three strips are a ring, or one of them beats both others -/
def same (i k : Nat) : Int := if k = i then 1 else 0
def apart3 (i k m : Nat) : Int := if i ≠ k ∧ k ≠ m ∧ i ≠ m then 1 else 0
theorem three_bits (a a' b b' c c' : Int) (ha : a = 0 ∨ a = 1) (hb : b = 0 ∨ b = 1) (hc : c = 0 ∨ c = 1) (h1 : a + a' = 1) (h2 : b + b' = 1) (h3 : c + c' = 1) : a * b + a' * c + b' * c' + a * c * b' + b * c' * a' = 1 + 0 * b' + 0 * a' + 0 * a := by
  obtain rfl : a' = 1 - a := by omega
  obtain rfl : b' = 1 - b := by omega
  obtain rfl : c' = 1 - c := by omega
  rcases ha with rfl | rfl <;> rcases hb with rfl | rfl <;> rcases hc with rfl | rfl <;> decide
theorem three {t : List (List Int)} (h : Right t) {i k m : Nat} (hi : i < t.length) (hk : k < t.length) (hm : m < t.length) :
    ent t i k * ent t i m + ent t k i * ent t k m + ent t m i * ent t m k + ringT3 t i k m + ringT3 t i m k = apart3 i k m + same i k * ent t m i + same i m * ent t k i + same k m * ent t i k := by
  unfold ringT3 apart3 same
  by_cases h1 : i = k
  · subst h1
    by_cases h2 : i = m
    · subst h2
      simp [h.diag i]
    · have ha := h.anti i m hi hm h2
      have hd := h.diag i
      rw [if_neg (by simp), if_pos rfl, if_neg (by omega), hd]
      rcases h.bit i m with e | e <;> rcases h.bit m i with e2 | e2 <;> rw [e, e2] at * <;> omega
  · by_cases h2 : i = m
    · subst h2
      have ha := h.anti i k hi hk h1
      have hd := h.diag i
      rw [if_neg (by simp), if_neg (by omega), if_pos rfl, if_neg (by omega), hd]
      rcases h.bit i k with e | e <;> rcases h.bit k i with e2 | e2 <;> rw [e, e2] at * <;> omega
    · by_cases h3 : k = m
      · subst h3
        have ha := h.anti i k hi hk h1
        have hd := h.diag k
        rw [if_neg (by simp), if_neg (by omega), if_pos rfl, hd]
        rcases h.bit i k with e | e <;> rcases h.bit k i with e2 | e2 <;> rw [e, e2] at * <;> omega
      · rw [if_pos ⟨h1, h3, h2⟩, if_neg (by omega), if_neg (by omega), if_neg (by omega)]
        have a1 := h.anti i k hi hk h1
        have a2 := h.anti i m hi hm h2
        have a3 := h.anti k m hk hm h3
        exact three_bits _ _ _ _ _ _ (h.bit i k) (h.bit i m) (h.bit k m) a1 a2 a3
def S3 (n : Nat) (f : Nat → Nat → Nat → Int) : Int := sumTo (fun i => sumTo (fun k => sumTo (fun m => f i k m) n) n) n
theorem S3_congr {n : Nat} {f g : Nat → Nat → Nat → Int} (h : ∀ i, i < n → ∀ k, k < n → ∀ m, m < n → f i k m = g i k m) : S3 n f = S3 n g :=
  sumTo_congr fun i hi => sumTo_congr fun k hk => sumTo_congr fun m hm => h i hi k hk m hm
theorem S3_add (n : Nat) (f g : Nat → Nat → Nat → Int) : S3 n (fun i k m => f i k m + g i k m) = S3 n f + S3 n g := by
  unfold S3
  simp only [sumTo_add]
/-- The second and the third change places. -/
theorem S3_23 (n : Nat) (f : Nat → Nat → Nat → Int) : S3 n f = S3 n (fun i m k => f i k m) := sumTo_congr fun i _ => sumTo_swap _ _ _
theorem S3_12 (n : Nat) (f : Nat → Nat → Nat → Int) : S3 n f = S3 n (fun k i m => f i k m) := sumTo_swap _ _ _
theorem sumTo_same (i : Nat) (f : Nat → Int) (n : Nat) (hi : i < n) : sumTo (fun k => same i k * f k) n = f i := by
  have := sumTo_one i f n
  rw [if_pos hi] at this
  rw [← this]
  exact sumTo_congr fun k _ => by unfold same; split <;> omega
theorem apart3_all : ∀ n, n ≤ 7 → S3 n apart3 = n * ((n : Int) - 1) * ((n : Int) - 2) := by decide +kernel
def winSum (t : List (List Int)) : Int := sumTo (fun i => winOf t i) t.length
def winSq (t : List (List Int)) : Int := sumTo (fun i => winOf t i * winOf t i) t.length
theorem S3_sq (t : List (List Int)) : S3 t.length (fun i k m => ent t i k * ent t i m) = winSq t := by
  refine sumTo_congr fun i _ => ?_
  rw [show (sumTo (fun k => sumTo (fun m => ent t i k * ent t i m) t.length) t.length) = sumTo (fun k => ent t i k * winOf t i) t.length from sumTo_congr fun k _ => sumTo_mul _ _ _]
  rw [sumTo_mul_right]
  rfl
theorem rings_count {t : List (List Int)} (h : Right t) : 3 * winSq t + 2 * ringSum t = t.length * ((t.length : Int) - 1) * ((t.length : Int) - 2) + 3 * winSum t := by
  have hS := S3_congr (n := t.length) (fun i hi k hk m hm => three h hi hk hm)
  rw [S3_add, S3_add, S3_add, S3_add, S3_add, S3_add, S3_add, apart3_all _ h.len] at hS
  have q1 := S3_sq t
  have q2 : S3 t.length (fun i k m => ent t k i * ent t k m) = winSq t := by rw [S3_12]; exact q1
  have q3 : S3 t.length (fun i k m => ent t m i * ent t m k) = winSq t := by rw [S3_23, S3_12]; exact q1
  have q4 : S3 t.length (fun i k m => ringT3 t i k m) = ringSum t := rfl
  have q5 : S3 t.length (fun i k m => ringT3 t i m k) = ringSum t := by rw [S3_23]; rfl
  have q6 : S3 t.length (fun i k m => same i k * ent t m i) = winSum t := by
    have : S3 t.length (fun i k m => same i k * ent t m i) = sumTo (fun i => sumTo (fun m => ent t m i) t.length) t.length := by
      refine sumTo_congr fun i hi => ?_
      rw [show (sumTo (fun k => sumTo (fun m => same i k * ent t m i) t.length) t.length) = sumTo (fun k => same i k * sumTo (fun m => ent t m i) t.length) t.length from sumTo_congr fun k _ => sumTo_mul _ _ _]
      exact sumTo_same i (fun _ => sumTo (fun m => ent t m i) t.length) _ hi
    rw [this, sumTo_swap]
    rfl
  have q7 : S3 t.length (fun i k m => same i m * ent t k i) = winSum t := by rw [S3_23]; exact q6
  have q8 : S3 t.length (fun i k m => same k m * ent t i k) = winSum t := by
    rw [S3_12]
    exact q7
  rw [q1, q2, q3, q4, q5, q6, q7, q8] at hS
  omega

/-! ### the number of rings by the wins -/
theorem pairs_even (w : Int) (h0 : 0 ≤ w) (h7 : w ≤ 7) : w * w = 2 * (Int.tdiv (w * (w - 1)) 2) + w ∧ 0 ≤ Int.tdiv (w * (w - 1)) 2 ∧ Int.tdiv (w * (w - 1)) 2 ≤ 21 ∧ -1000 ≤ w * (w - 1) ∧ w * (w - 1) ≤ 1000 := by
  have : w = 0 ∨ w = 1 ∨ w = 2 ∨ w = 3 ∨ w = 4 ∨ w = 5 ∨ w = 6 ∨ w = 7 := by omega
  rcases this with rfl | rfl | rfl | rfl | rfl | rfl | rfl | rfl <;> decide
def pairs (t : List (List Int)) (i : Nat) : Int := Int.tdiv (winOf t i * (winOf t i - 1)) 2
def allT (n : Int) : Int := wrap64 (Int.tdiv (wrap64 ((wrap64 (n * (wrap64 (n - 1)))) * (wrap64 (n - 2)))) 6)
theorem allT_eq : ∀ n : Nat, n ≤ 7 → 6 * allT n = n * ((n : Int) - 1) * ((n : Int) - 2) ∧ 0 ≤ allT n ∧ allT n ≤ 35 := by decide +kernel
theorem Right.sq {t : List (List Int)} (h : Right t) : winSq t = 2 * sumTo (pairs t) t.length + winSum t := by
  have : ∀ n, sumTo (fun i => winOf t i * winOf t i) n = 2 * sumTo (pairs t) n + sumTo (fun i => winOf t i) n := by
    intro n
    induction n with
    | zero => rfl
    | succ n ih =>
      simp only [sumTo]
      have := (pairs_even (winOf t n) (h.win_bound n).1 (h.win_bound n).2).1
      unfold pairs at *
      omega
  exact this t.length
def ringsN (t : List (List Int)) : Int := allT t.length - sumTo (pairs t) t.length
theorem Right.rings {t : List (List Int)} (h : Right t) : ringSum t = 3 * ringsN t := by
  have h1 := rings_count h
  have h2 := h.sq
  have h3 := (allT_eq t.length h.len).1
  unfold ringsN
  omega
theorem Right.ringSum_bound {t : List (List Int)} (h : Right t) : 0 ≤ ringSum t ∧ ringSum t ≤ 343 := by
  have hn := h.len
  unfold ringSum
  have hB1 : ∀ i k, 0 ≤ sumTo (fun m => ringT3 t i k m) t.length ∧ sumTo (fun m => ringT3 t i k m) t.length ≤ 7 := fun i k => by
    have := sumTo_bound (f := fun m => ringT3 t i k m) (b := 1) (n := t.length) (fun m _ => ringT3_bit h i k m)
    omega
  have hB2 : ∀ i, 0 ≤ sumTo (fun k => sumTo (fun m => ringT3 t i k m) t.length) t.length ∧ sumTo (fun k => sumTo (fun m => ringT3 t i k m) t.length) t.length ≤ 49 := fun i => by
    have := sumTo_bound (f := fun k => sumTo (fun m => ringT3 t i k m) t.length) (b := 7) (n := t.length) (fun k _ => hB1 i k)
    omega
  have := sumTo_bound (f := fun i => sumTo (fun k => sumTo (fun m => ringT3 t i k m) t.length) t.length) (b := 49) (n := t.length) (fun i _ => hB2 i)
  omega
theorem Right.pairs_bound {t : List (List Int)} (h : Right t) (i : Nat) (hi : i ≤ t.length) : 0 ≤ sumTo (pairs t) i ∧ sumTo (pairs t) i ≤ 147 := by
  have := sumTo_bound (f := pairs t) (b := 21) (n := i) (fun j _ => by have := pairs_even (winOf t j) (h.win_bound j).1 (h.win_bound j).2; unfold pairs; omega)
  have := h.len
  omega
theorem Right.pair_step {t : List (List Int)} (h : Right t) {i : Nat} (hi : i < t.length) : wrap64 (Int.tdiv (wrap64 ((rd (winsL t) (i : Int)) * (wrap64 ((rd (winsL t) (i : Int)) - 1)))) 2) = pairs t i := by
  have hb := h.win_bound i
  have hp := pairs_even (winOf t i) hb.1 hb.2
  rw [rd_nat, h.wins_get hi, wrap_small (x := winOf t i - 1) (by omega) (by omega), wrap_small (x := winOf t i * (winOf t i - 1)) (by omega) (by omega)]
  exact wrap_small (by omega) (by omega)

theorem Ev_sunRings {t : List (List Int)} (h : Right t) (he : errV t = 0) : Ev (fun k => QA.sun_Rings.f k t) (ringsN t, 0) := by
  have hn := h.len
  have ha := allT_eq t.length hn
  have hl0 : ∀ d i, i + d = t.length → Ev (fun k => QA.sun_Rings.l0 k (allT t.length - sumTo (pairs t) i) (winsL t) ((winsL t).length : Int) (i : Int)) (ringsN t, 0) := by
    intro d
    induction d with
    | zero =>
      intro i hi
      obtain rfl : i = t.length := by omega
      exact Ev.step (fun k => by simp only [QA.sun_Rings.l0]; rw [if_neg (by rw [winsL_len]; omega)]; rfl) (Ev.now _)
    | succ d ih =>
      intro i hi
      have hi' : i < t.length := by omega
      have hb := h.pairs_bound (i + 1) (by omega)
      refine Ev.step (fun k => ?_) (ih (i + 1) (by omega))
      simp only [QA.sun_Rings.l0]
      rw [if_pos (by rw [winsL_len]; omega), if_pos (by omega), if_pos (by rw [winsL_len]; omega), h.pair_step hi', wrap_nat (n := t.length) hi' (by omega)]
      simp only [sumTo] at hb ⊢
      rw [wrap_small (by have := h.pairs_bound i (by omega); have := pairs_even (winOf t i) (h.win_bound i).1 (h.win_bound i).2; unfold pairs at *; omega) (by have := h.pairs_bound i (by omega); have := pairs_even (winOf t i) (h.win_bound i).1 (h.win_bound i).2; unfold pairs at *; omega)]
      congr 1
      omega
  refine Ev.congr (f := fun k => QA.sun_Rings.l0 k (allT t.length) (winsL t) ((winsL t).length : Int) 0) (fun k => ?_) ?_
  · simp only [QA.sun_Rings.f, sun_Validate.f, sun_wins.f, Option.bind_some]
    rw [he, if_pos rfl, if_pos h.small]
    rfl
  · have := hl0 t.length 0 (by omega)
    simp only [sumTo] at this
    rw [Int.sub_zero] at this
    exact this
theorem sunRings_no {t : List (List Int)} (he : errV t ≠ 0) (k : Nat) : QA.sun_Rings.f k t = some (0, errV t) := by
  simp only [QA.sun_Rings.f, sun_Validate.f, Option.bind_some]
  rw [if_neg he]
theorem sunWins_yes {t : List (List Int)} (h : Right t) (he : errV t = 0) : QA.sun_Wins.f t = some (winsL t, 0) := by
  simp only [QA.sun_Wins.f, sun_Validate.f, sun_wins.f, Option.bind_some]
  rw [he, if_pos rfl, if_pos h.small]
  rfl
theorem sunWins_no {t : List (List Int)} (he : errV t ≠ 0) : QA.sun_Wins.f t = some ([], errV t) := by
  simp only [QA.sun_Wins.f, sun_Validate.f, Option.bind_some]
  rw [if_neg he]

end Go.Proofs.Ytbnjffhcpkfnhaa.H
