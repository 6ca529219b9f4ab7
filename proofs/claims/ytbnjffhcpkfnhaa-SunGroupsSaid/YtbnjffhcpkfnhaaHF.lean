/- Kings: who reaches all others in two steps. -/
import Derived.Test.YtbnjffhcpkfnhaaHS
import Derived.Test.YtbnjffhcpkfnhaaHK
import Derived.Test.YtbnjffhcpkfnhaaHW
namespace Go.Proofs.Ytbnjffhcpkfnhaa.H
open Go.RowKit Go.Proofs.YtbnjffhcpkfnhaaW.PrintWords Go.Proofs.YtbnjffhcpkfnhaaW.PrintLast Go.Proofs.YtbnjffhcpkfnhaaW.PrintMore
set_option linter.unusedVariables false

/-! ### wins (as in the wins' law) -/
theorem ones_sum' {row : List Int} (h : ∀ k, row.getD k 0 = 0 ∨ row.getD k 0 = 1) : ∀ k, ((onesTo row k).length : Int) = sumTo (fun i => row.getD i 0) k
  | 0 => rfl
  | k + 1 => by
    simp only [sumTo]
    rw [← ones_sum' h k]
    rcases h k with e | e
    · rw [onesTo_miss (by omega), e]; omega
    · rw [onesTo_hit e, e, List.length_append]; simp
theorem Right.wins_get' {t : List (List Int)} (h : Right t) {i : Nat} (hi : i < t.length) : (winsL t).getD i 0 = winOf t i := by
  unfold winsL
  rw [List.getD_eq_getElem?_getD, List.getElem?_map, List.getElem?_eq_getElem hi]
  simp only [Option.map_some, Option.getD_some]
  have hr := h.row i hi
  have e : t[i] = t.getD i [] := by rw [List.getD_eq_getElem?_getD, List.getElem?_eq_getElem hi]; rfl
  rw [e]
  unfold ones
  rw [ones_sum' (fun k => h.bit i k), hr]
  rfl
theorem winsL_len' (t : List (List Int)) : (winsL t).length = t.length := by simp [winsL]
theorem sunWins_yes' {t : List (List Int)} (h : Right t) (he : errV t = 0) : QA.sun_Wins.f t = some (winsL t, 0) := by
  simp only [QA.sun_Wins.f, sun_Validate.f, sun_wins.f, Option.bind_some]
  rw [he, if_pos rfl, if_pos h.small]
  rfl

/-! ### reaching -/
def overTo (t : List (List Int)) (i k m : Nat) : Bool := i == k || ent t i k == 1 || (List.range m).any fun m => ent t i m * ent t m k == 1
def overB (t : List (List Int)) (i k : Nat) : Bool := overTo t i k t.length
theorem overTo_succ (t : List (List Int)) (i k m : Nat) : overTo t i k (m + 1) = (overTo t i k m || (ent t i m * ent t m k == 1)) := by
  unfold overTo
  rw [List.range_succ, List.any_append, Bool.or_assoc, Bool.or_assoc, Bool.or_assoc]
  simp
def kingTo (t : List (List Int)) (i k : Nat) : Bool := (List.range k).all fun k => overB t i k
theorem kingTo_succ (t : List (List Int)) (i k : Nat) : kingTo t i (k + 1) = (kingTo t i k && overB t i k) := by
  unfold kingTo
  rw [List.range_succ, List.all_append]
  simp
theorem mul_bit {x y : Int} (hx : x = 0 ∨ x = 1) (hy : y = 0 ∨ y = 1) : x * y = 1 ↔ x = 1 ∧ y = 1 := by
  rcases hx with rfl | rfl <;> rcases hy with rfl | rfl <;> simp
theorem over_iff {t : List (List Int)} (h : Right t) (i k : Nat) : overB t i k = true ↔ i = k ∨ ent t i k = 1 ∨ ∃ m, m < t.length ∧ ent t i m = 1 ∧ ent t m k = 1 := by
  unfold overB overTo
  simp only [Bool.or_eq_true, beq_iff_eq, List.any_eq_true, List.mem_range]
  constructor
  · rintro ((h1 | h1) | ⟨m, hm, h1⟩)
    · exact .inl h1
    · exact .inr (.inl h1)
    · exact .inr (.inr ⟨m, hm, (mul_bit (h.bit i m) (h.bit m k)).1 h1⟩)
  · rintro (h1 | h1 | ⟨m, hm, h1⟩)
    · exact .inl (.inl h1)
    · exact .inl (.inr h1)
    · exact .inr ⟨m, hm, (mul_bit (h.bit i m) (h.bit m k)).2 h1⟩
theorem king_iff {t : List (List Int)} (h : Right t) (i : Nat) : kingTo t i t.length = true ↔ ∀ k, k < t.length → i = k ∨ ent t i k = 1 ∨ ∃ m, m < t.length ∧ ent t i m = 1 ∧ ent t m k = 1 := by
  unfold kingTo
  rw [List.all_eq_true]
  exact ⟨fun h1 k hk => (over_iff h i k).1 (h1 k (List.mem_range.2 hk)), fun h1 k hk => (over_iff h i k).2 (h1 k (List.mem_range.1 hk))⟩

/-! ### the program's marks -/
theorem mem_ones {row : List Int} {z : Int} : z ∈ ones row ↔ ∃ j : Nat, j < row.length ∧ row.getD j 0 = 1 ∧ z = j := by
  unfold ones onesTo
  simp only [List.mem_map, List.mem_filter, List.mem_range, decide_eq_true_eq]
  constructor
  · rintro ⟨j, ⟨h1, h2⟩, rfl⟩; exact ⟨j, h1, h2, rfl⟩
  · rintro ⟨j, h1, h2, rfl⟩; exact ⟨j, ⟨h1, h2⟩, rfl⟩
theorem markK_get (s : List Bool) (k : Int) (j : Nat) (hj : j < s.length) : (markK s k).getD j false = true ↔ s.getD j false = true ∨ k.toNat = j := by
  unfold markK
  rw [List.getD_eq_getElem?_getD, List.getD_eq_getElem?_getD, List.getElem?_set]
  by_cases e : k.toNat = j
  · rw [if_pos e, if_pos (by omega)]; simp [e]
  · rw [if_neg e]; simp [e]
theorem foldMark_get : ∀ (l : List Int) (s : List Bool) (j : Nat), j < s.length → ((l.foldl markK s).getD j false = true ↔ s.getD j false = true ∨ ∃ y ∈ l, y.toNat = j)
  | [], s, j, hj => by simp
  | y :: l, s, j, hj => by
    rw [List.foldl_cons, foldMark_get l (markK s y) j (by rw [markK_length]; exact hj), markK_get s y j hj]
    simp only [List.mem_cons, exists_eq_or_imp]
    exact or_assoc
theorem stepK_get (t : List (List Int)) (s : List Bool) (k : Int) (j : Nat) (hj : j < s.length) : (stepK t s k).getD j false = true ↔ s.getD j false = true ∨ k.toNat = j ∨ ∃ y ∈ ones (t.getD k.toNat []), y.toNat = j := by
  unfold stepK
  rw [foldMark_get _ _ _ (by rw [markK_length]; exact hj), markK_get s k j hj, or_assoc]
theorem foldStep_get (t : List (List Int)) : ∀ (l : List Int) (s : List Bool) (j : Nat), j < s.length → ((l.foldl (stepK t) s).getD j false = true ↔ s.getD j false = true ∨ ∃ k ∈ l, k.toNat = j ∨ ∃ y ∈ ones (t.getD k.toNat []), y.toNat = j)
  | [], s, j, hj => by simp
  | k :: l, s, j, hj => by
    rw [List.foldl_cons, foldStep_get t l (stepK t s k) j (by rw [stepK_length]; exact hj), stepK_get t s k j hj]
    simp only [List.mem_cons, exists_eq_or_imp]
    exact or_assoc
theorem seenK_length (t : List (List Int)) (i : Nat) : (seenK t i).length = t.length := by
  unfold seenK
  rw [foldStep_length, markK_length, List.length_replicate]
theorem king_eq {t : List (List Int)} (h : Right t) {i : Nat} (hi : i < t.length) : kingB t i = kingTo t i t.length := by
  rw [Bool.eq_iff_iff, king_iff h]
  have hseen : ∀ j, j < t.length → ((seenK t i).getD j false = true ↔ i = j ∨ ent t i j = 1 ∨ ∃ m, m < t.length ∧ ent t i m = 1 ∧ ent t m j = 1) := by
    intro j hj
    unfold seenK
    have hl : j < (markK (List.replicate t.length false) (i : Int)).length := by rw [markK_length, List.length_replicate]; exact hj
    rw [foldStep_get t _ _ j hl, markK_get _ _ j (by rw [List.length_replicate]; exact hj)]
    have e0 : ¬ (List.replicate t.length false).getD j false = true := by
      rw [List.getD_eq_getElem?_getD, List.getElem?_replicate]
      split <;> simp
    constructor
    · rintro ((h1 | h1) | ⟨k, hk, h1⟩)
      · exact absurd h1 e0
      · exact .inl (by simpa using h1)
      · obtain ⟨m, hm, hx, rfl⟩ := mem_ones.1 hk
        rw [h.row i hi] at hm
        rcases h1 with h1 | ⟨y, hy, h1⟩
        · have : m = j := by simpa using h1
          subst this
          exact .inr (.inl hx)
        · obtain ⟨z, hz, hx2, rfl⟩ := mem_ones.1 hy
          have : z = j := by simpa using h1
          subst this
          exact .inr (.inr ⟨m, hm, hx, by simpa [ent] using hx2⟩)
    · rintro (h1 | h1 | ⟨m, hm, h1, h2⟩)
      · exact .inl (.inr (by simpa using h1))
      · exact .inr ⟨(j : Int), mem_ones.2 ⟨j, by rw [h.row i hi]; exact hj, h1, rfl⟩, .inl (by simp)⟩
      · exact .inr ⟨(m : Int), mem_ones.2 ⟨m, by rw [h.row i hi]; exact hm, h1, rfl⟩, .inr ⟨(j : Int), mem_ones.2 ⟨j, by simp only [Int.toNat_natCast]; rw [h.row m hm]; exact hj, by simpa [ent] using h2, rfl⟩, by simp⟩⟩
  unfold kingB
  rw [decide_eq_true_eq]
  constructor
  · intro hno k hk
    refine (hseen k hk).1 ?_
    by_cases e : (seenK t i).getD k false = true
    · exact e
    · exfalso
      apply hno
      rw [List.getD_eq_getElem?_getD, List.getElem?_eq_getElem (by rw [seenK_length]; exact hk), Option.getD_some, Bool.not_eq_true] at e
      rw [← e]
      exact List.getElem_mem _
  · intro hall hm
    obtain ⟨k, hk, e⟩ := List.getElem_of_mem hm
    rw [seenK_length] at hk
    have := (hseen k hk).2 (hall k hk)
    rw [List.getD_eq_getElem?_getD, List.getElem?_eq_getElem (by rw [seenK_length]; exact hk), Option.getD_some, e] at this
    cases this

/-! ### a strip with the most wins among some of them is a king among them -/
def King (t : List (List Int)) (i : Nat) : Prop := ∀ k, k < t.length → i = k ∨ ent t i k = 1 ∨ ∃ m, m < t.length ∧ ent t i m = 1 ∧ ent t m k = 1
theorem best {f : Nat → Int} {p : Nat → Prop} : ∀ n, (∃ i, i < n ∧ p i) → ∃ v, v < n ∧ p v ∧ ∀ k, k < n → p k → f k ≤ f v
  | 0, ⟨i, hi, _⟩ => absurd hi (by omega)
  | n + 1, ⟨i, hi, hp⟩ => by
    by_cases h : ∃ i, i < n ∧ p i
    · obtain ⟨v, hv, hpv, hm⟩ := best (f := f) n h
      by_cases hn : p n ∧ f v < f n
      · exact ⟨n, by omega, hn.1, fun k hk hpk => by
          by_cases e : k = n
          · subst e; omega
          · have := hm k (by omega) hpk; omega⟩
      · refine ⟨v, by omega, hpv, fun k hk hpk => ?_⟩
        by_cases e : k = n
        · subst e
          by_cases h2 : f v < f k
          · exact absurd ⟨hpk, h2⟩ hn
          · omega
        · exact hm k (by omega) hpk
    · have : i = n := by
        by_cases e : i = n
        · exact e
        · exact absurd ⟨i, by omega, hp⟩ h
      subst this
      refine ⟨i, by omega, hp, fun k hk hpk => ?_⟩
      by_cases e : k = i
      · subst e; omega
      · exact absurd ⟨k, by omega, hpk⟩ h
/-- β tells which strips (1 or 0). -/
theorem king_among {t : List (List Int)} (h : Right t) (β : Nat → Int) (hβ : ∀ m, β m = 0 ∨ β m = 1) {v : Nat} (hv : v < t.length) (hv1 : β v = 1)
    (hm : ∀ k, k < t.length → β k = 1 → sumTo (fun m => β m * ent t k m) t.length ≤ sumTo (fun m => β m * ent t v m) t.length) :
    ∀ k, k < t.length → β k = 1 → v = k ∨ ent t v k = 1 ∨ ∃ m, m < t.length ∧ β m = 1 ∧ ent t v m = 1 ∧ ent t m k = 1 := by
  intro k hk hk1
  by_cases e1 : v = k
  · exact .inl e1
  by_cases e2 : ent t v k = 1
  · exact .inr (.inl e2)
  by_cases e3 : ∃ m, m < t.length ∧ β m = 1 ∧ ent t v m = 1 ∧ ent t m k = 1
  · exact .inr (.inr e3)
  exfalso
  have hkv : ent t k v = 1 := by
    have := h.anti v k hv hk e1
    rcases h.bit v k with a | a
    · omega
    · exact absurd a e2
  have h1 := hm k hk hk1
  have h2 : sumTo (fun m => β m * ent t v m + (if m = v then (1 : Int) else 0)) t.length ≤ sumTo (fun m => β m * ent t k m) t.length := by
    refine sumTo_le fun m hm' => ?_
    by_cases e : m = v
    · subst e
      rw [if_pos rfl, h.diag m, hkv, hv1]; omega
    · rw [if_neg e]
      rcases hβ m with b | b
      · rw [b]; omega
      · rw [b]
        by_cases e4 : ent t v m = 1
        · have hmk : m ≠ k := fun e5 => e2 (e5 ▸ e4)
          have := h.anti m k hm' hk hmk
          have h5 : ent t m k ≠ 1 := fun e5 => e3 ⟨m, hm', b, e4, e5⟩
          rcases h.bit m k with a | a
          · omega
          · exact absurd a h5
        · rcases h.bit v m with a | a
          · rcases h.bit k m with c | c <;> rw [a, c] <;> omega
          · exact absurd a e4
  rw [sumTo_add, sumTo_one v (fun _ => 1), if_pos hv] at h2
  omega
theorem most_is_king {t : List (List Int)} (h : Right t) {v : Nat} (hv : v < t.length) (hm : ∀ k, k < t.length → winOf t k ≤ winOf t v) : King t v := by
  have := king_among h (fun _ => 1) (fun _ => .inr rfl) hv rfl (fun k hk _ => by
    have := hm k hk
    unfold winOf at this
    simp only [Int.one_mul]
    exact this)
  intro k hk
  rcases this k hk rfl with e | e | ⟨m, h1, _, h2, h3⟩
  · exact .inl e
  · exact .inr (.inl e)
  · exact .inr (.inr ⟨m, h1, h2, h3⟩)
/-- Who is beaten is beaten by a king. -/
theorem beaten_by_king {t : List (List Int)} (h : Right t) {i : Nat} (hi : i < t.length) (hb : ∃ k, k < t.length ∧ ent t k i = 1) : ∃ v, v < t.length ∧ ent t v i = 1 ∧ King t v := by
  obtain ⟨v, hv, hvi, hm⟩ := best (f := fun k => sumTo (fun m => ent t m i * ent t k m) t.length) (p := fun k => ent t k i = 1) t.length hb
  have hk := king_among h (fun m => ent t m i) (fun m => h.bit m i) hv hvi hm
  refine ⟨v, hv, hvi, fun k hk' => ?_⟩
  by_cases e : ent t k i = 1
  · rcases hk k hk' e with a | a | ⟨m, h1, _, h2, h3⟩
    · exact .inl a
    · exact .inr (.inl a)
    · exact .inr (.inr ⟨m, h1, h2, h3⟩)
  · by_cases e2 : i = k
    · subst e2; exact .inr (.inl hvi)
    · have := h.anti i k hi hk' e2
      rcases h.bit k i with a | a
      · exact .inr (.inr ⟨i, hi, hvi, by omega⟩)
      · exact absurd a e
theorem mem_kings {t : List (List Int)} (h : Right t) {x : Int} : x ∈ kingsL t ↔ ∃ i : Nat, i < t.length ∧ King t i ∧ x = i := by
  unfold kingsL kingsTo
  simp only [List.mem_map, List.mem_filter, List.mem_range]
  constructor
  · rintro ⟨i, ⟨hi, hk⟩, rfl⟩
    exact ⟨i, hi, (king_iff h i).1 (by rw [← king_eq h hi]; exact hk), rfl⟩
  · rintro ⟨i, hi, hk, rfl⟩
    exact ⟨i, ⟨hi, by rw [king_eq h hi]; exact (king_iff h i).2 hk⟩, rfl⟩
theorem kings_nodup (t : List (List Int)) : (kingsL t).Nodup := by
  unfold kingsL kingsTo
  have h : List.Nodup ((List.range t.length).filter (kingB t)) := List.Nodup.sublist List.filter_sublist List.nodup_range
  unfold List.Nodup at h ⊢
  rw [List.pairwise_map]
  exact h.imp (fun hab e => hab (Int.ofNat.inj e))

def maxTo (f : Nat → Int) : Nat → Int
  | 0 => 0
  | n + 1 => mx (maxTo f n) (f n)
theorem maxTo_le (f : Nat → Int) : ∀ n i, i < n → f i ≤ maxTo f n
  | 0, i, hi => absurd hi (by omega)
  | n + 1, i, hi => by
    simp only [maxTo, mx]
    by_cases e : i = n
    · subst e; split <;> omega
    · have := maxTo_le f n i (by omega)
      split <;> omega
theorem maxTo_at (f : Nat → Int) (h0 : ∀ i, 0 ≤ f i) : ∀ n, 0 < n → ∃ i, i < n ∧ f i = maxTo f n
  | 0, h => absurd h (by omega)
  | n + 1, _ => by
    simp only [maxTo, mx]
    by_cases hl : maxTo f n < f n
    · rw [if_pos hl]; exact ⟨n, by omega, rfl⟩
    · rw [if_neg hl]
      by_cases hn : 0 < n
      · obtain ⟨i, hi, e⟩ := maxTo_at f h0 n hn
        exact ⟨i, by omega, e⟩
      · obtain rfl : n = 0 := by omega
        refine ⟨0, by omega, ?_⟩
        have := h0 0
        simp only [maxTo] at hl ⊢
        omega
theorem most_king {t : List (List Int)} (h : Right t) {i : Nat} (hi : i < t.length) (hw : winOf t i = maxTo (winOf t) t.length) : (i : Int) ∈ kingsL t :=
  (mem_kings h).2 ⟨i, hi, most_is_king h hi (fun k hk => by rw [hw]; exact maxTo_le _ _ _ hk), rfl⟩
theorem kings_not_none {t : List (List Int)} (h : Right t) : (kingsL t).length ≠ 0 := by
  obtain ⟨i, hi, e⟩ := maxTo_at (winOf t) (fun i => (h.win_bound i).1) t.length h.pos
  have := most_king h hi e
  intro e2
  rw [List.length_eq_zero_iff.1 e2] at this
  cases this
theorem win_all {t : List (List Int)} (h : Right t) {i : Nat} (hi : i < t.length) : winOf t i ≤ (t.length : Int) - 1 ∧ (winOf t i = (t.length : Int) - 1 ↔ ∀ k, k < t.length → ent t k i = 0) := by
  have hs : winOf t i + sumTo (fun k => ent t k i) t.length = (t.length : Int) - 1 := by
    unfold winOf
    rw [← sumTo_add]
    have : sumTo (fun k => (ent t i k + ent t k i) + (if k = i then (1 : Int) else 0)) t.length = sumTo (fun _ => 1) t.length := by
      refine sumTo_congr fun k hk => ?_
      by_cases e : k = i
      · subst e; rw [if_pos rfl, h.diag k]; rfl
      · rw [if_neg e, h.anti i k hi hk (fun e2 => e e2.symm)]; rfl
    rw [sumTo_add, sumTo_one i (fun _ => 1), if_pos hi, sumTo_const] at this
    omega
  have h0 : 0 ≤ sumTo (fun k => ent t k i) t.length := sumTo_nonneg fun k _ => by rcases h.bit k i with e | e <;> omega
  refine ⟨by omega, ⟨fun e k hk => ?_, fun e => ?_⟩⟩
  · have hz : sumTo (fun k => ent t k i) t.length = 0 := by omega
    rcases h.bit k i with a | a
    · exact a
    · exfalso
      have : sumTo (fun j => if j = k then (1 : Int) else 0) t.length ≤ sumTo (fun k => ent t k i) t.length := sumTo_le fun j _ => by
        by_cases e2 : j = k
        · subst e2; rw [if_pos rfl]; omega
        · rw [if_neg e2]; rcases h.bit j i with b | b <;> omega
      rw [sumTo_one k (fun _ => 1), if_pos hk] at this
      omega
  · have : sumTo (fun k => ent t k i) t.length = sumTo (fun _ => 0) t.length := sumTo_congr fun k hk => e k hk
    rw [sumTo_zero] at this
    omega
/-- A king that nobody beats is the one king. -/
theorem king_alone {t : List (List Int)} (h : Right t) {i k : Nat} (hi : i < t.length) (hk : King t k) (hu : ∀ m, m < t.length → ent t m i = 0) (hkl : k < t.length) : k = i := by
  rcases hk i hi with e | e | ⟨m, hm, _, e⟩
  · exact e
  · rw [hu k hkl] at e; cases e
  · rw [hu m hm] at e; cases e
theorem kings_not_two {t : List (List Int)} (h : Right t) : (kingsL t).length ≠ 2 := by
  intro e2
  have hnd := kings_nodup t
  have hmem := fun x => mem_kings h (x := x)
  obtain ⟨a, b, hab⟩ : ∃ a b, kingsL t = [a, b] := by
    match hl : kingsL t, e2 with
    | [a, b], _ => exact ⟨a, b, rfl⟩
  rw [hab] at hnd
  have hne : a ≠ b := by
    intro e; subst e; simp at hnd
  obtain ⟨i, hi, hKi, rfl⟩ := (hmem a).1 (by rw [hab]; simp)
  obtain ⟨j, hj, hKj, rfl⟩ := (hmem b).1 (by rw [hab]; simp)
  have hij : i ≠ j := fun e => hne (by rw [e])
  have key : ∀ i j : Nat, i < t.length → j < t.length → i ≠ j → King t j → ent t i j = 1 → (∀ x : Int, x ∈ kingsL t → x = i ∨ x = j) → False := by
    intro i j hi hj hij hKj hx hall
    by_cases hb : ∃ k, k < t.length ∧ ent t k i = 1
    · obtain ⟨v, hv, hvi, hKv⟩ := beaten_by_king h hi hb
      rcases hall v ((hmem _).2 ⟨v, hv, hKv, rfl⟩) with e | e
      · obtain rfl : v = i := by omega
        rw [h.diag v] at hvi; cases hvi
      · obtain rfl : v = j := by omega
        have := h.anti i v hi hj hij
        omega
    · have hu : ∀ m, m < t.length → ent t m i = 0 := fun m hm => by
        rcases h.bit m i with a | a
        · exact a
        · exact absurd ⟨m, hm, a⟩ hb
      exact hij (king_alone h hi hKj hu hj).symm
  have ha := h.anti i j hi hj hij
  rcases h.bit i j with e | e
  · exact key j i hj hi (fun e => hij e.symm) hKi (by omega) (fun x hx => by rw [hab] at hx; simpa [or_comm] using hx)
  · exact key i j hi hj hij hKj e (fun x hx => by rw [hab] at hx; simpa using hx)
theorem kings_one {t : List (List Int)} (h : Right t) : (kingsL t).length = 1 ↔ maxTo (winOf t) t.length = (t.length : Int) - 1 := by
  have hmem := fun x => mem_kings h (x := x)
  constructor
  · intro e1
    obtain ⟨a, ha⟩ := List.length_eq_one_iff.1 e1
    obtain ⟨i, hi, hKi, rfl⟩ := (hmem a).1 (by rw [ha]; simp)
    have hu : ∀ m, m < t.length → ent t m i = 0 := fun m hm => by
      rcases h.bit m i with a | a
      · exact a
      · exfalso
        obtain ⟨v, hv, hvi, hKv⟩ := beaten_by_king h hi ⟨m, hm, a⟩
        have := (hmem v).2 ⟨v, hv, hKv, rfl⟩
        rw [ha] at this
        have : (v : Int) = i := by simpa using this
        obtain rfl : v = i := by omega
        rw [h.diag v] at hvi; cases hvi
    have h1 := (win_all h hi).2.2 hu
    have h2 := maxTo_le (winOf t) t.length i hi
    obtain ⟨k, hk, e⟩ := maxTo_at (winOf t) (fun i => (h.win_bound i).1) t.length h.pos
    have := (win_all h hk).1
    omega
  · intro em
    obtain ⟨i, hi, e⟩ := maxTo_at (winOf t) (fun i => (h.win_bound i).1) t.length h.pos
    have hu := (win_all h hi).2.1 (by omega)
    have hall : ∀ x ∈ kingsL t, x = (i : Int) := fun x hx => by
      obtain ⟨k, hk, hKk, rfl⟩ := (hmem x).1 hx
      rw [king_alone h hi hKk hu hk]
    have hnd := kings_nodup t
    have hn0 := kings_not_none h
    match hl : kingsL t with
    | [] => rw [hl] at hn0; exact absurd rfl hn0
    | [a] => rfl
    | a :: b :: r =>
      exfalso
      rw [hl] at hall hnd
      have h1 := hall a (by simp)
      have h2 := hall b (by simp)
      subst h1
      simp [h2] at hnd
end Go.Proofs.Ytbnjffhcpkfnhaa.H
