/- Orders and their upsets: what the search finds. -/
import Derived.Test.YtbnjffhcpkfnhaaHU
import Derived.Test.YtbnjffhcpkfnhaaHR
namespace Go.Proofs.Ytbnjffhcpkfnhaa.H
open Go.RowKit Go.Proofs.YtbnjffhcpkfnhaaW.PrintWords Go.Proofs.YtbnjffhcpkfnhaaW.PrintLast Go.Proofs.YtbnjffhcpkfnhaaW.PrintMore
set_option linter.unusedVariables false

/-! ### upsets, list by list -/
/-- How many of the list beat x. -/
def over (t : List (List Int)) (l : List Int) (x : Int) : Int := (l.map fun y => ent t y.toNat x.toNat).sum
def ups (t : List (List Int)) : List Int → Int
  | [] => 0
  | x :: l => over t l x + ups t l
theorem over_append (t : List (List Int)) (l m : List Int) (x : Int) : over t (l ++ m) x = over t l x + over t m x := by simp [over]
theorem ups_snoc (t : List (List Int)) (l : List Int) (x : Int) : ups t (l ++ [x]) = ups t l + more t l x.toNat := by
  induction l with
  | nil => simp [ups, more, over]
  | cons y l ih =>
    simp only [List.cons_append, ups, ih, over_append]
    simp only [more, over, List.map_cons, List.sum_cons, List.map_nil, List.sum_nil]
    omega
theorem upRow_append (t : List (List Int)) (l : List Int) (x : Int) {a k : Nat} (ha : a < l.length) (hk : k ≤ l.length) : upRow t (l ++ [x]) a k = upRow t l a k := by
  unfold upRow
  refine sumTo_congr fun b hb => ?_
  rw [List.getD_eq_getElem?_getD, List.getD_eq_getElem?_getD, List.getElem?_append_left (by omega), List.getElem?_append_left (by omega)]
  simp only [List.getD_eq_getElem?_getD]
theorem upsS_snoc (t : List (List Int)) (l : List Int) (x : Int) : upsS t (l ++ [x]) = upsS t l + more t l x.toNat := by
  have h1 : upTo t (l ++ [x]) l.length = upTo t l l.length := sumTo_congr fun a ha => upRow_append t l x ha (by omega)
  have h2 : upRow t (l ++ [x]) l.length l.length = more t l x.toNat := by
    unfold upRow more
    rw [sum_eq_sumTo, List.length_map]
    refine sumTo_congr fun b hb => ?_
    rw [List.getD_eq_getElem?_getD, List.getD_eq_getElem?_getD, List.getD_eq_getElem?_getD, List.getElem?_append_right (by omega), List.getElem?_append_left (by omega), List.getElem?_map, List.getElem?_eq_getElem hb]
    simp
  unfold upsS
  rw [List.length_append, List.length_singleton]
  show upTo t (l ++ [x]) l.length + upRow t (l ++ [x]) l.length l.length = _
  rw [h1, h2]
theorem upsS_eq (t : List (List Int)) (l : List Int) : upsS t l = ups t l := by
  have h : ∀ r : List Int, upsS t r.reverse = ups t r.reverse := by
    intro r
    induction r with
    | nil => rfl
    | cons x r ih => rw [List.reverse_cons, upsS_snoc, ups_snoc, ih]
  rw [← List.reverse_reverse l]
  exact h _
theorem sum_nonneg {l : List Int} (h : ∀ x ∈ l, 0 ≤ x) : 0 ≤ l.sum := by
  induction l with
  | nil => simp
  | cons x l ih =>
    rw [List.sum_cons]
    have := h x (by simp)
    have := ih (fun y hy => h y (by simp [hy]))
    omega
theorem over_nonneg {t : List (List Int)} (h : Right t) (l : List Int) (x : Int) : 0 ≤ over t l x :=
  sum_nonneg fun y hy => by
    obtain ⟨z, _, rfl⟩ := List.mem_map.1 hy
    rcases h.bit z.toNat x.toNat with e | e <;> omega
theorem more_nonneg {t : List (List Int)} (h : Right t) (l : List Int) (x : Nat) : 0 ≤ more t l x :=
  sum_nonneg fun y hy => by
    obtain ⟨z, _, rfl⟩ := List.mem_map.1 hy
    rcases h.bit x z.toNat with e | e <;> omega
theorem ups_nonneg {t : List (List Int)} (h : Right t) : ∀ l : List Int, 0 ≤ ups t l
  | [] => Int.le_refl _
  | x :: l => by
    have := over_nonneg h l x
    have := ups_nonneg h l
    simp only [ups]
    omega
/-- Turned round. -/
theorem ups_reverse (t : List (List Int)) (x : Int) (l : List Int) : ups t (x :: l).reverse = ups t l.reverse + more t l x.toNat := by
  rw [List.reverse_cons, ups_snoc]
  congr 1
  unfold more
  rw [List.map_reverse, List.sum_reverse]

/-! ### orders -/
def nums0 (n : Nat) : List Int := (List.range n).map Int.ofNat
theorem mem_nums0 {n : Nat} {x : Int} : x ∈ nums0 n ↔ 0 ≤ x ∧ x < n := by
  unfold nums0
  simp only [List.mem_map, List.mem_range]
  constructor
  · rintro ⟨i, hi, rfl⟩; exact ⟨Int.natCast_nonneg _, by simp; omega⟩
  · rintro ⟨h1, h2⟩; exact ⟨x.toNat, by omega, by simp; omega⟩
theorem nums0_len (n : Nat) : (nums0 n).length = n := by simp [nums0]
theorem nums0_nodup (n : Nat) : (nums0 n).Nodup := by
  have h : List.Nodup (List.range n) := List.nodup_range
  unfold nums0
  unfold List.Nodup at h ⊢
  rw [List.pairwise_map]
  exact h.imp (fun hab e => hab (Int.ofNat.inj e))
theorem perm_of_cover {α : Type} [DecidableEq α] : ∀ {m p : List α}, m.Nodup → (∀ x ∈ m, x ∈ p) → p.length ≤ m.length → p.Perm m
  | [], p, _, _, hl => by
    have : p = [] := List.length_eq_zero_iff.1 (by simpa using hl)
    rw [this]
  | x :: m, p, hn, hs, hl => by
    have hx : x ∈ p := hs x (by simp)
    have hp := List.perm_cons_erase hx
    refine hp.trans (List.Perm.cons x (perm_of_cover (List.nodup_cons.1 hn).2 (fun y hy => ?_) ?_))
    · have hne : y ≠ x := fun e => (List.nodup_cons.1 hn).1 (e ▸ hy)
      exact (List.mem_erase_of_ne hne).2 (hs y (by simp [hy]))
    · rw [List.length_erase_of_mem hx]
      simp at hl
      omega
/-- An order of a table's strips. -/
def Order (n : Nat) (p : List Int) : Prop := p.Perm (nums0 n)
theorem Order.len {n : Nat} {p : List Int} (h : Order n p) : p.length = n := by rw [List.Perm.length_eq h, nums0_len]
theorem Order.mem {n : Nat} {p : List Int} (h : Order n p) {x : Int} : x ∈ p ↔ 0 ≤ x ∧ x < n := by rw [List.Perm.mem_iff h, mem_nums0]
theorem Order.nodup {n : Nat} {p : List Int} (h : Order n p) : p.Nodup := (List.Perm.nodup_iff h).2 (nums0_nodup n)
theorem Order.of_valid {n : Nat} {p : List Int} (hn : p.Nodup) (hl : p.length = n) (hm : ∀ x ∈ p, 0 ≤ x ∧ x < (n : Int)) : Order n p :=
  List.Perm.symm (perm_of_cover hn (fun x hx => mem_nums0.2 (hm x hx)) (by rw [nums0_len]; omega))
theorem isOrd_order (p : List Int) (n : Nat) : isOrd p n = true ↔ Order n p := by
  rw [isOrd_iff]
  constructor
  · rintro ⟨h1, h2⟩
    have hl : p.length = n := by omega
    refine perm_of_cover (nums0_nodup n) (fun x hx => ?_) (by rw [nums0_len]; omega)
    obtain ⟨h3, h4⟩ := mem_nums0.1 hx
    obtain ⟨i, rfl⟩ := Int.eq_ofNat_of_zero_le h3
    exact h2 i (by omega)
  · intro h
    exact ⟨by rw [h.len], fun i hi => h.mem.2 ⟨by omega, by have := h.len; omega⟩⟩
theorem Order.reverse {n : Nat} {p : List Int} (h : Order n p) : Order n p.reverse := (List.reverse_perm p).trans h

/-- Both ways round, each pair stands the wrong way once. -/
theorem ups_both {t : List (List Int)} (h : Right t) : ∀ l : List Int, l.Nodup → (∀ x ∈ l, 0 ≤ x ∧ x < (t.length : Int)) → 2 * (ups t l + ups t l.reverse) = l.length * ((l.length : Int) - 1)
  | [], _, _ => rfl
  | x :: l, hn, hm => by
    have ih := ups_both h l (List.nodup_cons.1 hn).2 (fun y hy => hm y (by simp [hy]))
    have hx := hm x (by simp)
    have hs : over t l x + more t l x.toNat = l.length := by
      have hno := (List.nodup_cons.1 hn).1
      have hm' : ∀ y ∈ l, 0 ≤ y ∧ y < (t.length : Int) := fun y hy => hm y (by simp [hy])
      clear ih hn hm
      induction l with
      | nil => rfl
      | cons y l ih =>
        have hy := hm' y (by simp)
        have hne : y.toNat ≠ x.toNat := fun e => hno (by have : y = x := by omega
                                                         rw [this]; simp)
        have ha := h.anti y.toNat x.toNat (by omega) (by omega) hne
        have := ih (fun hxl => hno (by simp [hxl])) (fun z hz => hm' z (by simp [hz]))
        simp only [over, more, List.map_cons, List.sum_cons, List.length_cons] at this ⊢
        omega
    rw [ups_reverse]
    simp only [ups, List.length_cons]
    have e : ((l.length + 1 : Nat) : Int) * (((l.length + 1 : Nat) : Int) - 1) = (l.length : Int) * ((l.length : Int) - 1) + 2 * l.length := by
      have h1 : ((l.length + 1 : Nat) : Int) = (l.length : Int) + 1 := by omega
      rw [h1, Int.add_sub_cancel, Int.add_mul, Int.mul_sub, Int.mul_one, Int.one_mul]
      omega
    rw [e, ← ih]
    omega

/-! ### the search is a fold over all orders, in the search's own order -/
def upd (t : List (List Int)) (s : List Int × Int) (p : List Int) : List Int × Int := if s.2 < 0 ∨ ups t p < s.2 then (p, ups t p) else s
def comp (n : Nat) : Nat → List Int → List (List Int)
  | 0, l => [l]
  | d + 1, l => (List.range n).flatMap fun (x : Nat) => if (x : Int) ∈ l then [] else comp n d (l ++ [(x : Int)])
theorem comp_ups {t : List (List Int)} (h : Right t) (n : Nat) : ∀ d l, ∀ p ∈ comp n d l, ups t l ≤ ups t p
  | 0, l, p, hp => by
    obtain rfl : p = l := by simpa [comp] using hp
    exact Int.le_refl _
  | d + 1, l, p, hp => by
    obtain ⟨x, hx, hp⟩ := List.mem_flatMap.1 hp
    split at hp
    · cases hp
    · have := comp_ups h n d _ p hp
      rw [ups_snoc] at this
      have := more_nonneg h l (x : Int).toNat
      omega
theorem fold_keep {t : List (List Int)} : ∀ (L : List (List Int)) (s : List Int × Int), 0 ≤ s.2 → (∀ p ∈ L, s.2 ≤ ups t p) → L.foldl (upd t) s = s
  | [], s, _, _ => rfl
  | p :: L, s, h0, hp => by
    have h1 := hp p (by simp)
    rw [List.foldl_cons, show upd t s p = s from if_neg (by omega)]
    exact fold_keep L s h0 (fun q hq => hp q (by simp [hq]))
theorem grow_fold {t : List (List Int)} (h : Right t) : ∀ d l s, growR t d l (ups t l) s = (comp t.length d l).foldl (upd t) s := by
  intro d
  induction d with
  | zero =>
    intro l s
    unfold growR stopR
    by_cases hs : 0 ≤ s.2 ∧ s.2 ≤ ups t l
    · rw [if_pos (by simp [hs.1, hs.2])]
      exact (fold_keep [l] s hs.1 (fun p hp => by obtain rfl : p = l := by simpa using hp
                                                  exact hs.2)).symm
    · rw [if_neg (by simp only [Bool.and_eq_true, decide_eq_true_eq]; exact hs)]
      show _ = upd t s l
      unfold upd
      rw [if_pos (by omega)]
  | succ d ih =>
    intro l s
    unfold growR stopR
    by_cases hs : 0 ≤ s.2 ∧ s.2 ≤ ups t l
    · rw [if_pos (by simp [hs.1, hs.2])]
      exact (fold_keep _ s hs.1 (fun p hp => by have := comp_ups h t.length (d + 1) l p hp; omega)).symm
    · rw [if_neg (by simp only [Bool.and_eq_true, decide_eq_true_eq]; exact hs)]
      unfold comp
      rw [List.foldl_flatMap]
      have e : (fun (s : List Int × Int) (x : Nat) => if (x : Int) ∈ l then s else growR t d (l ++ [(x : Int)]) (ups t l + more t l x) s) =
          fun s (x : Nat) => (if (x : Int) ∈ l then [] else comp t.length d (l ++ [(x : Int)])).foldl (upd t) s := by
        funext s x
        split
        · rfl
        · rw [← ih, ups_snoc, Int.toNat_natCast]
      rw [e]
theorem mem_comp {n : Nat} : ∀ d (l : List Int), l.Nodup → (∀ x ∈ l, 0 ≤ x ∧ x < (n : Int)) → ∀ p, p ∈ comp n d l ↔ p.Nodup ∧ (∀ x ∈ p, 0 ≤ x ∧ x < (n : Int)) ∧ ∃ r, p = l ++ r ∧ r.length = d
  | 0, l, hn, hm, p => by
    constructor
    · intro hp
      obtain rfl : p = l := by simpa [comp] using hp
      exact ⟨hn, hm, [], by simp, rfl⟩
    · rintro ⟨_, _, r, rfl, hr⟩
      rw [List.length_eq_zero_iff.1 hr]
      simp [comp]
  | d + 1, l, hn, hm, p => by
    have step : ∀ x : Nat, x < n → (x : Int) ∉ l → (l ++ [(x : Int)]).Nodup ∧ ∀ y ∈ l ++ [(x : Int)], 0 ≤ y ∧ y < (n : Int) := by
      intro x hx hxl
      refine ⟨?_, fun y hy => ?_⟩
      · rw [List.nodup_append]
        exact ⟨hn, by simp, fun a ha b hb e => by
          obtain rfl : b = x := by simpa using hb
          exact hxl (e ▸ ha)⟩
      · rcases List.mem_append.1 hy with h1 | h1
        · exact hm y h1
        · obtain rfl : y = x := by simpa using h1
          omega
    unfold comp
    rw [List.mem_flatMap]
    constructor
    · rintro ⟨x, hx, hp⟩
      split at hp
      · cases hp
      · rename_i hxl
        obtain ⟨s1, s2⟩ := step x (List.mem_range.1 hx) hxl
        obtain ⟨h1, h2, r, rfl, hr⟩ := (mem_comp d _ s1 s2 p).1 hp
        exact ⟨h1, h2, (x : Int) :: r, by simp, by simp [hr]⟩
    · rintro ⟨h1, h2, r, rfl, hr⟩
      match r, hr with
      | y :: r, hr =>
        have hy := h2 y (by simp)
        obtain ⟨x, rfl⟩ := Int.eq_ofNat_of_zero_le hy.1
        have hxl : (x : Int) ∉ l := fun hxl => by
          rw [List.nodup_append] at h1
          exact h1.2.2 _ hxl _ (by simp) rfl
        refine ⟨x, List.mem_range.2 (by omega), ?_⟩
        rw [if_neg hxl]
        obtain ⟨s1, s2⟩ := step x (by omega) hxl
        exact (mem_comp d _ s1 s2 _).2 ⟨h1, h2, r, by simp, by simpa using hr⟩
theorem mem_all {n : Nat} {p : List Int} : p ∈ comp n n [] ↔ Order n p := by
  rw [mem_comp n [] (by simp) (by simp)]
  constructor
  · rintro ⟨h1, h2, r, rfl, hr⟩
    exact Order.of_valid h1 (by simpa using hr) h2
  · intro h
    exact ⟨h.nodup, fun x hx => h.mem.1 hx, p, by simp, h.len⟩
/-- The fold finds the first one of those with the fewest upsets. -/
theorem fold_first {t : List (List Int)} (h : Right t) : ∀ (L : List (List Int)) (s : List Int × Int),
    (s.2 < 0 → L ≠ [] → ∃ L1 p L2, L = L1 ++ p :: L2 ∧ L.foldl (upd t) s = (p, ups t p) ∧ (∀ q ∈ L1, ups t p < ups t q) ∧ ∀ q ∈ L, ups t p ≤ ups t q) ∧
    (0 ≤ s.2 → (L.foldl (upd t) s = s ∧ ∀ q ∈ L, s.2 ≤ ups t q) ∨ ∃ L1 p L2, L = L1 ++ p :: L2 ∧ L.foldl (upd t) s = (p, ups t p) ∧ ups t p < s.2 ∧ (∀ q ∈ L1, ups t p < ups t q) ∧ ∀ q ∈ L, ups t p ≤ ups t q)
  | [], s => ⟨fun _ h => absurd rfl h, fun _ => .inl ⟨rfl, by simp⟩⟩
  | p :: L, s => by
    have hp0 := ups_nonneg h p
    have take : (s.2 < 0 ∨ ups t p < s.2) → ∃ L1 q L2, p :: L = L1 ++ q :: L2 ∧ (p :: L).foldl (upd t) s = (q, ups t q) ∧ ups t q ≤ ups t p ∧ (∀ x ∈ L1, ups t q < ups t x) ∧ ∀ x ∈ p :: L, ups t q ≤ ups t x := by
      intro hs
      rw [List.foldl_cons, show upd t s p = (p, ups t p) from if_pos hs]
      rcases (fold_first h L (p, ups t p)).2 hp0 with ⟨e, hq⟩ | ⟨L1, q, L2, rfl, e, hlt, h1, h2⟩
      · refine ⟨[], p, L, rfl, e, Int.le_refl _, by simp, fun x hx => ?_⟩
        rcases List.mem_cons.1 hx with rfl | hx
        · exact Int.le_refl _
        · exact hq x hx
      · have hlt' : ups t q < ups t p := hlt
        refine ⟨p :: L1, q, L2, rfl, e, by omega, fun x hx => ?_, fun x hx => ?_⟩
        · rcases List.mem_cons.1 hx with rfl | hx
          · exact hlt'
          · exact h1 x hx
        · rcases List.mem_cons.1 hx with rfl | hx
          · omega
          · exact h2 x hx
    refine ⟨fun h0 _ => ?_, fun h0 => ?_⟩
    · obtain ⟨L1, q, L2, e1, e2, _, h1, h2⟩ := take (.inl h0)
      exact ⟨L1, q, L2, e1, e2, h1, h2⟩
    · by_cases hs : ups t p < s.2
      · obtain ⟨L1, q, L2, e1, e2, h3, h1, h2⟩ := take (.inr hs)
        exact .inr ⟨L1, q, L2, e1, e2, by omega, h1, h2⟩
      · rw [List.foldl_cons, show upd t s p = s from if_neg (by omega)]
        rcases (fold_first h L s).2 h0 with ⟨e, hq⟩ | ⟨L1, q, L2, rfl, e, hlt, h1, h2⟩
        · refine .inl ⟨e, fun x hx => ?_⟩
          rcases List.mem_cons.1 hx with rfl | hx
          · omega
          · exact hq x hx
        · refine .inr ⟨p :: L1, q, L2, rfl, e, hlt, fun x hx => ?_, fun x hx => ?_⟩
          · rcases List.mem_cons.1 hx with rfl | hx
            · omega
            · exact h1 x hx
          · rcases List.mem_cons.1 hx with rfl | hx
            · omega
            · exact h2 x hx
theorem rank_first {t : List (List Int)} (h : Right t) : ∃ L1 p L2, comp t.length t.length [] = L1 ++ p :: L2 ∧ rankS t = (p, ups t p) ∧ (∀ q ∈ L1, ups t p < ups t q) ∧ ∀ q, Order t.length q → ups t p ≤ ups t q := by
  have hne : comp t.length t.length [] ≠ [] := fun e => by
    have : nums0 t.length ∈ comp t.length t.length [] := mem_all.2 (List.Perm.refl _)
    rw [e] at this
    cases this
  obtain ⟨L1, p, L2, e1, e2, h1, h2⟩ := (fold_first h (comp t.length t.length []) ([], -1)).1 (by decide) hne
  refine ⟨L1, p, L2, e1, ?_, h1, fun q hq => h2 q (mem_all.2 hq)⟩
  rw [← e2, ← grow_fold h]
  rfl
/-- The fewest upsets of a table. -/
theorem least_spec {t : List (List Int)} (h : Right t) : Order t.length (rankS t).1 ∧ (rankS t).2 = ups t (rankS t).1 ∧ ∀ q, Order t.length q → (rankS t).2 ≤ ups t q := by
  obtain ⟨L1, p, L2, e1, e2, h1, h2⟩ := rank_first h
  rw [e2]
  exact ⟨mem_all.1 (by rw [e1]; simp), rfl, h2⟩
end Go.Proofs.Ytbnjffhcpkfnhaa.H
