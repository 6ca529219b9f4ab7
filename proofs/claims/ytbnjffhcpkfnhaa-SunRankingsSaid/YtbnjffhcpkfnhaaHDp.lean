/- The fewest upsets over sets of strips, as the reference reckons them. -/
import Derived.Test.YtbnjffhcpkfnhaaQR3
import Derived.Test.YtbnjffhcpkfnhaaHQ
namespace Go.Proofs.Ytbnjffhcpkfnhaa.H
open Go.RowKit Go.Proofs.YtbnjffhcpkfnhaaW.PrintWords Go.Proofs.YtbnjffhcpkfnhaaW.PrintLast Go.Proofs.YtbnjffhcpkfnhaaW.PrintMore
set_option linter.unusedVariables false

theorem rdR_nat (xs : List (List Int)) (i : Nat) : QR.rd_L1 xs (i : Int) = xs.getD i [] := by simp [QR.rd_L1]
set_option maxRecDepth 100000 in
theorem shr_bit : ∀ s : Nat, s < 128 → ∀ i : Nat, i < 7 → Go.bits .and .i64 (shr .i64 (s : Int) (IntKind.u64.wrap (i : Int))) 1 = if s.testBit i = true then 1 else 0 := by decide +kernel
theorem shl_pow : ∀ i : Nat, i ≤ 7 → shl .i64 1 (IntKind.u64.wrap (i : Int)) = ((2 ^ i : Nat) : Int) := by decide +kernel
theorem u64_nonneg : ∀ i : Nat, i ≤ 7 → 0 ≤ IntKind.u64.wrap (i : Int) := by decide +kernel
set_option maxRecDepth 100000 in
theorem bit_add : ∀ m : Nat, m < 128 → ∀ x, x < 7 → m.testBit x = false → 2 ^ x + m < 128 ∧ ∀ k, k < 7 → (2 ^ x + m).testBit k = (decide (k = x) || m.testBit k) := by decide +kernel
set_option maxRecDepth 100000 in
theorem bit_sub : ∀ m : Nat, m < 128 → ∀ x : Nat, x < 7 → m.testBit x = true → 2 ^ x ≤ m ∧ (m - 2 ^ x).testBit x = false ∧ ∀ k, k < 7 → k = x ∨ (m - 2 ^ x).testBit k = m.testBit k := by decide +kernel
set_option maxRecDepth 100000 in
theorem bit_full : ∀ m, m < 128 → ∀ n, n ≤ 7 → (∀ k, k < 7 → m.testBit k = decide (k < n)) → m = 2 ^ n - 1 := by decide +kernel
set_option maxRecDepth 100000 in
theorem bit_has : ∀ n, n ≤ 7 → ∀ k, k < 7 → (2 ^ n - 1).testBit k = decide (k < n) := by decide +kernel
set_option maxRecDepth 100000 in
theorem bit_lt : ∀ n, n ≤ 7 → ∀ m, m < 128 → (∀ k, k < 7 → m.testBit k = true → k < n) → m < 2 ^ n := by decide +kernel
set_option maxRecDepth 100000 in
theorem bit_one : ∀ m, m < 128 → m ≠ 0 → ∃ k, k < 7 ∧ m.testBit k = true := by decide +kernel
theorem pow_le : ∀ n, n ≤ 7 → 2 ^ n ≤ 128 := by decide
set_option maxRecDepth 100000 in
theorem bit_range : ∀ n, n ≤ 7 → ∀ m, m < 128 → m < 2 ^ n → ∀ k, k < 7 → m.testBit k = true → k < n := by decide +kernel

theorem right_err' {t : List (List Int)} (h : Right t) : errV t = 0 := by
  unfold errV
  have := h.pos
  have := h.len
  rw [if_neg (by omega), if_pos]
  rw [okV_iff]
  refine ⟨fun i hi => (bitRow_iff t i).2 ⟨h.row i hi, fun x hx => ?_, h.diag i⟩, fun i hi k hk => h.anti i k hi (by omega) (by omega)⟩
  obtain ⟨k, hk, rfl⟩ := List.getElem_of_mem hx
  have := h.bit i k
  unfold ent at this
  rwa [List.getD_eq_getElem?_getD (l := t.getD i []), List.getElem?_eq_getElem hk] at this
/-- The set of a list's strips. -/
def setOf (l : List Int) : Nat := (l.map fun x => 2 ^ x.toNat).sum
structure Part (n : Nat) (l : List Int) : Prop where
  nodup : l.Nodup
  mem : ∀ x ∈ l, 0 ≤ x ∧ x < (n : Int)
theorem Part.tail {n : Nat} {x : Int} {l : List Int} (h : Part n (x :: l)) : Part n l := ⟨(List.nodup_cons.1 h.nodup).2, fun y hy => h.mem y (by simp [hy])⟩
theorem set_bits {n : Nat} (hn : n ≤ 7) : ∀ {l : List Int}, Part n l → setOf l < 128 ∧ ∀ k : Nat, k < 7 → ((setOf l).testBit k = true ↔ (k : Int) ∈ l)
  | [], _ => ⟨by decide, fun k _ => by simp [setOf]⟩
  | x :: l, h => by
    obtain ⟨h1, h2⟩ := set_bits hn h.tail
    have hx := h.mem x (by simp)
    have hno : (setOf l).testBit x.toNat = false := by
      rw [Bool.eq_false_iff]
      intro e
      have := (h2 x.toNat (by omega)).1 e
      rw [show ((x.toNat : Nat) : Int) = x by omega] at this
      exact (List.nodup_cons.1 h.nodup).1 this
    have e : setOf (x :: l) = 2 ^ x.toNat + setOf l := by simp [setOf]
    obtain ⟨h3, h4⟩ := bit_add _ h1 x.toNat (by omega) hno
    rw [e]
    refine ⟨h3, fun k hk => ?_⟩
    rw [h4 k hk, Bool.or_eq_true, decide_eq_true_eq, h2 k hk, List.mem_cons]
    constructor
    · rintro (e | e)
      · exact .inl (by omega)
      · exact .inr e
    · rintro (e | e)
      · exact .inl (by omega)
      · exact .inr e
theorem set_lt {n : Nat} (hn : n ≤ 7) {l : List Int} (h : Part n l) : setOf l < 2 ^ n := by
  obtain ⟨h1, h2⟩ := set_bits hn h
  refine bit_lt n hn _ h1 fun k hk e => ?_
  have := h.mem _ ((h2 k hk).1 e)
  omega
theorem set_snoc (l : List Int) (x : Int) : setOf (l ++ [x]) = setOf l + 2 ^ x.toNat := by simp [setOf]
theorem Part.snoc {n : Nat} {l : List Int} (h : Part n l) {i : Nat} (hi : i < n) (hno : (i : Int) ∉ l) : Part n (l ++ [(i : Int)]) := by
  refine ⟨?_, fun y hy => ?_⟩
  · rw [List.nodup_append]
    exact ⟨h.nodup, by simp, fun a ha b hb e => by
      obtain rfl : b = i := by simpa using hb
      exact hno (e ▸ ha)⟩
  · rcases List.mem_append.1 hy with h1 | h1
    · exact h.mem y h1
    · obtain rfl : y = i := by simpa using h1
      omega
theorem Part.init {n : Nat} {l : List Int} {x : Int} (h : Part n (l ++ [x])) : Part n l ∧ x ∉ l ∧ 0 ≤ x ∧ x < (n : Int) := by
  obtain ⟨h1, h2⟩ := h
  rw [List.nodup_append] at h1
  exact ⟨⟨h1.1, fun y hy => h2 y (by simp [hy])⟩, fun hx => h1.2.2 x hx x (by simp) rfl, (h2 x (by simp)).1, (h2 x (by simp)).2⟩

/-- How many of a set i beats. -/
def hits (t : List (List Int)) (i s k : Nat) : Int := sumTo (fun k => if s.testBit k = true then ent t i k else 0) k
theorem hits_list {t : List (List Int)} (h : Right t) (i : Nat) : ∀ {l : List Int}, Part t.length l → more t l i = hits t i (setOf l) t.length
  | [], _ => by
    unfold hits
    rw [show sumTo (fun k => if (setOf []).testBit k = true then ent t i k else 0) t.length = sumTo (fun _ => 0) t.length from sumTo_congr fun k hk => by simp [setOf], sumTo_zero]
    rfl
  | x :: l, hp => by
    have ih := hits_list h i hp.tail
    have hn := h.len
    have hx := hp.mem x (by simp)
    obtain ⟨_, h1⟩ := set_bits hn hp
    obtain ⟨_, h2⟩ := set_bits hn hp.tail
    have e : more t (x :: l) i = ent t i x.toNat + more t l i := by simp [more]
    rw [e, ih]
    unfold hits
    have e2 : sumTo (fun k => if (setOf (x :: l)).testBit k = true then ent t i k else 0) t.length = sumTo (fun k => (if k = x.toNat then ent t i k else 0) + (if (setOf l).testBit k = true then ent t i k else 0)) t.length := by
      refine sumTo_congr fun k hk => ?_
      by_cases ek : k = x.toNat
      · have : ¬ (setOf l).testBit k = true := fun e => (List.nodup_cons.1 hp.nodup).1 (by
          have := (h2 k (by omega)).1 e
          rwa [show (k : Int) = x by omega] at this)
        rw [if_pos ((h1 k (by omega)).2 (by rw [show (k : Int) = x by omega]; simp)), if_pos ek, if_neg this]
        omega
      · rw [if_neg ek]
        by_cases eb : (setOf l).testBit k = true
        · rw [if_pos eb, if_pos ((h1 k (by omega)).2 (List.mem_cons_of_mem _ ((h2 k (by omega)).1 eb)))]; omega
        · rw [if_neg eb, if_neg (fun e => eb ((h2 k (by omega)).2 (by
            rcases List.mem_cons.1 ((h1 k (by omega)).1 e) with e3 | e3
            · omega
            · exact e3)))]; omega
    rw [e2, sumTo_add, sumTo_one x.toNat (fun k => ent t i k), if_pos (by omega)]

/-- v is the fewest upsets of the orders of set s. -/
def Opt (t : List (List Int)) (s : Nat) (v : Int) : Prop := (∀ l, Part t.length l → setOf l = s → v ≤ ups t l) ∧ ∃ l, Part t.length l ∧ setOf l = s ∧ ups t l = v
/-- The same of those whose last one is among the first i. -/
def OptTo (t : List (List Int)) (s i : Nat) (v : Int) : Prop := (∀ l (x : Nat), Part t.length (l ++ [(x : Int)]) → setOf (l ++ [(x : Int)]) = s → x < i → v ≤ ups t (l ++ [(x : Int)])) ∧ (v = t.length * t.length ∨ ∃ l, Part t.length l ∧ setOf l = s ∧ ups t l = v)
theorem opt_zero {t : List (List Int)} (h : Right t) : Opt t 0 0 := by
  refine ⟨fun l _ _ => ups_nonneg h l, [], ⟨by simp, by simp⟩, rfl, rfl⟩
theorem optTo_start {t : List (List Int)} (s : Nat) : OptTo t s 0 (t.length * t.length) := ⟨fun l x _ _ hx => absurd hx (by omega), .inl rfl⟩
theorem optTo_skip {t : List (List Int)} (h : Right t) {s i : Nat} {v : Int} (hv : OptTo t s i v) (hi : i < t.length) (hb : s.testBit i = false) : OptTo t s (i + 1) v := by
  refine ⟨fun l x hp hs hx => ?_, hv.2⟩
  by_cases e : x = i
  · subst e
    exfalso
    obtain ⟨_, h2⟩ := set_bits h.len hp
    have := (h2 x (by have := h.len; omega)).2 (by simp)
    rw [hs, hb] at this
    cases this
  · exact hv.1 l x hp hs (by omega)
theorem opt_snoc {t : List (List Int)} (h : Right t) {s i : Nat} (hs : s < 2 ^ t.length) (hi : i < t.length) (hb : s.testBit i = true) {v : Int} (hv : Opt t (s - 2 ^ i) v) :
    (∀ l, Part t.length (l ++ [(i : Int)]) → setOf (l ++ [(i : Int)]) = s → v + hits t i (s - 2 ^ i) t.length ≤ ups t (l ++ [(i : Int)])) ∧ ∃ l, Part t.length l ∧ setOf l = s ∧ ups t l = v + hits t i (s - 2 ^ i) t.length := by
  have hn := h.len
  have hs' : s < 128 := Nat.lt_of_lt_of_le hs (pow_le _ hn)
  obtain ⟨b1, b2, b3⟩ := bit_sub s hs' i (by omega) hb
  refine ⟨fun l hp he => ?_, ?_⟩
  · obtain ⟨p1, p2, _⟩ := hp.init
    rw [set_snoc, Int.toNat_natCast] at he
    have e : setOf l = s - 2 ^ i := by omega
    rw [ups_snoc, Int.toNat_natCast, hits_list h i p1, e]
    have := hv.1 l p1 e
    omega
  · obtain ⟨l, p1, e, eu⟩ := hv.2
    have hno : (i : Int) ∉ l := fun hm => by
      have := ((set_bits hn p1).2 i (by omega)).2 hm
      rw [e, b2] at this
      cases this
    refine ⟨l ++ [(i : Int)], p1.snoc hi hno, by rw [set_snoc, Int.toNat_natCast]; omega, ?_⟩
    rw [ups_snoc, Int.toNat_natCast, hits_list h i p1, e, eu]
theorem optTo_step {t : List (List Int)} (h : Right t) {s i : Nat} (hs : s < 2 ^ t.length) (hi : i < t.length) (hb : s.testBit i = true) {u v : Int} (hu : OptTo t s i u) (hv : Opt t (s - 2 ^ i) v) : OptTo t s (i + 1) (mn u (v + hits t i (s - 2 ^ i) t.length)) := by
  obtain ⟨h1, h2⟩ := opt_snoc h hs hi hb hv
  unfold mn
  refine ⟨fun l x hp he hx => ?_, ?_⟩
  · by_cases e : x = i
    · subst e
      have := h1 l hp he
      split <;> omega
    · have := hu.1 l x hp he (by omega)
      split <;> omega
  · split
    · exact .inr h2
    · exact hu.2
theorem part_len {n : Nat} {l : List Int} (h : Part n l) : l.length ≤ n := by
  have : ∀ (l m : List Int), l.Nodup → (∀ x ∈ l, x ∈ m) → l.length ≤ m.length := by
    intro l
    induction l with
    | nil => intro m _ _; simp
    | cons x l ih =>
      intro m hn hs
      have hx := hs x (by simp)
      have := ih (m.erase x) (List.nodup_cons.1 hn).2 (fun y hy => by
        have hne : y ≠ x := fun e => (List.nodup_cons.1 hn).1 (e ▸ hy)
        exact (List.mem_erase_of_ne hne).2 (hs y (by simp [hy])))
      rw [List.length_erase_of_mem hx] at this
      have : 0 < m.length := List.length_pos_of_mem hx
      simp only [List.length_cons]
      omega
  have := this l (nums0 n) h.nodup (fun x hx => mem_nums0.2 (h.mem x hx))
  rwa [nums0_len] at this
theorem small_sq : ∀ n : Nat, n ≤ 7 → ∀ m : Nat, m ≤ n → 1 ≤ n → (m : Int) * ((m : Int) - 1) < 2 * ((n : Int) * n) := by decide
theorem part_ups {t : List (List Int)} (h : Right t) {l : List Int} (hp : Part t.length l) : ups t l < t.length * t.length := by
  have h1 := ups_both h l hp.nodup hp.mem
  have h2 := ups_nonneg h l.reverse
  have := small_sq t.length h.len l.length (part_len hp) h.pos
  omega
theorem optTo_end {t : List (List Int)} (h : Right t) {s : Nat} {u : Int} (hu : OptTo t s t.length u) (hs : s < 2 ^ t.length) (h0 : s ≠ 0) (hprev : ∀ s', s' < s → ∃ v, Opt t s' v) : Opt t s u := by
  have hn := h.len
  have hs' : s < 128 := Nat.lt_of_lt_of_le hs (pow_le _ hn)
  have hall : ∀ l, Part t.length l → setOf l = s → u ≤ ups t l := fun l hp he => by
    rcases List.eq_nil_or_concat l with rfl | ⟨m, x, rfl⟩
    · exact absurd he.symm h0
    · rw [List.concat_eq_append] at hp he ⊢
      obtain ⟨_, _, x0, x1⟩ := hp.init
      obtain ⟨y, rfl⟩ := Int.eq_ofNat_of_zero_le x0
      exact hu.1 m y hp he (by omega)
  refine ⟨hall, ?_⟩
  rcases hu.2 with e | e
  · exfalso
    obtain ⟨k, hk, hb⟩ := bit_one s hs' h0
    have hkn := bit_range _ hn s hs' hs k hk hb
    obtain ⟨b1, _, _⟩ := bit_sub s hs' k hk hb
    have h2k : 0 < 2 ^ k := Nat.pow_pos (by decide)
    obtain ⟨v, hv⟩ := hprev (s - 2 ^ k) (by omega)
    obtain ⟨_, l, p, he, _⟩ := opt_snoc h hs hkn hb hv
    have a1 := hall l p he
    have a2 := part_ups h p
    omega
  · exact e
theorem hits_bound {t : List (List Int)} (h : Right t) (i s k : Nat) (hk : k ≤ 7) : 0 ≤ hits t i s k ∧ hits t i s k ≤ 7 := by
  have := sumTo_bound (f := fun k => if s.testBit k = true then ent t i k else 0) (b := 1) (n := k) (fun j _ => by
    rcases h.bit i j with e | e <;> split <;> omega)
  unfold hits
  omega
theorem opt_bound {t : List (List Int)} (h : Right t) {s : Nat} {v : Int} (hv : Opt t s v) : 0 ≤ v ∧ v ≤ 49 := by
  obtain ⟨l, p, _, e⟩ := hv.2
  have := ups_nonneg h l
  have := ups_le h (l := l) (by have := part_len p; have := h.len; omega)
  omega
theorem optTo_bound {t : List (List Int)} (h : Right t) {s i : Nat} {v : Int} (hv : OptTo t s i v) : 0 ≤ v ∧ v ≤ 49 := by
  rcases hv.2 with e | ⟨l, p, _, e⟩
  · have hn := h.len
    have := h.pos
    have : ∀ n : Nat, n ≤ 7 → (0 : Int) ≤ n * n ∧ (n : Int) * n ≤ 49 := by decide
    have := this t.length hn
    omega
  · have := ups_nonneg h l
    have := ups_le h (l := l) (by have := part_len p; have := h.len; omega)
    omega

/-! ### the loops -/
theorem set_getD (out : List Int) (s : Nat) (v : Int) (j : Nat) (hs : s < out.length) : (out.set s v).getD j 0 = if j = s then v else out.getD j 0 := by
  rw [List.getD_eq_getElem?_getD, List.getElem?_set]
  by_cases e : s = j
  · subst e; rw [if_pos rfl, if_pos hs, if_pos rfl]; rfl
  · rw [if_neg e, if_neg (fun e2 => e e2.symm), List.getD_eq_getElem?_getD]
theorem Ev_fewest {t : List (List Int)} (h : Right t) : ∃ out, Ev (fun k => QR.verditerref05_fewest.f k t) out ∧ out.length = 2 ^ t.length ∧ ∀ s, s < 2 ^ t.length → Opt t s (out.getD s 0) := by
  have hn := h.len
  have hpow := pow_le _ hn
  have hpos : 0 < 2 ^ t.length := Nat.pow_pos (by decide)
  have sq : wrap64 ((t.length : Int) * (t.length : Int)) = t.length * t.length := by
    have : ∀ n : Nat, n ≤ 7 → (0 : Int) ≤ n * n ∧ (n : Int) * n ≤ 49 := by decide
    have := this t.length hn
    exact wrap_small (by omega) (by omega)
  have l0 : ∀ d s, s + d = 2 ^ t.length → 0 < s → ∀ out : List Int, out.length = 2 ^ t.length → (∀ s', s' < s → Opt t s' (out.getD s' 0)) →
      ∃ r, Ev (fun k => QR.verditerref05_fewest.l0 k t out (s : Int)) r ∧ r.length = 2 ^ t.length ∧ ∀ s, s < 2 ^ t.length → Opt t s (r.getD s 0) := by
    intro d
    induction d with
    | zero =>
      intro s hs _ out hl hO
      exact ⟨out, Ev.step (fun k => by simp only [QR.verditerref05_fewest.l0]; rw [if_neg (by omega)]) (Ev.now _), hl, fun s' hs' => hO s' (by omega)⟩
    | succ d ih =>
      intro s hs h0 out hl hO
      have hs1 : s < 2 ^ t.length := by omega
      have hs' : s < 128 := by omega
      have l1 : ∀ e i, i + e = t.length → ∀ out : List Int, out.length = 2 ^ t.length → (∀ s', s' < s → Opt t s' (out.getD s' 0)) → OptTo t s i (out.getD s 0) →
          ∃ r, Ev (fun k => QR.verditerref05_fewest.l1 k t out (s : Int) (i : Int)) r ∧ r.length = 2 ^ t.length ∧ ∀ s, s < 2 ^ t.length → Opt t s (r.getD s 0) := by
        intro e
        induction e with
        | zero =>
          intro i hi out hl hO hT
          obtain rfl : i = t.length := by omega
          obtain ⟨r, hr, hr2⟩ := ih (s + 1) (by omega) (by omega) out hl (fun s' hs2 => by
            by_cases e : s' = s
            · subst e; exact optTo_end h hT hs1 (by omega) (fun s' hs' => ⟨_, hO s' hs'⟩)
            · exact hO s' (by omega))
          refine ⟨r, Ev.step (fun k => ?_) hr, hr2⟩
          simp only [QR.verditerref05_fewest.l1]
          rw [if_neg (by omega), wrap_nat (n := 128) hs' (by omega)]
        | succ e ih2 =>
          intro i hi out hl hO hT
          have hi' : i < t.length := by omega
          have hu := u64_nonneg i (by omega)
          have hb := shr_bit s hs' i (by omega)
          by_cases hbit : s.testBit i = true
          · rw [if_pos hbit] at hb
            obtain ⟨b1, b2, b3⟩ := bit_sub s hs' i (by omega) hbit
            have h2k : 0 < 2 ^ i := Nat.pow_pos (by decide)
            have hO' := hO (s - 2 ^ i) (by omega)
            have hob := opt_bound h hO'
            have hvb := optTo_bound h hT
            obtain ⟨v, hv⟩ : ∃ v, out.getD (s - 2 ^ i) 0 = v := ⟨_, rfl⟩
            rw [hv] at hO' hob
            obtain ⟨r, hr, hr2⟩ := ih2 (i + 1) (by omega) (out.set s (mn (out.getD s 0) (v + hits t i (s - 2 ^ i) t.length))) (by rw [List.length_set]; exact hl)
              (fun s' hs2 => by rw [set_getD _ _ _ _ (by omega), if_neg (by omega)]; exact hO s' hs2)
              (by rw [set_getD _ _ _ _ (by omega), if_pos rfl]; exact optTo_step h hs1 hi' hbit hT hO')
            have l2 : ∀ g k, k + g = t.length → Ev (fun f => QR.verditerref05_fewest.l2 f t out (s : Int) (i : Int) ((s - 2 ^ i : Nat) : Int) (v + hits t i (s - 2 ^ i) k) (k : Int)) r := by
              intro g
              induction g with
              | zero =>
                intro k hk
                obtain rfl : k = t.length := by omega
                refine Ev.step (fun f => ?_) hr
                simp only [QR.verditerref05_fewest.l2]
                rw [if_neg (by omega), if_pos (by omega), if_pos (by omega), rd_nat, wrap_nat (n := t.length) hi' (by omega)]
                rfl
              | succ g ih3 =>
                intro k hk
                have hk' : k < t.length := by omega
                have hb2 := shr_bit (s - 2 ^ i) (by omega) k (by omega)
                have hu2 := u64_nonneg k (by omega)
                have hhb := hits_bound h i (s - 2 ^ i) k (by omega)
                refine Ev.step (fun f => ?_) (ih3 (k + 1) (by omega))
                simp only [QR.verditerref05_fewest.l2]
                rw [if_pos (by omega), if_pos hu2, hb2]
                have hst : hits t i (s - 2 ^ i) (k + 1) = hits t i (s - 2 ^ i) k + (if (s - 2 ^ i).testBit k = true then ent t i k else 0) := rfl
                by_cases hc : (s - 2 ^ i).testBit k = true
                · rw [if_pos hc] at hst ⊢
                  have hen := h.bit i k
                  unfold ent at hst hen
                  rw [if_pos rfl, if_pos (by omega), if_pos (by omega), if_pos (by omega), rdR_nat, h.row i hi', if_pos (by omega), rd_nat, wrap_nat (n := t.length) hk' (by omega), wrap_small (by rcases hen with e | e <;> rw [e] <;> omega) (by rcases hen with e | e <;> rw [e] <;> omega), hst, Int.add_assoc]
                · rw [if_neg hc] at hst ⊢
                  rw [if_neg (by omega), wrap_nat (n := t.length) hk' (by omega), hst, Int.add_zero]
            refine ⟨r, Ev.step (f := fun f => QR.verditerref05_fewest.l2 f t out (s : Int) (i : Int) ((s - 2 ^ i : Nat) : Int) (v + hits t i (s - 2 ^ i) 0) ((0 : Nat) : Int)) (fun f => ?_) (l2 t.length 0 (by omega)), hr2⟩
            simp only [QR.verditerref05_fewest.l1]
            have ew : wrap64 ((s : Int) - shl .i64 1 (IntKind.u64.wrap (i : Int))) = ((s - 2 ^ i : Nat) : Int) := by
              rw [shl_pow i (by omega), wrap_small (by omega) (by omega)]; omega
            rw [if_pos (by omega), if_pos hu, hb, if_neg (by omega), ew, if_pos (by omega), if_pos (by omega), rd_nat, hv, show hits t i (s - 2 ^ i) 0 = 0 from rfl, Int.add_zero]
            rfl
          · have hbf : s.testBit i = false := Bool.eq_false_iff.2 hbit
            rw [if_neg hbit] at hb
            obtain ⟨r, hr, hr2⟩ := ih2 (i + 1) (by omega) out hl hO (optTo_skip h hT hi' hbf)
            refine ⟨r, Ev.step (fun k => ?_) hr, hr2⟩
            simp only [QR.verditerref05_fewest.l1]
            rw [if_pos (by omega), if_pos hu, hb, if_pos rfl, wrap_nat (n := t.length) hi' (by omega)]
      obtain ⟨r, hr, hr2⟩ := l1 t.length 0 (by omega) (out.set s (t.length * t.length)) (by rw [List.length_set]; exact hl) (fun s' hs2 => by rw [set_getD _ _ _ _ (by omega), if_neg (by omega)]; exact hO s' hs2)
        (by rw [set_getD _ _ _ _ (by omega), if_pos rfl]; exact optTo_start s)
      refine ⟨r, Ev.step (fun k => ?_) hr, hr2⟩
      simp only [QR.verditerref05_fewest.l0]
      rw [if_pos (by omega), if_pos (by omega), sq]
      rfl
  obtain ⟨r, hr, hr2⟩ := l0 (2 ^ t.length - 1) 1 (by omega) (by omega) (List.replicate (2 ^ t.length) 0) (by simp) (fun s' hs' => by
    obtain rfl : s' = 0 := by omega
    rw [List.getD_eq_getElem?_getD, List.getElem?_replicate, if_pos hpos]
    exact opt_zero h)
  refine ⟨r, Ev.congr (fun k => ?_) hr, hr2⟩
  simp only [QR.verditerref05_fewest.f]
  rw [if_pos (u64_nonneg _ hn), shl_pow _ hn, if_pos (by omega), Int.toNat_natCast, if_pos (by omega)]
  rfl
theorem Order.part {n : Nat} {p : List Int} (h : Order n p) : Part n p := ⟨h.nodup, fun x hx => h.mem.1 hx⟩
theorem set_order {n : Nat} (hn : n ≤ 7) {p : List Int} (h : Part n p) : setOf p = 2 ^ n - 1 ↔ Order n p := by
  obtain ⟨h1, h2⟩ := set_bits hn h
  constructor
  · intro e
    refine perm_of_cover (nums0_nodup n) (fun x hx => ?_) (by rw [nums0_len]; exact part_len h)
    obtain ⟨x0, x1⟩ := mem_nums0.1 hx
    obtain ⟨y, rfl⟩ := Int.eq_ofNat_of_zero_le x0
    refine (h2 y (by omega)).1 ?_
    rw [e, bit_has n hn y (by omega)]
    exact decide_eq_true (by omega)
  · intro ho
    refine bit_full _ h1 n hn fun k hk => ?_
    rw [Bool.eq_iff_iff, h2 k hk, ho.mem, decide_eq_true_eq]
    omega
theorem Opt.least {t : List (List Int)} (h : Right t) {v : Int} (hv : Opt t (2 ^ t.length - 1) v) : v = (rankS t).2 := by
  obtain ⟨o, e, m⟩ := least_spec h
  have h1 := hv.1 _ o.part ((set_order h.len o.part).2 o)
  obtain ⟨l, p, es, eu⟩ := hv.2
  have h2 := m l ((set_order h.len p).1 es)
  omega
theorem Ev_refFewest {t : List (List Int)} (h : Right t) : Ev (fun k => QR.verditerref05_Fewest.f k t) ((rankS t).2, 0) := by
  obtain ⟨out, ho, hl, hO⟩ := Ev_fewest h
  have hpos : 0 < 2 ^ t.length := Nat.pow_pos (by decide)
  have hpow := pow_le _ h.len
  unfold QR.verditerref05_Fewest.f
  refine Ev.congr (f := fun k => (QR.verditerref05_fewest.f k t).bind fun t111 => _) (fun k => by simp only [verditerref05_Validate.f, Option.bind_some]; rw [if_pos (right_err' h)]) (Ev.bind ho ?_)
  refine Ev.congr (fun k => ?_) (Ev.now _)
  rw [hl, wrap_small (by omega) (by omega), if_pos (by omega), if_pos (by omega)]
  have e : (((2 ^ t.length : Nat) : Int) - 1) = ((2 ^ t.length - 1 : Nat) : Int) := by omega
  rw [e, rd_nat, (hO _ (by omega)).least h]
end Go.Proofs.Ytbnjffhcpkfnhaa.H
