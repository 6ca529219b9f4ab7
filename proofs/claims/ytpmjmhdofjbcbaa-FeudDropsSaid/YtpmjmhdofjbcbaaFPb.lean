/- Shelvings of a shop: without a feud, and with its paints made one. Plain Lean. -/
import Derived.Test.YtpmjmhdofjbcbaaFPa
namespace Go.Proofs.Ytpmjmhdofjbcbaa.H
set_option linter.unusedVariables false
def okE (E : List (Nat × Nat)) (l : List Nat) : Bool := E.all fun e => l.getD e.1 0 != l.getD e.2 0
def ind (b : Bool) : Int := if b = true then 1 else 0
theorem ind_true : ind true = 1 := rfl
theorem ind_false : ind false = 0 := rfl
theorem ind_nonneg (b : Bool) : 0 ≤ ind b := by cases b <;> decide
/-- In how many ways n paints with feuds are put on q shelves. -/
def cntE (q n : Nat) (E : List (Nat × Nat)) : Int := sumL q n (fun l => ind (okE E l))
structure Good (n : Nat) (E : List (Nat × Nat)) : Prop where
  lt : ∀ e ∈ E, e.1 < e.2 ∧ e.2 < n
  nodup : E.Nodup
theorem okE_iff {E : List (Nat × Nat)} {l : List Nat} : okE E l = true ↔ ∀ e ∈ E, l.getD e.1 0 ≠ l.getD e.2 0 := by
  unfold okE
  rw [List.all_eq_true]
  exact ⟨fun h e he => by simpa using h e he, fun h e he => by simpa using h e he⟩
theorem okE_mem {E E' : List (Nat × Nat)} (h : ∀ e, e ∈ E ↔ e ∈ E') (l : List Nat) : okE E l = okE E' l := by
  rw [Bool.eq_iff_iff, okE_iff, okE_iff]
  exact ⟨fun a e he => a e ((h e).2 he), fun a e he => a e ((h e).1 he)⟩
theorem cntE_mem {q n : Nat} {E E' : List (Nat × Nat)} (h : ∀ e, e ∈ E ↔ e ∈ E') : cntE q n E = cntE q n E' := by
  unfold cntE
  congr 1
  funext l
  rw [okE_mem h]
/-- The new number of a paint, A and B made one. -/
def numb (A B p : Nat) : Nat := if p = B then A else if B < p then p - 1 else p
def conE (A B : Nat) (E : List (Nat × Nat)) : List (Nat × Nat) := E.map fun e => (min (numb A B e.1) (numb A B e.2), max (numb A B e.1) (numb A B e.2))
theorem insN_numb {l : List Nat} {A B : Nat} (hAB : A < B) (hB : B ≤ l.length) (p : Nat) : (insN l B (l.getD A 0)).getD p 0 = l.getD (numb A B p) 0 := by
  rw [insN_getD hB]
  unfold numb
  by_cases e : p = B
  · rw [if_pos e, if_pos e]
  · rw [if_neg e, if_neg e]
    by_cases e2 : B < p
    · rw [if_pos e2, if_pos e2]
    · rw [if_neg e2, if_neg e2]
theorem ne_minmax (l : List Nat) (x y : Nat) : (l.getD (min x y) 0 ≠ l.getD (max x y) 0) ↔ l.getD x 0 ≠ l.getD y 0 := by
  by_cases h : x ≤ y
  · rw [Nat.min_eq_left h, Nat.max_eq_right h]
  · rw [Nat.min_eq_right (by omega), Nat.max_eq_left (by omega)]
    exact ⟨fun a b => a b.symm, fun a b => a b.symm⟩
theorem okE_con {l : List Nat} {A B : Nat} (hAB : A < B) (hB : B ≤ l.length) (E : List (Nat × Nat)) : okE E (insN l B (l.getD A 0)) = okE (conE A B E) l := by
  rw [Bool.eq_iff_iff, okE_iff, okE_iff]
  constructor
  · intro h e he
    obtain ⟨f, hf, rfl⟩ := List.mem_map.1 he
    have := h f hf
    rw [insN_numb hAB hB, insN_numb hAB hB] at this
    exact (ne_minmax l _ _).2 this
  · intro h f hf
    rw [insN_numb hAB hB, insN_numb hAB hB]
    exact (ne_minmax l _ _).1 (h _ (List.mem_map.2 ⟨f, hf, rfl⟩))
theorem cnt_split {q n : Nat} {A B : Nat} (hAB : A < B) (hB : B ≤ n) (E : List (Nat × Nat)) : cntE q (n + 1) E = cntE q (n + 1) (E ++ [(A, B)]) + cntE q n (conE A B E) := by
  have h1 : cntE q (n + 1) E = sumL q (n + 1) (fun l => ind (okE (E ++ [(A, B)]) l) + (if l.getD A 0 = l.getD B 0 then ind (okE E l) else 0)) := by
    unfold cntE
    refine sumL_congr fun l hl hx => ?_
    have e1 : okE (E ++ [(A, B)]) l = (okE E l && (l.getD A 0 != l.getD B 0)) := by unfold okE; rw [List.all_append]; simp
    rw [e1]
    by_cases e : l.getD A 0 = l.getD B 0
    · rw [if_pos e, bne_eq_false_iff_eq.2 e, Bool.and_false, ind_false]; omega
    · rw [if_neg e, bne_iff_ne.2 e, Bool.and_true]; omega
  rw [h1, sumL_add]
  congr 1
  rw [sumL_ins B n _ hB]
  unfold cntE
  refine sumL_congr fun l hl hx => ?_
  have hA : l.getD A 0 < q := by
    rw [List.getD_eq_getElem?_getD, List.getElem?_eq_getElem (by omega)]
    exact hx _ (List.getElem_mem _)
  rw [← okE_con hAB (by omega)]
  rw [← sumN_one (q := q) (l.getD A 0) (fun c => ind (okE E (insN l B c))) hA]
  refine sumN_congr fun c hc => ?_
  have eA : (insN l B c).getD A 0 = l.getD A 0 := by rw [insN_getD (by omega), if_neg (by omega), if_neg (by omega)]
  have eB : (insN l B c).getD B 0 = c := by rw [insN_getD (by omega), if_pos rfl]
  rw [eA, eB]
  by_cases e : c = l.getD A 0
  · rw [if_pos e, if_pos e.symm]
  · rw [if_neg e, if_neg (fun x => e x.symm)]
/-! ### the pairs that are so, in order -/
def setE (n : Nat) (p : Nat → Nat → Bool) : List (Nat × Nat) := (List.range n).flatMap fun a => ((List.range n).filter fun b => decide (a < b) && p a b).map fun b => (a, b)
theorem mem_setE {n : Nat} {p : Nat → Nat → Bool} {e : Nat × Nat} : e ∈ setE n p ↔ e.1 < e.2 ∧ e.2 < n ∧ p e.1 e.2 = true := by
  unfold setE
  rw [List.mem_flatMap]
  constructor
  · rintro ⟨a, ha, h⟩
    obtain ⟨b, hb, rfl⟩ := List.mem_map.1 h
    rw [List.mem_filter, Bool.and_eq_true, decide_eq_true_eq, List.mem_range] at hb
    exact ⟨hb.2.1, hb.1, hb.2.2⟩
  · rintro ⟨h1, h2, h3⟩
    refine ⟨e.1, List.mem_range.2 (by omega), List.mem_map.2 ⟨e.2, ?_, rfl⟩⟩
    rw [List.mem_filter, Bool.and_eq_true, decide_eq_true_eq, List.mem_range]
    exact ⟨h2, h1, h3⟩
/-- The order of feuds. -/
def ltE (e f : Nat × Nat) : Prop := e.1 < f.1 ∨ e.1 = f.1 ∧ e.2 < f.2
theorem setE_sorted (n : Nat) (p : Nat → Nat → Bool) : (setE n p).Pairwise ltE := by
  unfold setE
  rw [List.pairwise_flatMap]
  refine ⟨fun a ha => ?_, ?_⟩
  · rw [List.pairwise_map]
    refine List.Pairwise.filter _ ?_
    exact List.pairwise_lt_range.imp fun h => .inr ⟨rfl, h⟩
  · refine List.pairwise_lt_range.imp fun h x hx y hy => ?_
    obtain ⟨b, _, rfl⟩ := List.mem_map.1 hx
    obtain ⟨c, _, rfl⟩ := List.mem_map.1 hy
    exact .inl h
theorem ltE_irrefl {e f : Nat × Nat} (h : ltE e f) : e ≠ f := fun x => by
  subst x
  rcases h with h | h <;> omega
theorem ltE_nodup {E : List (Nat × Nat)} (h : E.Pairwise ltE) : E.Nodup := h.imp ltE_irrefl
theorem setE_nodup (n : Nat) (p : Nat → Nat → Bool) : (setE n p).Nodup := ltE_nodup (setE_sorted n p)
/-- Two lists in order with the same members are equal. -/
theorem sorted_eq : ∀ {E F : List (Nat × Nat)}, E.Pairwise ltE → F.Pairwise ltE → (∀ e, e ∈ E ↔ e ∈ F) → E = F
  | [], [], _, _, _ => rfl
  | [], f :: F, _, _, h => by have := (h f).2 (by simp); cases this
  | e :: E, [], _, _, h => by have := (h e).1 (by simp); cases this
  | e :: E, f :: F, hE, hF, h => by
    obtain ⟨e1, e2⟩ := List.pairwise_cons.1 hE
    obtain ⟨f1, f2⟩ := List.pairwise_cons.1 hF
    have hef : e = f := by
      rcases List.mem_cons.1 ((h e).1 (by simp)) with x | x
      · exact x
      · rcases List.mem_cons.1 ((h f).2 (by simp)) with y | y
        · exact y.symm
        · have a := f1 e x
          have b := e1 f y
          unfold ltE at a b
          omega
    subst hef
    congr 1
    refine sorted_eq e2 f2 fun g => ?_
    constructor
    · intro hg
      rcases List.mem_cons.1 ((h g).1 (by simp [hg])) with x | x
      · exact absurd x.symm (ltE_irrefl (e1 g hg))
      · exact x
    · intro hg
      rcases List.mem_cons.1 ((h g).2 (by simp [hg])) with x | x
      · exact absurd x.symm (ltE_irrefl (f1 g hg))
      · exact x
theorem setE_good (n : Nat) (p : Nat → Nat → Bool) : Good n (setE n p) := ⟨fun e he => ⟨(mem_setE.1 he).1, (mem_setE.1 he).2.1⟩, setE_nodup n p⟩
/-! ### a shop without a feud, and with its paints made one -/
def dropE (E : List (Nat × Nat)) (k : Nat) : List (Nat × Nat) := E.take k ++ E.drop (k + 1)
def mergeE (n : Nat) (E : List (Nat × Nat)) (k : Nat) : List (Nat × Nat) := setE (n - 1) fun a b => decide ((a, b) ∈ conE (E.getD k (0, 0)).1 (E.getD k (0, 0)).2 (dropE E k))
theorem nodup_lenE {α : Type} [DecidableEq α] {l m : List α} (hn : l.Nodup) (hs : ∀ x ∈ l, x ∈ m) : l.length ≤ m.length := by
  induction l generalizing m with
  | nil => exact Nat.zero_le _
  | cons x l ih =>
    have hx : x ∈ m := hs x (by simp)
    have := ih (m := m.erase x) (List.nodup_cons.1 hn).2 (fun y hy => by
      have hne : y ≠ x := fun e => (List.nodup_cons.1 hn).1 (e ▸ hy)
      exact (List.mem_erase_of_ne hne).2 (hs y (by simp [hy])))
    have hp := List.length_pos_of_mem hx
    rw [List.length_erase_of_mem hx] at this
    simp only [List.length_cons]
    omega
theorem dropE_len {E : List (Nat × Nat)} {k : Nat} (hk : k < E.length) : (dropE E k).length = E.length - 1 := by
  unfold dropE
  rw [List.length_append, List.length_take, List.length_drop]
  omega
theorem dropE_mem {E : List (Nat × Nat)} (hn : E.Nodup) {k : Nat} (hk : k < E.length) {e : Nat × Nat} : e ∈ dropE E k ↔ e ∈ E ∧ e ≠ E.getD k (0, 0) := by
  have hd : E.drop k = E.getD k (0, 0) :: E.drop (k + 1) := by
    rw [List.drop_eq_getElem_cons hk, List.getD_eq_getElem?_getD, List.getElem?_eq_getElem hk]; rfl
  have hE : E = E.take k ++ E.getD k (0, 0) :: E.drop (k + 1) := by rw [← hd, List.take_append_drop]
  generalize E.getD k (0, 0) = g at hE
  have hn2 := hn
  rw [hE, List.nodup_append] at hn2
  obtain ⟨_, h2, h3⟩ := hn2
  have h4 := (List.nodup_cons.1 h2).1
  unfold dropE
  generalize E.take k = L at *
  generalize E.drop (k + 1) = R at *
  subst hE
  simp only [List.mem_append, List.mem_cons]
  constructor
  · rintro (h | h)
    · exact ⟨.inl h, fun x => h3 e h g (by simp) x⟩
    · exact ⟨.inr (.inr h), fun x => h4 (x ▸ h)⟩
  · rintro ⟨h | h | h, hne⟩
    · exact .inl h
    · exact absurd h hne
    · exact .inr h
theorem dropE_good {n : Nat} {E : List (Nat × Nat)} (h : Good n E) {k : Nat} (hk : k < E.length) : Good n (dropE E k) := by
  refine ⟨fun e he => h.lt e ((dropE_mem h.nodup hk).1 he).1, ?_⟩
  have hs : (dropE E k).Sublist E := by
    unfold dropE
    have := (List.Sublist.refl (E.take k)).append (List.drop_sublist_drop_left E (show k ≤ k + 1 by omega))
    rw [List.take_append_drop] at this
    exact this
  exact hs.nodup h.nodup
theorem getD_memE {E : List (Nat × Nat)} {k : Nat} (hk : k < E.length) : E.getD k (0, 0) ∈ E := by
  rw [List.getD_eq_getElem?_getD, List.getElem?_eq_getElem hk]
  exact List.getElem_mem hk
theorem numb_lt {A B n p : Nat} (hAB : A < B) (hB : B < n) (hp : p < n) : numb A B p < n - 1 := by
  unfold numb
  split
  · omega
  · split <;> omega
theorem numb_inj {A B p r : Nat} (hAB : A < B) (h : numb A B p = numb A B r) : p = r ∨ (p = A ∧ r = B) ∨ (p = B ∧ r = A) := by
  unfold numb at h
  split at h <;> split at h <;> (try split at h) <;> (try split at h) <;> omega
/-- What the merged feuds are: never a paint with itself. -/
theorem con_lt {n : Nat} {E : List (Nat × Nat)} (h : Good n E) {k : Nat} (hk : k < E.length) : ∀ e ∈ conE (E.getD k (0, 0)).1 (E.getD k (0, 0)).2 (dropE E k), e.1 < e.2 ∧ e.2 < n - 1 := by
  intro e he
  obtain ⟨f, hf, rfl⟩ := List.mem_map.1 he
  obtain ⟨hfE, hne⟩ := (dropE_mem h.nodup hk).1 hf
  have hg := h.lt _ (getD_memE hk)
  have hfl := h.lt f hfE
  have h1 := numb_lt hg.1 hg.2 (show f.1 < n by omega)
  have h2 := numb_lt hg.1 hg.2 hfl.2
  have h3 : numb (E.getD k (0, 0)).1 (E.getD k (0, 0)).2 f.1 ≠ numb (E.getD k (0, 0)).1 (E.getD k (0, 0)).2 f.2 := fun e => by
    rcases numb_inj hg.1 e with x | ⟨x, y⟩ | ⟨x, y⟩
    · omega
    · exact hne (Prod.ext x y)
    · omega
  dsimp only
  omega
theorem mem_mergeE {n : Nat} {E : List (Nat × Nat)} (h : Good n E) {k : Nat} (hk : k < E.length) {e : Nat × Nat} : e ∈ mergeE n E k ↔ e ∈ conE (E.getD k (0, 0)).1 (E.getD k (0, 0)).2 (dropE E k) := by
  unfold mergeE
  rw [mem_setE, decide_eq_true_eq]
  exact ⟨fun a => a.2.2, fun a => ⟨(con_lt h hk e a).1, (con_lt h hk e a).2, a⟩⟩
theorem mergeE_good (n : Nat) (E : List (Nat × Nat)) (k : Nat) : Good (n - 1) (mergeE n E k) := setE_good _ _
theorem mergeE_len {n : Nat} {E : List (Nat × Nat)} (h : Good n E) {k : Nat} (hk : k < E.length) : (mergeE n E k).length ≤ E.length - 1 := by
  have := nodup_lenE (mergeE_good n E k).nodup (fun e he => (mem_mergeE h hk).1 he)
  unfold conE at this
  rw [List.length_map, dropE_len hk] at this
  exact this
/-- The law of the counts: without a feud, less with its paints made one. -/
theorem cnt_drop {q n : Nat} {E : List (Nat × Nat)} (h : Good n E) {k : Nat} (hk : k < E.length) : cntE q n E = cntE q n (dropE E k) - cntE q (n - 1) (mergeE n E k) := by
  have hg := h.lt _ (getD_memE hk)
  obtain ⟨m, rfl⟩ : ∃ m, n = m + 1 := ⟨n - 1, by omega⟩
  have h1 := cnt_split (q := q) (n := m) hg.1 (by omega) (dropE E k)
  rw [Nat.add_sub_cancel] at *
  rw [cntE_mem (E := mergeE (m + 1) E k) (fun e => mem_mergeE h hk)]
  rw [cntE_mem (E := E) (E' := dropE E k ++ [((E.getD k (0, 0)).1, (E.getD k (0, 0)).2)]) (fun e => by
    rw [List.mem_append, dropE_mem h.nodup hk, List.mem_singleton]
    constructor
    · intro he
      by_cases x : e = E.getD k (0, 0)
      · exact .inr x
      · exact .inl ⟨he, x⟩
    · rintro (x | x)
      · exact x.1
      · rw [x]; exact getD_memE hk)]
  omega
/-! ### the terms -/
def xpow (n : Nat) : List Int := List.replicate n 0 ++ [1]
/-- The shorter list is taken off the longer one. -/
def offL (l m : List Int) : List Int := subL l (m ++ List.replicate (l.length - m.length) 0)
theorem offL_len {l m : List Int} (h : m.length ≤ l.length) : (offL l m).length = l.length := by
  unfold offL subL
  rw [List.length_zipWith, List.length_append, List.length_replicate]
  omega
theorem ev_off (x : Int) {l m : List Int} (h : m.length ≤ l.length) : ev (offL l m) x = ev l x - ev m x := by
  unfold offL
  rw [ev_sub x _ _ (by rw [List.length_append, List.length_replicate]; omega), ev_append_zero]
def termsF : Nat → Nat → List (Nat × Nat) → List Int
  | 0, n, _ => xpow n
  | f + 1, n, E => if E.length = 0 then xpow n else offL (termsF f n (dropE E (E.length - 1))) (termsF f (n - 1) (mergeE n E (E.length - 1)))
theorem xpow_len (n : Nat) : (xpow n).length = n + 1 := by simp [xpow]
theorem termsF_len : ∀ (f n : Nat) (E : List (Nat × Nat)), (termsF f n E).length = n + 1
  | 0, n, E => xpow_len n
  | f + 1, n, E => by
    unfold termsF
    split
    · exact xpow_len n
    · rw [offL_len (by rw [termsF_len f, termsF_len f]; omega), termsF_len f]
theorem ev_xpow (x : Int) : ∀ n, ev (xpow n) x = x ^ n
  | 0 => by show 1 + x * 0 = _; simp
  | n + 1 => by
    have e : xpow (n + 1) = 0 :: xpow n := by unfold xpow; rw [List.replicate_succ]; rfl
    rw [e, ev_shift, ev_xpow x n, Int.pow_succ, Int.mul_comm]
theorem cnt_none (q n : Nat) : cntE q n [] = ((q : Int)) ^ n := by
  unfold cntE
  have := sumL_one (q := q) n
  rw [Int.natCast_pow] at this
  rw [← this]
  exact sumL_congr fun l _ _ => rfl
theorem termsF_nil (f n : Nat) : termsF f n [] = xpow n := by
  cases f with
  | zero => rfl
  | succ f => unfold termsF; exact if_pos rfl
/-- The terms tell the number of shelvings. -/
theorem ev_terms (q : Nat) : ∀ (f n : Nat) (E : List (Nat × Nat)), Good n E → E.length ≤ f → ev (termsF f n E) q = cntE q n E
  | 0, n, E, h, hf => by
    have : E = [] := List.eq_nil_of_length_eq_zero (by omega)
    subst this
    rw [cnt_none]
    exact ev_xpow _ n
  | f + 1, n, E, h, hf => by
    unfold termsF
    by_cases e : E.length = 0
    · have : E = [] := List.eq_nil_of_length_eq_zero e
      subst this
      rw [if_pos e, cnt_none]
      exact ev_xpow _ n
    · have hk : E.length - 1 < E.length := by omega
      rw [if_neg e, ev_off _ (by rw [termsF_len, termsF_len]; omega), ev_terms q f n _ (dropE_good h hk) (by rw [dropE_len hk]; omega),
        ev_terms q f (n - 1) _ (mergeE_good n E _) (by have := mergeE_len h hk; omega), cnt_drop h hk]
theorem termsF_bound : ∀ (f n : Nat) (E : List (Nat × Nat)), ∀ a ∈ termsF f n E, -(2 ^ f : Int) ≤ a ∧ a ≤ (2 ^ f : Int)
  | 0, n, E => fun a ha => by
    unfold termsF xpow at ha
    rcases List.mem_append.1 ha with x | x
    · rw [List.eq_of_mem_replicate x]; decide
    · rw [List.mem_singleton.1 x]; decide
  | f + 1, n, E => fun a ha => by
    have h2 : (2 ^ (f + 1) : Int) = 2 ^ f + 2 ^ f := by rw [Int.pow_succ]; omega
    have hp : (1 : Int) ≤ 2 ^ f := by
      have : (0 : Int) < 2 ^ f := Int.pow_pos (by decide)
      omega
    unfold termsF at ha
    split at ha
    · unfold xpow at ha
      rcases List.mem_append.1 ha with x | x
      · rw [List.eq_of_mem_replicate x]; omega
      · rw [List.mem_singleton.1 x]; omega
    · have h4 : ∀ b, b ∈ termsF f (n - 1) (mergeE n E (E.length - 1)) ++ List.replicate ((termsF f n (dropE E (E.length - 1))).length - (termsF f (n - 1) (mergeE n E (E.length - 1))).length) 0 → -(2 ^ f : Int) ≤ b ∧ b ≤ (2 ^ f : Int) := fun b hb => by
        rcases List.mem_append.1 hb with x | x
        · exact termsF_bound f (n - 1) _ b x
        · rw [List.eq_of_mem_replicate x]; omega
      have h3 := termsF_bound f n (dropE E (E.length - 1))
      unfold offL at ha
      generalize termsF f (n - 1) (mergeE n E (E.length - 1)) ++ List.replicate ((termsF f n (dropE E (E.length - 1))).length - (termsF f (n - 1) (mergeE n E (E.length - 1))).length) 0 = P at *
      generalize termsF f n (dropE E (E.length - 1)) = L at *
      unfold subL at ha
      obtain ⟨i, hi, rfl⟩ := List.getElem_of_mem ha
      rw [List.getElem_zipWith]
      have hi2 := hi
      rw [List.length_zipWith] at hi2
      have h5 := h3 _ (List.getElem_mem (show i < L.length by omega))
      have h6 := h4 _ (List.getElem_mem (show i < P.length by omega))
      omega
end Go.Proofs.Ytpmjmhdofjbcbaa.H
