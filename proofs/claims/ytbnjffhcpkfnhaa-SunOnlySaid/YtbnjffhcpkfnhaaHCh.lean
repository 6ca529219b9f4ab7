/- Orders in which each strip beats the next one: sun.Row makes one; without rings there is just one. -/
import Derived.Test.YtbnjffhcpkfnhaaHRow
import Derived.Test.YtbnjffhcpkfnhaaHRg
import Derived.Test.YtbnjffhcpkfnhaaHQ
namespace Go.Proofs.Ytbnjffhcpkfnhaa.H
open Go.RowKit Go.Proofs.YtbnjffhcpkfnhaaW.PrintWords Go.Proofs.YtbnjffhcpkfnhaaW.PrintLast Go.Proofs.YtbnjffhcpkfnhaaW.PrintMore
set_option linter.unusedVariables false
set_option linter.unusedSimpArgs false
theorem perm_sum {l m : List Int} (h : l.Perm m) : l.sum = m.sum := by
  induction h with
  | nil => rfl
  | cons x _ ih => rw [List.sum_cons, List.sum_cons, ih]
  | swap x y l => simp only [List.sum_cons]; omega
  | trans _ _ ih1 ih2 => rw [ih1, ih2]
theorem over_perm {t : List (List Int)} {l m : List Int} (h : l.Perm m) (x : Int) : over t l x = over t m x := by
  unfold over
  exact perm_sum (h.map _)
theorem ups_swap (t : List (List Int)) (x y : Int) (b : List Int) : ∀ a : List Int, ups t (a ++ x :: y :: b) + ent t x.toNat y.toNat = ups t (a ++ y :: x :: b) + ent t y.toNat x.toNat
  | [] => by
    simp only [List.nil_append, ups, over, List.map_cons, List.sum_cons]
    omega
  | z :: a => by
    have ih := ups_swap t x y b a
    have hp : (a ++ x :: y :: b).Perm (a ++ y :: x :: b) := List.Perm.append_left a (List.Perm.swap y x b)
    simp only [List.cons_append, ups, over_perm hp z]
    omega
theorem best_next {t : List (List Int)} (h : Right t) {p : List Int} (ho : Order t.length p) (hm : ∀ q, Order t.length q → ups t p ≤ ups t q) (i : Nat) (hi : i + 1 < p.length) : ent t (p.getD i 0).toNat (p.getD (i + 1) 0).toNat = 1 := by
  have e : p = p.take i ++ p.getD i 0 :: p.getD (i + 1) 0 :: p.drop (i + 2) := by
    rw [List.getD_eq_getElem?_getD, List.getElem?_eq_getElem (show i < p.length by omega), List.getD_eq_getElem?_getD, List.getElem?_eq_getElem hi]
    simp only [Option.getD_some]
    rw [← List.drop_eq_getElem_cons hi, ← List.drop_eq_getElem_cons (show i < p.length by omega), List.take_append_drop]
  obtain ⟨x, hx⟩ : ∃ x, p.getD i 0 = x := ⟨_, rfl⟩
  obtain ⟨y, hy⟩ : ∃ y, p.getD (i + 1) 0 = y := ⟨_, rfl⟩
  rw [hx, hy] at e ⊢
  have hs := ups_swap t x y (p.drop (i + 2)) (p.take i)
  have hq : Order t.length (p.take i ++ y :: x :: p.drop (i + 2)) := (List.Perm.append_left _ (List.Perm.swap x y _)).trans (by rw [← e]; exact ho)
  have hle := hm _ hq
  rw [← e] at hs
  have hxm := ho.mem.1 (show x ∈ p by rw [e]; simp)
  have hym := ho.mem.1 (show y ∈ p by rw [e]; simp)
  have hne : x.toNat ≠ y.toNat := fun e2 => by
    have hn := ho.nodup
    rw [e, List.nodup_append] at hn
    have := (List.nodup_cons.1 hn.2.1).1
    exact this (by have : x = y := by omega
                   rw [this]; simp)
  have ha := h.anti x.toNat y.toNat (by omega) (by omega) hne
  rcases h.bit x.toNat y.toNat with b | b
  · exfalso; omega
  · exact b

theorem ringSum_zero {t : List (List Int)} (h : Right t) : ringSum t = 0 ↔ ∀ i, i < t.length → ∀ k, k < t.length → ∀ m, m < t.length → ringT3 t i k m = 0 := by
  have z : ∀ (n : Nat) (f : Nat → Int), (∀ i, i < n → 0 ≤ f i) → (sumTo f n = 0 ↔ ∀ i, i < n → f i = 0) := by
    intro n f
    induction n with
    | zero => intro _; simp [sumTo]
    | succ n ih =>
      intro h0
      have h1 := sumTo_nonneg (f := f) (n := n) (fun i hi => h0 i (by omega))
      have h2 := h0 n (by omega)
      have := ih (fun i hi => h0 i (by omega))
      simp only [sumTo]
      constructor
      · intro e i hi
        by_cases e2 : i = n
        · subst e2; omega
        · exact this.1 (by omega) i (by omega)
      · intro e
        rw [this.2 (fun i hi => e i (by omega)), e n (by omega)]; rfl
  have n0 := fun i k m => (ringT3_bit h i k m).1
  unfold ringSum
  rw [z _ _ (fun i _ => sumTo_nonneg fun k _ => sumTo_nonneg fun m _ => n0 i k m)]
  constructor
  · intro e i hi k hk m hm
    have e1 := e i hi
    rw [z _ _ (fun k _ => sumTo_nonneg fun m _ => n0 i k m)] at e1
    have e2 := e1 k hk
    rw [z _ _ (fun m _ => n0 i k m)] at e2
    exact e2 m hm
  · intro e i hi
    rw [z _ _ (fun k _ => sumTo_nonneg fun m _ => n0 i k m)]
    intro k hk
    rw [z _ _ (fun m _ => n0 i k m)]
    exact fun m hm => e i hi k hk m hm
/-- Each strip beats the next one. -/
def Chain (t : List (List Int)) (p : List Int) : Prop := ∀ i, i + 1 < p.length → ent t (p.getD i 0).toNat (p.getD (i + 1) 0).toNat = 1

theorem insL_perm (l : List Int) (k : Nat) (x : Int) : (insL l k x).Perm (x :: l) := by
  unfold insL
  refine (List.perm_middle).trans (List.Perm.cons x ?_)
  rw [List.take_append_drop]
theorem rowTo_order (t : List (List Int)) : ∀ i, Order i (rowTo t i)
  | 0 => List.Perm.refl _
  | i + 1 => by
    unfold rowTo Order
    refine (insL_perm _ _ _).trans ((List.Perm.cons _ (rowTo_order t i)).trans ?_)
    have e : nums0 (i + 1) = nums0 i ++ [(i : Int)] := by simp [nums0, List.range_succ]
    rw [e]
    exact List.perm_append_comm (l₁ := [(i : Int)])
theorem idxF_no {p : Int → Bool} {l : List Int} (h : idxF p l < 0) : ∀ j, j < l.length → p (l.getD j 0) = false := by
  unfold idxF at h
  split at h
  · omega
  · rename_i e
    rw [List.findIdx?_eq_none_iff] at e
    intro j hj
    exact e _ (getD_mem hj)
theorem idxF_yes {p : Int → Bool} {l : List Int} (h : ¬ idxF p l < 0) : (idxF p l).toNat < l.length ∧ p (l.getD (idxF p l).toNat 0) = true ∧ ∀ j, j < (idxF p l).toNat → p (l.getD j 0) = false := by
  unfold idxF at h ⊢
  split at h
  · rename_i i e
    obtain ⟨hi, h1, h2⟩ := List.findIdx?_eq_some_iff_getElem.1 e
    simp only [e, Int.ofNat_eq_natCast, Int.toNat_natCast]
    refine ⟨hi, by simpa [hi] using h1, fun j hj => ?_⟩
    have := h2 j hj
    have hj2 : j < l.length := by omega
    simpa [hj2] using this
  · omega
theorem insL_get (l : List Int) (k : Nat) (x : Int) (hk : k ≤ l.length) (j : Nat) : (insL l k x).getD j 0 = if j < k then l.getD j 0 else if j = k then x else l.getD (j - 1) 0 := by
  unfold insL
  have hlen : (l.take k).length = k := by rw [List.length_take]; omega
  simp only [List.getD_eq_getElem?_getD]
  by_cases h1 : j < k
  · rw [if_pos h1, List.getElem?_append_left (by omega), List.getElem?_take, if_pos h1]
  · rw [if_neg h1, List.getElem?_append_right (by omega), hlen]
    by_cases h2 : j = k
    · rw [if_pos h2, h2, Nat.sub_self]; rfl
    · rw [if_neg h2]
      obtain ⟨d, rfl⟩ : ∃ d, j = k + 1 + d := ⟨j - k - 1, by omega⟩
      rw [show k + 1 + d - k = d + 1 by omega, List.getElem?_cons_succ, List.getElem?_drop, show k + d = k + 1 + d - 1 by omega]
theorem rowTo_chain {t : List (List Int)} (h : Right t) : ∀ i, i ≤ t.length → Chain t (rowTo t i)
  | 0, _ => fun j hj => by simp [rowTo] at hj
  | i + 1, hi => by
    have ih := rowTo_chain h i (by omega)
    have hlen := rowTo_len t i
    have hmem := rowTo_mem t i
    have hple := placeR_le t i (rowTo t i)
    have hno : ∀ j, j < placeR t i (rowTo t i) → hitsB t i ((rowTo t i).getD j 0) = false := by
      unfold placeR
      split
      · rename_i e; exact idxF_no e
      · rename_i e; exact (idxF_yes e).2.2
    have hyes : placeR t i (rowTo t i) < (rowTo t i).length → hitsB t i ((rowTo t i).getD (placeR t i (rowTo t i)) 0) = true := by
      unfold placeR
      split
      · intro e; omega
      · rename_i e; exact fun _ => (idxF_yes e).2.1
    intro j hj
    rw [show rowTo t (i + 1) = insL (rowTo t i) (placeR t i (rowTo t i)) i from rfl] at hj ⊢
    rw [insL_len _ _ _ hple] at hj
    rw [insL_get _ _ _ hple, insL_get _ _ _ hple]
    generalize rowTo t i = l at *
    generalize placeR t i l = k at *
    have other : ∀ a, a < l.length → ent t i (l.getD a 0).toNat = 0 → ent t (l.getD a 0).toNat i = 1 := fun a ha e => by
      have hm := hmem _ (getD_mem ha)
      have := h.anti i (l.getD a 0).toNat (by omega) (by omega) (by omega)
      omega
    by_cases h1 : j + 1 < k
    · rw [if_pos (by omega), if_pos h1]; exact ih j (by omega)
    · rw [if_neg h1]
      by_cases h2 : j + 1 = k
      · rw [if_pos (by omega), if_pos h2, Int.toNat_natCast]
        refine other j (by omega) ?_
        have := hno j (by omega)
        have hb := h.bit i (l.getD j 0).toNat
        unfold hitsB at this
        have := of_decide_eq_false this
        omega
      · rw [if_neg h2]
        by_cases h3 : j = k
        · rw [if_neg (by omega), if_pos h3, Int.toNat_natCast, show j + 1 - 1 = k by omega]
          have := hyes (by omega)
          unfold hitsB at this
          exact of_decide_eq_true this
        · rw [if_neg (by omega), if_neg h3]
          have := ih (j - 1) (by omega)
          rw [show j - 1 + 1 = j by omega] at this
          rw [show j + 1 - 1 = j by omega]
          exact this
/-- Without rings, in an order in which each beats the next one each beats all behind it. -/
theorem Chain.far {t : List (List Int)} (h : Right t) (hr : ringsN t = 0) {p : List Int} (ho : Order t.length p) (hc : Chain t p) : p.Pairwise fun x y => ent t x.toNat y.toNat = 1 := by
  have hno := (ringSum_zero h).1 (by rw [h.rings, hr]; rfl)
  have hin : ∀ a, a < p.length → (p.getD a 0).toNat < t.length := fun a ha => by have := ho.mem.1 (getD_mem ha); omega
  have far : ∀ d a, a + d + 1 < p.length → ent t (p.getD a 0).toNat (p.getD (a + d + 1) 0).toNat = 1 := by
    intro d
    induction d with
    | zero => intro a ha; exact hc a ha
    | succ d ih =>
      intro a ha
      have h1 := ih a (by omega)
      have h2 := hc (a + d + 1) (by omega)
      have h3 := hno _ (hin a (by omega)) _ (hin (a + d + 1) (by omega)) _ (hin (a + d + 1 + 1) (by omega))
      unfold ringT3 at h3
      rw [h1, h2] at h3
      have hne : (p.getD a 0).toNat ≠ (p.getD (a + d + 1 + 1) 0).toNat := fun e2 => by
        have hnd := ho.nodup
        unfold List.Nodup at hnd
        rw [List.pairwise_iff_getElem] at hnd
        have := hnd a (a + d + 1 + 1) (by omega) (by omega) (by omega)
        have h5 := ho.mem.1 (getD_mem (show a < p.length by omega))
        have h6 := ho.mem.1 (getD_mem (show a + d + 1 + 1 < p.length by omega))
        rw [List.getD_eq_getElem?_getD, List.getElem?_eq_getElem (show a < p.length by omega), List.getD_eq_getElem?_getD, List.getElem?_eq_getElem (show a + d + 1 + 1 < p.length by omega)] at e2
        rw [List.getD_eq_getElem?_getD, List.getElem?_eq_getElem (show a < p.length by omega)] at h5
        rw [List.getD_eq_getElem?_getD, List.getElem?_eq_getElem (show a + d + 1 + 1 < p.length by omega)] at h6
        simp only [Option.getD_some] at e2 h5 h6
        omega
      have ha2 := h.anti _ _ (hin a (by omega)) (hin (a + d + 1 + 1) (by omega)) hne
      show ent t (p.getD a 0).toNat (p.getD (a + d + 1 + 1) 0).toNat = 1
      omega
  rw [List.pairwise_iff_getElem]
  intro a b ha hb hab
  have h1 := far (b - a - 1) a (by omega)
  rw [show a + (b - a - 1) + 1 = b by omega] at h1
  rw [List.getD_eq_getElem?_getD, List.getElem?_eq_getElem ha, List.getD_eq_getElem?_getD, List.getElem?_eq_getElem hb] at h1
  simpa only [Option.getD_some] using h1
theorem Chain.one {t : List (List Int)} (h : Right t) (hr : ringsN t = 0) {p q : List Int} (ho : Order t.length p) (hc : Chain t p) (ho2 : Order t.length q) (hc2 : Chain t q) : p = q := by
  refine List.Perm.eq_of_pairwise (fun a b ha hb h1 h2 => ?_) (hc.far h hr ho) (hc2.far h hr ho2) (ho.trans ho2.symm)
  have h5 := ho.mem.1 ha
  have h6 := ho2.mem.1 hb
  by_cases e : a = b
  · exact e
  · have := h.anti a.toNat b.toNat (by omega) (by omega) (by omega)
    omega
end Go.Proofs.Ytbnjffhcpkfnhaa.H
