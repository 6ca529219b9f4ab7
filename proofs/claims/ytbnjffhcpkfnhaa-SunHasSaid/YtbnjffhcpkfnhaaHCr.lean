/- The document's sorted and Sum. -/
import Derived.Test.YtbnjffhcpkfnhaaQN1
import Derived.Test.YtbnjffhcpkfnhaaHCn
namespace Go.Proofs.Ytbnjffhcpkfnhaa.H
open Go.RowKit Go.Proofs.YtbnjffhcpkfnhaaW.PrintWords Go.Proofs.YtbnjffhcpkfnhaaW.PrintLast Go.Proofs.YtbnjffhcpkfnhaaW.PrintMore
set_option linter.unusedVariables false
set_option linter.unusedSimpArgs false
theorem getD_set (xs : List Int) (i : Nat) (v : Int) (j : Nat) (hj : j < xs.length) : (xs.set i v).getD j 0 = if j = i then v else xs.getD j 0 := by
  rw [List.getD_eq_getElem?_getD, List.getElem?_set, List.getD_eq_getElem?_getD]
  by_cases e : i = j
  · subst e; rw [if_pos rfl, if_pos hj, if_pos rfl]; rfl
  · rw [if_neg e, if_neg (fun x => e x.symm)]
theorem sorted_in {l : List Int} (h7 : l.length ≤ 7) (R : List Int) {i : Nat} (hi : i < l.length)
    (hR : ∀ xs : List Int, xs.Perm l → (∀ a b, a < b → b ≤ i → xs.getD a 0 ≤ xs.getD b 0) → Ev (fun f => QN.verditerref05_sorted.l0 f xs ((i + 1 : Nat) : Int)) R) :
    ∀ k, k ≤ i → ∀ xs : List Int, xs.Perm l → (∀ a b, a < b → b ≤ i → b ≠ k → xs.getD a 0 ≤ xs.getD b 0) → Ev (fun f => QN.verditerref05_sorted.l1 f xs (i : Int) (k : Int)) R := by
  intro k
  induction k with
  | zero =>
    intro _ xs hp hs
    have hl := hp.length_eq
    refine Ev.step (fun f => ?_) (hR xs hp (fun a b h1 h2 => hs a b h1 h2 (by omega)))
    simp only [QN.verditerref05_sorted.l1]
    rw [if_neg (by omega), wrap_nat (n := l.length) hi (by omega)]
  | succ k ih =>
    intro hk xs hp hs
    have hl := hp.length_eq
    have e1 : wrap64 (((k + 1 : Nat) : Int) - 1) = (k : Int) := by rw [wrap_small (by omega) (by omega)]; omega
    by_cases hlt : xs.getD (k + 1) 0 < xs.getD k 0
    · have hperm : ((xs.set (k + 1) (xs.getD k 0)).set k (xs.getD (k + 1) 0)).Perm l := by
        have := List.set_set_perm (show k + 1 < xs.length by omega) (show k < xs.length by omega)
        rw [List.getD_eq_getElem?_getD, List.getElem?_eq_getElem (show k < xs.length by omega), List.getD_eq_getElem?_getD, List.getElem?_eq_getElem (show k + 1 < xs.length by omega)]
        exact this.trans hp
      have hg : ∀ j, j < xs.length → ((xs.set (k + 1) (xs.getD k 0)).set k (xs.getD (k + 1) 0)).getD j 0 = if j = k then xs.getD (k + 1) 0 else if j = k + 1 then xs.getD k 0 else xs.getD j 0 := fun j hj => by
        rw [getD_set _ _ _ _ (by rw [List.length_set]; exact hj), getD_set _ _ _ _ hj]
      refine Ev.step (fun f => ?_) (ih (by omega) _ hperm (fun a b h1 h2 h3 => ?_))
      · simp only [QN.verditerref05_sorted.l1]
        rw [e1, if_pos (by omega), if_pos (by omega), if_pos (by omega), if_pos (by omega), if_pos (by omega), rd_nat, rd_nat, if_pos hlt, Int.toNat_natCast, Int.toNat_natCast]
      · rw [hg a (by omega), hg b (by omega)]
        by_cases b1 : b = k + 1
        · subst b1
          rw [if_neg h3, if_pos rfl]
          by_cases a1 : a = k
          · rw [if_pos a1]; omega
          · rw [if_neg a1, if_neg (by omega)]
            exact hs a k (by omega) (by omega) (by omega)
        · rw [if_neg h3, if_neg b1]
          by_cases a1 : a = k
          · rw [if_pos a1]
            exact hs (k + 1) b (by omega) h2 b1
          · rw [if_neg a1]
            by_cases a2 : a = k + 1
            · rw [if_pos a2]; exact hs k b (by omega) h2 b1
            · rw [if_neg a2]; exact hs a b h1 h2 b1
    · refine Ev.step (fun f => ?_) (hR xs hp (fun a b h1 h2 => ?_))
      · simp only [QN.verditerref05_sorted.l1]
        rw [e1, if_pos (by omega), if_pos (by omega), if_pos (by omega), if_pos (by omega), if_pos (by omega), rd_nat, rd_nat, if_neg hlt, wrap_nat (n := l.length) hi (by omega)]
      · by_cases b1 : b = k + 1
        · subst b1
          by_cases a1 : a = k
          · subst a1; omega
          · have := hs a k (by omega) (by omega) (by omega)
            omega
        · exact hs a b h1 h2 b1
theorem Ev_sorted {l : List Int} (h7 : l.length ≤ 7) : Ev (fun f => QN.verditerref05_sorted.f f l) (ascL l) := by
  have l0 : ∀ d i, i + d = l.length → ∀ xs : List Int, xs.Perm l → (∀ a b, a < b → b < i → xs.getD a 0 ≤ xs.getD b 0) → Ev (fun f => QN.verditerref05_sorted.l0 f xs (i : Int)) (ascL l) := by
    intro d
    induction d with
    | zero =>
      intro i hi xs hp hs
      obtain rfl : i = l.length := by omega
      have hl := hp.length_eq
      have e : xs = ascL l := List.Perm.eq_of_pairwise (le := fun x y => x ≤ y) (fun a b _ _ h3 h4 => by omega) (by
        rw [List.pairwise_iff_getElem]
        intro a b ha hb hab
        have := hs a b hab (by omega)
        rw [List.getD_eq_getElem?_getD, List.getElem?_eq_getElem ha, List.getD_eq_getElem?_getD, List.getElem?_eq_getElem hb] at this
        exact this) (asc_up l) (hp.trans (List.mergeSort_perm l _).symm)
      rw [← e]
      refine Ev.step (fun f => ?_) (Ev.now _)
      simp only [QN.verditerref05_sorted.l0]
      rw [if_neg (by omega)]
    | succ d ih =>
      intro i hi xs hp hs
      have hl := hp.length_eq
      refine Ev.step (fun f => ?_) (sorted_in h7 (ascL l) (show i < l.length by omega) (fun ys h1 h2 => ih (i + 1) (by omega) ys h1 (fun a b h3 h4 => h2 a b h3 (by omega))) i (Nat.le_refl _) xs hp (fun a b h1 h2 h3 => hs a b h1 (by omega)))
      simp only [QN.verditerref05_sorted.l0]
      rw [if_pos (by omega)]
  refine Ev.congr (fun f => ?_) (l0 l.length 0 (by omega) l (List.Perm.refl _) (fun a b _ h => absurd h (by omega)))
  simp only [QN.verditerref05_sorted.f, Option.bind_some, List.nil_append, List.length_nil]
  rw [if_pos (by omega)]
  rfl
theorem Ev_Sum (l : List Int) (h7 : l.length ≤ 7) (hb : ∀ x ∈ l, 0 ≤ x ∧ x ≤ 7) : Ev (fun f => QN.verditerref01_Sum.f f l) l.sum := by
  have bnd : ∀ i, i ≤ l.length → 0 ≤ (l.take i).sum ∧ (l.take i).sum ≤ 7 * i := by
    intro i
    induction i with
    | zero => intro _; simp
    | succ i ih =>
      intro hi
      have h1 := ih (by omega)
      have h2 := hb _ (List.getElem_mem (show i < l.length by omega))
      rw [List.take_succ_eq_append_getElem (by omega), List.sum_append]
      simp
      omega
  have l0 : ∀ d i, i + d = l.length → Ev (fun f => QN.verditerref01_Sum.l0 f l (l.take i).sum (i : Int)) l.sum := by
    intro d
    induction d with
    | zero =>
      intro i hi
      obtain rfl : i = l.length := by omega
      refine Ev.step (fun f => ?_) (Ev.now _)
      simp only [QN.verditerref01_Sum.l0]
      rw [if_neg (by omega), List.take_length]
    | succ d ih =>
      intro i hi
      have h1 := bnd (i + 1) (by omega)
      have e : (l.take (i + 1)).sum = (l.take i).sum + l.getD i 0 := by
        rw [List.take_succ_eq_append_getElem (by omega), List.sum_append, List.getD_eq_getElem?_getD, List.getElem?_eq_getElem (by omega)]
        simp
      refine Ev.step (fun f => ?_) (ih (i + 1) (by omega))
      simp only [QN.verditerref01_Sum.l0]
      rw [if_pos (by omega), if_pos (by omega), rd_nat, ← e, wrap_small (x := (l.take (i + 1)).sum) (by omega) (by omega), wrap_nat (n := l.length) (by omega) (by omega)]
  exact l0 l.length 0 (by omega)
end Go.Proofs.Ytbnjffhcpkfnhaa.H
