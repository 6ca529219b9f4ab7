/- The groups, in the code and in the document, are the same lists. -/
import Derived.Test.YtbnjffhcpkfnhaaHWa
import Derived.Test.YtbnjffhcpkfnhaaHGr
namespace Go.Proofs.Ytbnjffhcpkfnhaa.H
open Classical Go.RowKit Go.Proofs.YtbnjffhcpkfnhaaW.PrintWords Go.Proofs.YtbnjffhcpkfnhaaW.PrintLast Go.Proofs.YtbnjffhcpkfnhaaW.PrintMore
set_option linter.unusedVariables false
set_option linter.unusedSimpArgs false
/-! ### where a group ends -/
theorem sumTo_split (f : Nat → Int) (m : Nat) : ∀ d, sumTo f (m + d) = sumTo f m + sumTo (fun j => f (m + j)) d
  | 0 => by simp [sumTo]
  | d + 1 => by
    have := sumTo_split f m d
    rw [← Nat.add_assoc]
    simp only [sumTo]
    omega
theorem sumTo_none {f : Nat → Int} : ∀ {n : Nat}, (∀ i, i < n → 0 ≤ f i) → (sumTo f n = 0 ↔ ∀ i, i < n → f i = 0)
  | 0, _ => by simp [sumTo]
  | n + 1, h => by
    have ih := sumTo_none (f := f) (n := n) (fun i hi => h i (by omega))
    have h1 := sumTo_nonneg (f := f) (n := n) (fun i hi => h i (by omega))
    have h2 := h n (by omega)
    simp only [sumTo]
    constructor
    · intro e i hi
      by_cases e2 : i = n
      · subst e2; omega
      · exact ih.1 (by omega) i (by omega)
    · intro e
      rw [ih.2 (fun i hi => e i (by omega)), e n (by omega)]; rfl
theorem inner_pairs {t : List (List Int)} (h : Right t) {L : List Int} (F : Fall t L) : ∀ m, m ≤ t.length → 2 * sumTo (fun a => sumTo (fun b => ent t (at_ L a) (at_ L b)) m) m = (m : Int) * ((m : Int) - 1)
  | 0, _ => by simp [sumTo]
  | m + 1, hm => by
    have ih := inner_pairs h F m (by omega)
    have e1 : sumTo (fun a => sumTo (fun b => ent t (at_ L a) (at_ L b)) (m + 1)) m = sumTo (fun a => sumTo (fun b => ent t (at_ L a) (at_ L b)) m) m + sumTo (fun a => ent t (at_ L a) (at_ L m)) m := by
      rw [← sumTo_add]
      exact sumTo_congr fun a _ => rfl
    have e2 : sumTo (fun a => ent t (at_ L a) (at_ L m)) m + sumTo (fun b => ent t (at_ L m) (at_ L b)) m = m := by
      rw [← sumTo_add]
      have : sumTo (fun i => ent t (at_ L i) (at_ L m) + ent t (at_ L m) (at_ L i)) m = sumTo (fun _ => (1 : Int)) m := sumTo_congr fun i hi =>
        h.anti _ _ (F.lt (by omega)) (F.lt (by omega)) (fun e => by have := F.inj (by omega) (by omega) e; omega)
      rw [this, sumTo_const]; omega
    have e3 := h.diag (at_ L m)
    have e4 : sumTo (fun a => sumTo (fun b => ent t (at_ L a) (at_ L b)) (m + 1)) (m + 1) = sumTo (fun a => sumTo (fun b => ent t (at_ L a) (at_ L b)) (m + 1)) m + (sumTo (fun b => ent t (at_ L m) (at_ L b)) m + ent t (at_ L m) (at_ L m)) := rfl
    rw [e4, e1]
    have e5 : ((m + 1 : Nat) : Int) * (((m + 1 : Nat) : Int) - 1) = (m : Int) * ((m : Int) - 1) + 2 * m := by
      rw [Int.natCast_add]
      simp only [Int.natCast_one, Int.add_mul, Int.mul_sub, Int.sub_mul, Int.mul_one, Int.one_mul, Int.mul_add, Int.add_sub_cancel]
      omega
    omega
def winTo (t : List (List Int)) (L : List Int) (m : Nat) : Int := sumTo (fun a => winOf t (at_ L a)) m
theorem cut_iff {t : List (List Int)} (h : Right t) {L : List Int} (F : Fall t L) {m : Nat} (hm : m ≤ t.length) : 2 * winTo t L m = (m : Int) * ((m : Int) - 1) + 2 * ((m : Int) * ((t.length : Int) - m)) ↔ Dom t L m := by
  obtain ⟨d, hd⟩ : ∃ d, t.length = m + d := ⟨t.length - m, by omega⟩
  have e1 : winTo t L m = sumTo (fun a => sumTo (fun b => ent t (at_ L a) (at_ L b)) m) m + sumTo (fun a => sumTo (fun j => ent t (at_ L a) (at_ L (m + j))) d) m := by
    unfold winTo
    rw [← sumTo_add]
    refine sumTo_congr fun a ha => ?_
    unfold winOf
    rw [← sumTo_order F.ord (fun k => ent t (at_ L a) k), hd]
    exact sumTo_split _ m d
  have e2 := inner_pairs h F m hm
  have e3 : sumTo (fun a => sumTo (fun j => ent t (at_ L a) (at_ L (m + j))) d) m + sumTo (fun a => sumTo (fun j => 1 - ent t (at_ L a) (at_ L (m + j))) d) m = (m : Int) * d := by
    rw [← sumTo_add]
    rw [show sumTo (fun i => sumTo (fun j => ent t (at_ L i) (at_ L (m + j))) d + sumTo (fun j => 1 - ent t (at_ L i) (at_ L (m + j))) d) m = sumTo (fun _ => (d : Int)) m from sumTo_congr fun i _ => by
      rw [← sumTo_add]
      rw [show sumTo (fun j => ent t (at_ L i) (at_ L (m + j)) + (1 - ent t (at_ L i) (at_ L (m + j)))) d = sumTo (fun _ => (1 : Int)) d from sumTo_congr fun j _ => by omega, sumTo_const]; omega]
    rw [sumTo_const]
  have e4 : ((t.length : Int) - m) = d := by omega
  have nn : ∀ a, 0 ≤ sumTo (fun j => 1 - ent t (at_ L a) (at_ L (m + j))) d := fun a => sumTo_nonneg fun j _ => by rcases h.bit (at_ L a) (at_ L (m + j)) with e | e <;> omega
  rw [e4, e1]
  have e5 : (2 * (sumTo (fun a => sumTo (fun b => ent t (at_ L a) (at_ L b)) m) m + sumTo (fun a => sumTo (fun j => ent t (at_ L a) (at_ L (m + j))) d) m) = (m : Int) * ((m : Int) - 1) + 2 * ((m : Int) * d)) ↔ sumTo (fun a => sumTo (fun j => 1 - ent t (at_ L a) (at_ L (m + j))) d) m = 0 := by
    generalize sumTo (fun a => sumTo (fun j => 1 - ent t (at_ L a) (at_ L (m + j))) d) m = Z at *
    generalize sumTo (fun a => sumTo (fun j => ent t (at_ L a) (at_ L (m + j))) d) m = Y at *
    generalize sumTo (fun a => sumTo (fun b => ent t (at_ L a) (at_ L b)) m) m = X at *
    generalize (m : Int) * ((m : Int) - 1) = P at *
    generalize (m : Int) * d = Q at *
    omega
  rw [e5, sumTo_none (fun a _ => nn a)]
  constructor
  · intro e a ha b hb hbn
    have := e a ha
    rw [sumTo_none (fun j _ => by rcases h.bit (at_ L a) (at_ L (m + j)) with e | e <;> omega)] at this
    have := this (b - m) (by omega)
    rw [show m + (b - m) = b by omega] at this
    omega
  · intro hD a ha
    rw [sumTo_none (fun j _ => by rcases h.bit (at_ L a) (at_ L (m + j)) with e | e <;> omega)]
    intro j hj
    have := hD a ha (m + j) (by omega) (by omega)
    omega
theorem cut_num : ∀ n : Nat, n ≤ 7 → ∀ k : Nat, k < n → 2 * (wrap64 (wrap64 (Int.tdiv (wrap64 (((k : Int) + 1) * k)) 2) + wrap64 (((k : Int) + 1) * ((n : Int) - ((k : Int) + 1))))) = ((k : Int) + 1) * k + 2 * (((k : Int) + 1) * ((n : Int) - ((k : Int) + 1))) := by decide +kernel
theorem cutW_iff {t : List (List Int)} (h : Right t) {L : List Int} (F : Fall t L) {k : Nat} (hk : k < t.length) : cutW (winTo t L (k + 1)) k t.length ↔ Dom t L (k + 1) := by
  rw [← cut_iff h F (show k + 1 ≤ t.length by omega)]
  have := cut_num t.length h.len k hk
  unfold cutW
  have e1 : ((k + 1 : Nat) : Int) = (k : Int) + 1 := by omega
  rw [e1, show (k : Int) + 1 - 1 = k by omega]
  generalize wrap64 (wrap64 (Int.tdiv (wrap64 (((k : Int) + 1) * k)) 2) + wrap64 (((k : Int) + 1) * ((t.length : Int) - ((k : Int) + 1)))) = W at *
  generalize ((k : Int) + 1) * k = P at *
  generalize ((k : Int) + 1) * ((t.length : Int) - ((k : Int) + 1)) = Q at *
  omega
/-! ### the last cut -/
theorem last_cut (t : List (List Int)) (L : List Int) : ∀ a, ∃ s, s ≤ a ∧ Dom t L s ∧ ∀ j, s < j → j ≤ a → ¬ Dom t L j
  | 0 => ⟨0, Nat.le_refl _, Dom.zero t L, fun j h1 h2 => by omega⟩
  | a + 1 => by
    by_cases e : Dom t L (a + 1)
    · exact ⟨a + 1, Nat.le_refl _, e, fun j h1 h2 => by omega⟩
    · obtain ⟨s, h1, h2, h3⟩ := last_cut t L a
      refine ⟨s, by omega, h2, fun j h4 h5 => ?_⟩
      by_cases e2 : j = a + 1
      · subst e2; exact e
      · exact h3 j h4 (by omega)
def cntTo (t : List (List Int)) (i m : Nat) : Int := sumTo (fun k => if rc t i k = true then 1 else 0) m
theorem sumTo_from (s : Nat) : ∀ n, s ≤ n → sumTo (fun b => if s ≤ b then (1 : Int) else 0) n = (n : Int) - s := by
  intro n
  induction n with
  | zero => intro h; obtain rfl : s = 0 := by omega
            simp [sumTo]
  | succ n ih =>
    intro h
    simp only [sumTo]
    by_cases e : s = n + 1
    · subst e
      rw [show sumTo (fun b => if n + 1 ≤ b then (1 : Int) else 0) n = sumTo (fun _ => (0 : Int)) n from sumTo_congr fun i hi => if_neg (by omega), sumTo_zero, if_neg (by omega)]
      omega
    · rw [ih (by omega), if_pos (by omega)]; omega
theorem cnt_at {t : List (List Int)} (h : Right t) {L : List Int} (F : Fall t L) {s a : Nat} (ha : a < t.length) (hsa : s ≤ a) (hD : Dom t L s) (hlast : ∀ j, s < j → j ≤ a → ¬ Dom t L j) : cntTo t (at_ L a) t.length = (t.length : Int) - s := by
  unfold cntTo
  rw [← sumTo_order F.ord (fun k => if rc t (at_ L a) k = true then 1 else 0)]
  rw [← sumTo_from s t.length (by omega)]
  refine sumTo_congr fun b hb => ?_
  have := reach_iff h F ha hsa hD hlast hb
  show (if rc t (at_ L a) (at_ L b) = true then (1 : Int) else 0) = _
  by_cases e : s ≤ b
  · rw [if_pos (this.2 e), if_pos e]
  · rw [if_neg (fun x => e (this.1 x)), if_neg e]
theorem grp_same {t : List (List Int)} {i j : Nat} (hi : i < t.length) (hj : j < t.length) (h1 : rc t i j = true) (h2 : rc t j i = true) : grpL t i = grpL t j := by
  unfold grpL grpTo
  congr 1
  refine List.filter_congr fun k hk => ?_
  rw [Bool.eq_iff_iff]
  simp only [Bool.and_eq_true]
  constructor
  · rintro ⟨a, b⟩; exact ⟨rc_trans hi h2 a, rc_trans hi b h1⟩
  · rintro ⟨c, d⟩; exact ⟨rc_trans hj h1 c, rc_trans hj d h2⟩
/-! ### the lists -/
/-- The group that begins at a place. -/
noncomputable def segAt (t : List (List Int)) (L : List Int) (s : Nat) : List (List Int) := if Dom t L s then [grpL t (at_ L s)] else []
theorem nodup_len {l m : List Int} (hn : l.Nodup) (hs : ∀ x ∈ l, x ∈ m) : l.length ≤ m.length := by
  induction l generalizing m with
  | nil => exact Nat.zero_le _
  | cons x l ih =>
    have hx : x ∈ m := hs x (by simp)
    have := ih (m := m.erase x) (List.nodup_cons.1 hn).2 (fun y hy => by
      have hne : y ≠ x := fun e => (List.nodup_cons.1 hn).1 (e ▸ hy)
      exact (List.mem_erase_of_ne hne).2 (hs y (by simp [hy])))
    have hp := List.length_pos_of_mem hx
    rw [List.length_erase_of_mem hx] at this
    simp only [List.length_cons]
    omega
theorem grp_up (t : List (List Int)) (i : Nat) : (grpL t i).Pairwise fun x y => x < y := by
  unfold grpL grpTo
  rw [List.pairwise_map]
  refine List.Pairwise.filter _ ?_
  refine (List.pairwise_lt_range (n := t.length)).imp fun h => ?_
  simp only [Int.ofNat_eq_natCast]
  omega
theorem grp_nodup (t : List (List Int)) (i : Nat) : (grpL t i).Nodup := (grp_up t i).imp fun h e => by omega
theorem asc_grp {t : List (List Int)} {i : Nat} {l : List Int} (hn : l.Nodup) (hm : ∀ x, x ∈ l ↔ x ∈ grpL t i) : ascL l = grpL t i := by
  have hp : l.Perm (grpL t i) := (perm_of_cover (grp_nodup t i) (fun x hx => (hm x).2 hx) (nodup_len hn fun x hx => (hm x).1 hx))
  have h1 : (ascL l).Perm l := List.mergeSort_perm l _
  have h2 : (ascL l).Pairwise fun x y => x ≤ y := by
    have := List.pairwise_mergeSort (le := fun x y : Int => decide (x ≤ y)) (fun a b c h1 h2 => by have := of_decide_eq_true h1; have := of_decide_eq_true h2; exact decide_eq_true (by omega)) (fun a b => by
      rw [Bool.or_eq_true, decide_eq_true_eq, decide_eq_true_eq]; omega) l
    exact this.imp fun h => of_decide_eq_true h
  exact List.Perm.eq_of_pairwise (fun a b _ _ h3 h4 => by omega) h2 ((grp_up t i).imp fun h => by omega) (h1.trans hp)
/-- A group's members, by their places. -/
theorem mem_seg {t : List (List Int)} (h : Right t) {L : List Int} (F : Fall t L) {s k : Nat} (hs : s ≤ k) (hk : k < t.length) (hD : Dom t L s) (hD2 : Dom t L (k + 1)) (hno : ∀ j, s < j → j ≤ k → ¬ Dom t L j) {x : Int} : x ∈ (L.drop s).take (k + 1 - s) ↔ x ∈ grpL t (at_ L s) := by
  have hl := F.ord.len
  rw [mem_grp]
  constructor
  · intro hx
    obtain ⟨i, hi, e⟩ := List.getElem_of_mem hx
    rw [List.length_take, List.length_drop] at hi
    rw [List.getElem_take, List.getElem_drop] at e
    have hb : s + i < t.length := by omega
    refine ⟨at_ L (s + i), F.lt hb, ?_, ?_, ?_⟩
    · exact (reach_iff h F (a := s) (by omega) (Nat.le_refl _) hD (fun j h1 h2 => by omega) hb).2 (by omega)
    · exact (reach_iff h F hb (by omega) hD (fun j h1 h2 => hno j h1 (by omega)) (show s < t.length by omega)).2 (Nat.le_refl _)
    · rw [← F.val hb, ← e, List.getD_eq_getElem?_getD, List.getElem?_eq_getElem (by omega)]; rfl
  · rintro ⟨y, hy, h1, h2, rfl⟩
    obtain ⟨b, hb, rfl⟩ := F.onto hy
    have hsb := (reach_iff h F (a := s) (by omega) (Nat.le_refl _) hD (fun j h1 h2 => by omega) hb).1 h1
    have hbk : b ≤ k := by
      apply Classical.byContradiction
      intro hn
      obtain ⟨s2, h3, h4, h5⟩ := last_cut t L b
      have := (reach_iff h F hb h3 h4 h5 (show s < t.length by omega)).1 h2
      exact h5 (k + 1) (by omega) (by omega) hD2
    have hlen : b - s < ((L.drop s).take (k + 1 - s)).length := by rw [List.length_take, List.length_drop]; omega
    have : ((L.drop s).take (k + 1 - s))[b - s] = ((at_ L b : Nat) : Int) := by
      rw [List.getElem_take, List.getElem_drop, ← F.val hb, List.getD_eq_getElem?_getD, List.getElem?_eq_getElem (by omega)]
      simp only [show s + (b - s) = b by omega, Option.getD_some]
    rw [← this]
    exact List.getElem_mem hlen
theorem seg_nil {t : List (List Int)} {L : List Int} {s k : Nat} (hno : ∀ j, s < j → j ≤ k → ¬ Dom t L j) : ∀ d, s + d ≤ k → (List.range (s + 1 + d)).flatMap (segAt t L) = (List.range (s + 1)).flatMap (segAt t L)
  | 0, _ => rfl
  | d + 1, hd => by
    rw [← Nat.add_assoc, List.range_succ, List.flatMap_append, seg_nil hno d (by omega)]
    simp only [List.flatMap_cons, List.flatMap_nil, List.append_nil]
    rw [segAt, if_neg (hno (s + 1 + d) (by omega) (by omega)), List.append_nil]
theorem gSt_is {t : List (List Int)} (h : Right t) {L : List Int} (F : Fall t L) : ∀ k, k ≤ t.length → ∃ s, s ≤ k ∧ Dom t L s ∧ (∀ j, s < j → j ≤ k → ¬ Dom t L j) ∧ gSt t L k = ((List.range s).flatMap (segAt t L), (L.drop s).take (k - s), winTo t L k)
  | 0, _ => ⟨0, Nat.le_refl _, Dom.zero t L, fun j h1 h2 => by omega, by simp [gSt, winTo, sumTo]⟩
  | k + 1, hk => by
    obtain ⟨s, hs, hD, hno, e⟩ := gSt_is h F k (by omega)
    have hl := F.ord.len
    have hw : wrap64 (winTo t L k + (winsL t).getD (L.getD k 0).toNat 0) = winTo t L (k + 1) := by
      have e2 : winTo t L (k + 1) = winTo t L k + winOf t (at_ L k) := rfl
      have e3 := h.wins_get (F.lt (show k < t.length by omega))
      have e4 := sumTo_bound (f := fun a => winOf t (at_ L a)) (b := 7) (n := k) (fun a _ => h.win_bound _)
      have e5 := h.win_bound (at_ L k)
      have e6 := h.len
      unfold at_ at e3 e2 e5
      rw [e3, e2]
      unfold winTo
      exact wrap_small (by omega) (by omega)
    have hg : (L.drop s).take (k - s) ++ [L.getD k 0] = (L.drop s).take (k + 1 - s) := by
      rw [show k + 1 - s = (k - s) + 1 by omega, List.take_succ_eq_append_getElem (by rw [List.length_drop]; omega), List.getElem_drop]
      rw [List.getD_eq_getElem?_getD, List.getElem?_eq_getElem (show k < L.length by omega)]
      simp only [show s + (k - s) = k by omega, Option.getD_some]
    unfold gSt
    rw [e]
    dsimp only
    rw [hw, hg]
    by_cases hD2 : Dom t L (k + 1)
    · refine ⟨k + 1, Nat.le_refl _, hD2, fun j h1 h2 => by omega, ?_⟩
      rw [if_pos ((cutW_iff h F (by omega)).2 hD2)]
      rw [asc_grp (i := at_ L s) (((List.take_sublist _ _).trans (List.drop_sublist _ _)).nodup F.ord.nodup) (fun x => mem_seg h F hs (by omega) hD hD2 hno)]
      have e2 := seg_nil (s := s) (k := k) (L := L) (t := t) hno (k - s) (by omega)
      rw [show s + 1 + (k - s) = k + 1 by omega, List.range_succ (n := s), List.flatMap_append] at e2
      rw [e2]
      simp only [List.flatMap_cons, List.flatMap_nil, List.append_nil, Nat.sub_self, List.take_zero]
      rw [segAt, if_pos hD]
    · refine ⟨s, by omega, hD, fun j h1 h2 => ?_, ?_⟩
      · by_cases e2 : j = k + 1
        · subst e2; exact hD2
        · exact hno j h1 (by omega)
      · rw [if_neg (fun x => hD2 ((cutW_iff h F (by omega)).1 x))]
theorem gSt_all {t : List (List Int)} (h : Right t) {L : List Int} (F : Fall t L) : (gSt t L t.length).1 = (List.range t.length).flatMap (segAt t L) := by
  obtain ⟨s, hs, hD, hno, e⟩ := gSt_is h F t.length (Nat.le_refl _)
  obtain rfl : s = t.length := by
    apply Classical.byContradiction
    intro hn
    exact hno t.length (by omega) (Nat.le_refl _) (Dom.all t L)
  rw [e]
end Go.Proofs.Ytbnjffhcpkfnhaa.H
