/- What feud.drop, feud.merge and feud.terms compute. -/
import Derived.Test.YtpmjmhdofjbcbaaFN
import Derived.Test.YtpmjmhdofjbcbaaQE2
import Derived.IntWalk
namespace Go.Proofs.Ytpmjmhdofjbcbaa.H
open Go.RowKit Go.Proofs.Ytpmjmhdofjbcbaa.QA Go.Proofs.Ytpmjmhdofjbcbaa.QE Go.Proofs.YtpmjmhdofjbcbaaW.PrintWords Go.Proofs.YtpmjmhdofjbcbaaW.PrintLast Go.Proofs.YtpmjmhdofjbcbaaW.PrintMore
set_option linter.unusedVariables false
set_option linter.unusedSimpArgs false
theorem numF_nat {o : S43} {p : Int} (h0 : 0 ≤ o.f0) (h1 : o.f0 < o.f1) (hp : 0 ≤ p) : numF o p = ((numb o.f0.toNat o.f1.toNat p.toNat : Nat) : Int) := by
  unfold numF numb
  by_cases e : p = o.f1
  · rw [if_pos e, if_pos (by rw [e])]; omega
  · by_cases g : p > o.f1
    · rw [if_neg e, if_pos g, if_neg (show ¬ p.toNat = o.f1.toNat by omega), if_pos (show o.f1.toNat < p.toNat by omega)]; omega
    · rw [if_neg e, if_neg g, if_neg (show ¬ p.toNat = o.f1.toNat by omega), if_neg (show ¬ o.f1.toNat < p.toNat by omega)]; omega
theorem conF_nat {o f : S43} (h0 : 0 ≤ o.f0) (h1 : o.f0 < o.f1) (hf : 0 ≤ f.f0 ∧ 0 ≤ f.f1) : conF o f = ofP (min (numb (toP o).1 (toP o).2 (toP f).1) (numb (toP o).1 (toP o).2 (toP f).2), max (numb (toP o).1 (toP o).2 (toP f).1) (numb (toP o).1 (toP o).2 (toP f).2)) := by
  unfold conF ofP toP
  rw [numF_nat h0 h1 hf.1, numF_nat h0 h1 hf.2, S43.mk.injEq]
  simp only
  omega
theorem mem_mrgTo {n : Nat} {l : List S43} (h : Vd n l) {k : Nat} (hk : k < l.length) {x : S43} : x ∈ mrgTo l (l.getD k z43) l.length ↔ ∃ e ∈ conE ((toE l).getD k (0, 0)).1 ((toE l).getD k (0, 0)).2 (dropE (toE l) k), x = ofP e := by
  have ho := h.1 _ (getD_memF hk)
  have hg := vd_good h
  rw [toE_getD hk]
  unfold mrgTo conE
  rw [List.take_length, List.mem_map]
  constructor
  · rintro ⟨f, hf, rfl⟩
    obtain ⟨hf1, hf2⟩ := List.mem_filter.1 hf
    have hv := h.1 f hf1
    refine ⟨_, List.mem_map.2 ⟨toP f, (dropE_mem hg.2 (by rw [toE_len]; exact hk)).2 ⟨List.mem_map.2 ⟨f, hf1, rfl⟩, ?_⟩, rfl⟩, conF_nat (by omega) (by omega) ⟨by omega, by omega⟩⟩
    rw [toE_getD hk]
    intro e
    have e2 : ofP (toP f) = ofP (toP (l.getD k z43)) := by rw [e]
    rw [ofP_toP (by omega) (by omega), ofP_toP (by omega) (by omega)] at e2
    rw [e2] at hf2
    simp at hf2
  · rintro ⟨e, he, rfl⟩
    obtain ⟨p, hp, rfl⟩ := List.mem_map.1 he
    obtain ⟨hp1, hp2⟩ := (dropE_mem hg.2 (by rw [toE_len]; exact hk)).1 hp
    obtain ⟨f, hf, rfl⟩ := List.mem_map.1 hp1
    have hv := h.1 f hf
    refine ⟨f, List.mem_filter.2 ⟨hf, ?_⟩, conF_nat (by omega) (by omega) ⟨by omega, by omega⟩⟩
    rw [toE_getD hk] at hp2
    simp only [Bool.not_eq_true', decide_eq_false_iff_not]
    intro e
    exact hp2 (by rw [e])
theorem mrg_eq {n : Nat} {l : List S43} (h : Vd n l) {k : Nat} (hk : k < l.length) : mrgL l k = (mergeE n (toE l) k).map ofP := by
  have hg := vd_good h
  have hkE : k < (toE l).length := by rw [toE_len]; exact hk
  have hmem : ∀ x, x ∈ mrgL l k ↔ ∃ e ∈ mergeE n (toE l) k, x = ofP e := by
    intro x
    unfold mrgL
    rw [mem_compact, (sortFd_perm _).mem_iff, mem_mrgTo h hk]
    constructor
    · rintro ⟨e, he, rfl⟩; exact ⟨e, (mem_mergeE hg hkE).2 he, rfl⟩
    · rintro ⟨e, he, rfl⟩; exact ⟨e, (mem_mergeE hg hkE).1 he, rfl⟩
  have hs : (mrgL l k).Pairwise fun x y => ltF x y = true := compact_sorted (sortFd_sorted _)
  have hpos : ∀ x ∈ mrgL l k, 0 ≤ x.f0 ∧ 0 ≤ x.f1 := by
    intro x hx
    obtain ⟨e, _, rfl⟩ := (hmem x).1 hx
    exact ⟨Int.natCast_nonneg _, Int.natCast_nonneg _⟩
  have e1 : toE (mrgL l k) = mergeE n (toE l) k := by
    refine sorted_eq ?_ (setE_sorted _ _) fun e => ?_
    · unfold toE
      rw [List.pairwise_map]
      refine hs.imp_of_mem fun {a b} ha hb hab => ?_
      have h1 := hpos a ha
      have h2 := hpos b hb
      rw [ltF_true] at hab
      unfold ltE toP
      simp only
      omega
    · constructor
      · intro he
        obtain ⟨x, hx, rfl⟩ := List.mem_map.1 he
        obtain ⟨e2, he2, rfl⟩ := (hmem x).1 hx
        rw [toP_ofP]
        exact he2
      · intro he
        exact List.mem_map.2 ⟨ofP e, (hmem _).2 ⟨e, he, rfl⟩, toP_ofP e⟩
  rw [← e1]
  unfold toE
  rw [List.map_map]
  exact ((List.map_congr_left fun f hf => by have := hpos f hf; exact ofP_toP this.1 this.2).trans (List.map_id _)).symm
theorem drop_eq {l : List S43} {k : Nat} (hl : l.length ≤ 1000) (hk : k < l.length) (n : Int) : feud_drop.f n l k = some (n, l.take k ++ l.drop (k + 1)) := by
  unfold feud_drop.f
  have hw : wrap64 ((k : Int) + 1) = ((k + 1 : Nat) : Int) := by rw [IntWalk.wrap64_in _ (by omega)]; rfl
  rw [if_pos (by omega), if_pos (by omega), hw, if_pos (by omega), if_pos (by omega)]
  unfold slices_Concat_F.f
  simp only [Int.toNat_natCast]
  have e : lenTo [l.take k, l.drop (k + 1)] [l.take k, l.drop (k + 1)].length ≤ 1000 := by
    simp [lenTo, List.length_take, List.length_drop]; omega
  rw [if_pos e, if_pos (by simp)]
  simp
theorem toE_drop (l : List S43) (k : Nat) : toE (l.take k ++ l.drop (k + 1)) = dropE (toE l) k := by
  unfold toE dropE
  rw [List.map_append, List.map_take, List.map_drop]
theorem vd_drop {n : Nat} {l : List S43} (h : Vd n l) (k : Nat) : Vd n (l.take k ++ l.drop (k + 1)) := by
  rw [← List.eraseIdx_eq_take_drop_succ]
  exact ⟨fun f hf => h.1 f (List.mem_of_mem_eraseIdx hf), (List.eraseIdx_sublist l k).nodup h.2⟩
theorem vd_inF {n : Nat} {l : List S43} (h : Vd n l) (hn : n ≤ 1000) : inF l = true := inF_iff.2 fun f hf => by have := h.1 f hf; omega
theorem merge_eq {n : Nat} {l : List S43} (h : Vd n l) (hn : n ≤ 1000) (hl : l.length ≤ 1000) {k : Nat} (hk : k < l.length) : feud_merge.f n l k = some ((n : Int) - 1, (mergeE n (toE l) k).map ofP) := by
  unfold feud_merge.f
  rw [if_pos ⟨by omega, by omega, hl, by omega, by omega, vd_inF h hn⟩, Int.toNat_natCast, mrg_eq h hk]
end Go.Proofs.Ytpmjmhdofjbcbaa.H
