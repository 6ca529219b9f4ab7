/- FeudDrops: the shops without a feud, and with its paints made one. -/
import Derived.Test.YtpmjmhdofjbcbaaFN6
namespace Go.Proofs.Ytpmjmhdofjbcbaa.H
open Go.RowKit Go.Proofs.Ytpmjmhdofjbcbaa.QA Go.Proofs.Ytpmjmhdofjbcbaa.QE Go.Proofs.Ytpmjmhdofjbcbaa.QK Go.Proofs.Ytpmjmhdofjbcbaa.QR Go.Proofs.YtpmjmhdofjbcbaaW.PrintWords Go.Proofs.YtpmjmhdofjbcbaaW.PrintLast Go.Proofs.YtpmjmhdofjbcbaaW.PrintMore
set_option linter.unusedVariables false
set_option linter.unusedSimpArgs false
theorem any_getD {α : Type} (f : α → Bool) (z : α) (l : List α) (i : Nat) (hi : i < l.length) : (l.take (i + 1)).any f = ((l.take i).any f || f (l.getD i z)) := by
  rw [List.take_succ_eq_append_getElem hi, List.any_append, List.getD_eq_getElem?_getD, List.getElem?_eq_getElem hi]
  simp
theorem fdI_nat {n : Nat} {l : List S43} (hv : Vd n l) (x y : Nat) : fdI l x y = decide ((min x y, max x y) ∈ toE l) := by
  unfold fdI
  congr 1
  apply propext
  unfold toE
  rw [List.mem_map]
  constructor
  · intro h
    exact ⟨_, h, by simp [toP]; omega⟩
  · rintro ⟨f, hf, e⟩
    have := hv.1 f hf
    have e1 : f.f0.toNat = min x y := congrArg Prod.fst e
    have e2 : f.f1.toNat = max x y := congrArg Prod.snd e
    have : f = ⟨min (x : Int) y, max (x : Int) y⟩ := by cases f; simp at *; omega
    rw [← this]; exact hf
def mgTo (E : List (Nat × Nat)) (A B m a b : Nat) : List (Nat × Nat) := ((List.range a).flatMap fun a' => ((List.range m).filter fun b' => decide (a' < b') && mrgB E A B a' b').map fun b' => (a', b')) ++ ((List.range b).filter fun b' => decide (a < b') && mrgB E A B a b').map fun b' => (a, b')
theorem mgTo_start (E : List (Nat × Nat)) (A B m a : Nat) : mgTo E A B m a (a + 1) = mgTo E A B m a 0 := by
  unfold mgTo
  congr 1
  rw [List.filter_eq_nil_iff.2 (fun b hb => by have := List.mem_range.1 hb; simp; omega)]
  rfl
theorem mgTo_row (E : List (Nat × Nat)) (A B m a : Nat) : mgTo E A B m a m = mgTo E A B m (a + 1) 0 := by
  unfold mgTo
  rw [List.range_succ, List.flatMap_append]
  simp
theorem mgTo_hit {E : List (Nat × Nat)} {A B m a b : Nat} (hab : a < b) (h : mrgB E A B a b = true) : mgTo E A B m a (b + 1) = mgTo E A B m a b ++ [(a, b)] := by
  unfold mgTo
  rw [List.range_succ, List.filter_append, List.map_append, List.append_assoc, List.filter_cons, if_pos (by simp [hab, h])]
  rfl
theorem mgTo_miss {E : List (Nat × Nat)} {A B m a b : Nat} (h : mrgB E A B a b = false) : mgTo E A B m a (b + 1) = mgTo E A B m a b := by
  unfold mgTo
  rw [List.range_succ, List.filter_append, List.map_append, List.filter_cons, if_neg (by simp [h])]
  simp
theorem mgTo_len (E : List (Nat × Nat)) (A B m : Nat) (hm : m ≤ 7) : ∀ a b, a ≤ m → b ≤ m → (mgTo E A B m a b).length ≤ 100 := by
  intro a b ha hb
  unfold mgTo
  rw [List.length_append, List.length_flatMap, List.length_map]
  have h1 : ∀ a' : Nat, (((List.range m).filter fun b' => decide (a' < b') && mrgB E A B a' b').map fun b' => (a', b')).length ≤ 7 := fun a' => by
    rw [List.length_map]
    have := List.length_filter_le (fun b' => decide (a' < b') && mrgB E A B a' b') (List.range m)
    rw [List.length_range] at this
    omega
  have h2 : ∀ k, ((List.range k).map fun a' => (((List.range m).filter fun b' => decide (a' < b') && mrgB E A B a' b').map fun b' => (a', b')).length).sum ≤ 7 * k := by
    intro k
    induction k with
    | zero => simp
    | succ k ih => rw [List.range_succ, List.map_append, List.sum_append]; have := h1 k; simp only [List.map_cons, List.map_nil, List.sum_cons, List.sum_nil]; omega
  have h3 := h2 a
  have h4 := List.length_filter_le (fun b' => decide (a < b') && mrgB E A B a b') (List.range b)
  rw [List.length_range] at h4
  omega
theorem mgTo_end {E : List (Nat × Nat)} {n : Nat} (hg : Good n E) {k : Nat} (hk : k < E.length) : mgTo E (E.getD k (0, 0)).1 (E.getD k (0, 0)).2 (n - 1) (n - 1) 0 = mergeE n E k := by
  unfold mgTo mergeE setE
  rw [List.range_zero, List.filter_nil, List.map_nil, List.append_nil]
  congr 1
  funext a
  congr 1
  apply List.filter_congr
  intro b hb
  by_cases hab : a < b
  · rw [decide_eq_true hab, Bool.true_and, Bool.true_and]
    rw [Bool.eq_iff_iff, mrgB_iff hg hk hab, decide_eq_true_eq]
  · rw [decide_eq_false hab, Bool.false_and, Bool.false_and]
theorem old_eq (A B p : Nat) (h : p ≤ 1000) : verditerref03_old.f (A : Int) (B : Int) (p : Int) = some ((oldN A B p).map Int.ofNat) := by
  unfold verditerref03_old.f oldN
  by_cases h1 : p = A
  · rw [if_pos (by omega), if_pos h1]; rfl
  · rw [if_neg (by omega), if_neg h1]
    by_cases h2 : p ≥ B
    · rw [if_pos (by omega), if_pos h2, IntWalk.wrap64_in _ (by omega)]; rfl
    · rw [if_neg (by omega), if_neg h2]; rfl
theorem rd_map (l : List Nat) (i : Nat) (hi : i < l.length) : rd (l.map Int.ofNat) (i : Int) = ((l.getD i 0 : Nat) : Int) := by
  show (l.map Int.ofNat).getD (i : Int).toNat 0 = _
  rw [Int.toNat_natCast, List.getD_eq_getElem?_getD, List.getElem?_map, List.getElem?_eq_getElem hi, List.getD_eq_getElem?_getD, List.getElem?_eq_getElem hi]
  rfl
theorem oldN_len (A B p : Nat) : (oldN A B p).length ≤ 2 := by
  unfold oldN
  split
  · simp
  · split <;> simp
def pairB (l : List S43) (x y : Nat) : Bool := decide ((min x y, max x y) ∈ toE l)
theorem mrgB_pair (l : List S43) (A B a b : Nat) : mrgB (toE l) A B a b = (oldN A B a).any fun x => (oldN A B b).any fun y => pairB l x y := rfl
theorem Ev_m3 {n m A B : Nat} {l : List S43} (hv : Vd n l) (hl : l.length ≤ 1000) (a b i : Nat) (hi : i < (oldN A B a).length) (L : List S43) (r : Int × List S43 × Int) : ∀ d j, j + d = (oldN A B b).length → ∀ (acc : Bool),
      Ev (fun k => verditerref03_Merge.l2 k (a : Int) (b : Int) (acc || ((oldN A B b).drop j).any fun y => pairB l ((oldN A B a).getD i 0) y) ((oldN A B a).map Int.ofNat) ((oldN A B b).map Int.ofNat) ((i + 1 : Nat) : Int) (n : Int) l (A : Int) (B : Int) (m : Int) L) r →
      Ev (fun k => verditerref03_Merge.l3 k (a : Int) (b : Int) acc ((oldN A B a).map Int.ofNat) ((oldN A B b).map Int.ofNat) (i : Int) (j : Int) (n : Int) l (A : Int) (B : Int) (m : Int) L) r := by
  intro d
  have h2a := oldN_len A B a
  have h2b := oldN_len A B b
  induction d with
  | zero =>
    intro j hj acc hr
    rw [List.drop_eq_nil_of_le (by omega), List.any_nil, Bool.or_false] at hr
    refine Ev.step (fun k => ?_) hr
    rw [verditerref03_Merge.l3, if_neg (by rw [List.length_map]; omega), wr1 (n := (oldN A B a).length) (by omega) hi]
  | succ d ih =>
    intro j hj acc hr
    have hjl : j < (oldN A B b).length := by omega
    have hdr : (oldN A B b).drop j = (oldN A B b).getD j 0 :: (oldN A B b).drop (j + 1) := by
      rw [List.drop_eq_getElem_cons hjl, List.getD_eq_getElem?_getD, List.getElem?_eq_getElem hjl]; rfl
    rw [hdr, List.any_cons, ← Bool.or_assoc] at hr
    have h3 := ih (j + 1) (by omega) _ hr
    cases acc with
    | true =>
      rw [Bool.true_or] at h3
      refine Ev.step (fun k => ?_) h3
      rw [verditerref03_Merge.l3, if_pos (by rw [List.length_map]; omega), if_pos rfl, wr1 (n := (oldN A B b).length) (by omega) hjl]
    | false =>
      rw [Bool.false_or] at h3
      have hF := Ev_refFeud (n : Int) l hl (((oldN A B a).getD i 0 : Nat) : Int) (((oldN A B b).getD j 0 : Nat) : Int)
      rw [fdI_nat hv] at hF
      change Ev _ (pairB l ((oldN A B a).getD i 0) ((oldN A B b).getD j 0)) at hF
      generalize pairB l ((oldN A B a).getD i 0) ((oldN A B b).getD j 0) = q at hF h3
      refine Ev.step (f := fun k => (verditerref03_Feud.f k (n : Int) l (((oldN A B a).getD i 0 : Nat) : Int) (((oldN A B b).getD j 0 : Nat) : Int)).bind fun t200 => verditerref03_Merge.l3 k (a : Int) (b : Int) t200 ((oldN A B a).map Int.ofNat) ((oldN A B b).map Int.ofNat) (i : Int) ((j + 1 : Nat) : Int) (n : Int) l (A : Int) (B : Int) (m : Int) L) (fun k => ?_) (Ev.bind hF h3)
      rw [verditerref03_Merge.l3, if_pos (by rw [List.length_map]; omega), if_neg (by decide), if_pos (by omega), if_pos (by rw [List.length_map]; omega), if_pos (by omega), rd_map _ _ hi, rd_map _ _ hjl, wr1 (n := (oldN A B b).length) (by omega) hjl]
theorem Ev_m2 {n m A B : Nat} {l : List S43} (hv : Vd n l) (hl : l.length ≤ 1000) (a b : Nat) (L : List S43) (hLL : L.length ≤ 1000) (r : Int × List S43 × Int)
      (hr : Ev (fun k => verditerref03_Merge.l1 k (a : Int) (wrap64 ((b : Int) + 1)) (n : Int) l (A : Int) (B : Int) (m : Int) (if mrgB (toE l) A B a b = true then L ++ [ofP (a, b)] else L)) r) : ∀ d i, i + d = (oldN A B a).length →
      Ev (fun k => verditerref03_Merge.l2 k (a : Int) (b : Int) (((oldN A B a).take i).any fun x => (oldN A B b).any fun y => pairB l x y) ((oldN A B a).map Int.ofNat) ((oldN A B b).map Int.ofNat) (i : Int) (n : Int) l (A : Int) (B : Int) (m : Int) L) r := by
  intro d
  induction d with
  | zero =>
    intro i hi
    rw [List.take_of_length_le (by omega), ← mrgB_pair]
    generalize mrgB (toE l) A B a b = q at hr
    refine Ev.step (fun k => ?_) hr
    rw [verditerref03_Merge.l2, if_neg (by rw [List.length_map]; omega)]
    cases q with
    | true => rw [if_pos rfl, if_pos (by omega), if_pos rfl]; rfl
    | false => rw [if_neg (by decide), if_neg (by decide)]
  | succ d ih =>
    intro i hi
    have hil : i < (oldN A B a).length := by omega
    have h3 := ih (i + 1) (by omega)
    rw [any_getD _ 0 _ _ hil] at h3
    refine Ev.step (fun k => ?_) (Ev_m3 hv hl a b i hil L r (oldN A B b).length 0 (by omega) _ (by rw [List.drop_zero]; exact h3))
    rw [verditerref03_Merge.l2, if_pos (by rw [List.length_map]; omega)]
    rfl
theorem Ev_m1 {n m A B : Nat} {l : List S43} (hv : Vd n l) (hl : l.length ≤ 1000) (hm : m ≤ 7) (a : Nat) (ha : a < m) (r : Int × List S43 × Int)
      (hr : Ev (fun k => verditerref03_Merge.l0 k ((a + 1 : Nat) : Int) (n : Int) l (A : Int) (B : Int) (m : Int) ((mgTo (toE l) A B m (a + 1) 0).map ofP)) r) : ∀ d b, b + d = m → a < b →
      Ev (fun k => verditerref03_Merge.l1 k (a : Int) (b : Int) (n : Int) l (A : Int) (B : Int) (m : Int) ((mgTo (toE l) A B m a b).map ofP)) r := by
  intro d
  induction d with
  | zero =>
    intro b hb hab
    refine Ev.step (fun k => ?_) hr
    rw [verditerref03_Merge.l1, if_neg (by omega), wr1 (n := m) (by omega) ha, show b = m by omega, mgTo_row]
  | succ d ih =>
    intro b hb hab
    have h3 := ih (b + 1) (by omega) (by omega)
    have hl100 := mgTo_len (toE l) A B m hm a b (by omega) (by omega)
    refine Ev.step (fun k => ?_) (Ev_m2 (A := A) (B := B) (m := m) hv hl a b ((mgTo (toE l) A B m a b).map ofP) (by rw [List.length_map]; omega) r ?_ (oldN A B a).length 0 (by omega))
    · rw [verditerref03_Merge.l1, if_pos (by omega), old_eq A B a (by omega), Option.bind_some, old_eq A B b (by omega), Option.bind_some]
      rfl
    · rw [wr1 (n := m) (by omega) (show b < m by omega)]
      by_cases hB : mrgB (toE l) A B a b = true
      · rw [mgTo_hit hab hB, List.map_append] at h3
        rw [if_pos hB]
        exact h3
      · rw [mgTo_miss (by simpa using hB)] at h3
        rw [if_neg hB]
        exact h3
theorem Ev_m0 {n m A B : Nat} {l : List S43} (hv : Vd n l) (hl : l.length ≤ 1000) (hm : m ≤ 7) : ∀ d a, a + d = m → Ev (fun k => verditerref03_Merge.l0 k (a : Int) (n : Int) l (A : Int) (B : Int) (m : Int) ((mgTo (toE l) A B m a 0).map ofP)) ((m : Int), (mgTo (toE l) A B m m 0).map ofP, 0) := by
  intro d
  induction d with
  | zero =>
    intro a ha
    obtain rfl : a = m := by omega
    refine Ev.step (fun k => ?_) (Ev.now _)
    rw [verditerref03_Merge.l0, if_neg (by omega)]
  | succ d ih =>
    intro a ha
    have h3 := ih (a + 1) (by omega)
    refine Ev.step (fun k => ?_) (show Ev (fun k => verditerref03_Merge.l1 k (a : Int) ((a + 1 : Nat) : Int) (n : Int) l (A : Int) (B : Int) (m : Int) ((mgTo (toE l) A B m a 0).map ofP)) _ from ?_)
    · rw [verditerref03_Merge.l0, if_pos (by omega), wr1 (n := m) (by omega) (by omega)]
    · rw [← mgTo_start]
      exact Ev_m1 (A := A) (B := B) hv hl hm a (by omega) _ h3 (m - (a + 1)) (a + 1) (by omega) (by omega)
theorem Ev_refMerge_loop {p : Int} {l : List S43} (h : vldF p l = 0) {k0 : Nat} (hk : k0 < l.length) :
    Ev (fun k => verditerref03_Merge.l0 k ((0 : Nat) : Int) p l (l.getD k0 z43).f0 (l.getD k0 z43).f1 (p - 1) []) (p - 1, mergedL p l k0, 0) := by
  have h2 := two_le h hk
  obtain ⟨h1, h7, hv⟩ := vld_iff.1 h
  have hlen := vd_len hv (by omega)
  have ho := hv.1 _ (getD_memF hk)
  have hg := vd_good hv
  have hkE : k0 < (toE l).length := by rw [toE_len]; exact hk
  have eA : (((toE l).getD k0 (0, 0)).1 : Int) = (l.getD k0 z43).f0 := by rw [toE_getD hk]; show ((l.getD k0 z43).f0.toNat : Int) = _; omega
  have eB : (((toE l).getD k0 (0, 0)).2 : Int) = (l.getD k0 z43).f1 := by rw [toE_getD hk]; show ((l.getD k0 z43).f1.toNat : Int) = _; omega
  have hend := mgTo_end hg hkE
  have := Ev_m0 (m := p.toNat - 1) (A := ((toE l).getD k0 (0, 0)).1) (B := ((toE l).getD k0 (0, 0)).2) hv (by omega) (by omega) (p.toNat - 1) 0 (by omega)
  rw [hend, eA, eB, show ((p.toNat - 1 : Nat) : Int) = p - 1 by omega, Int.toNat_of_nonneg (by omega)] at this
  exact this
theorem Ev_refMerge (p : Int) (l : List S43) (hl : l.length ≤ 1000) (k0 : Int) : Ev (fun k => verditerref03_Merge.f k p l k0) (if vldF p l = 0 then (if 0 ≤ k0 ∧ k0 < l.length then (p - 1, mergedL p l k0.toNat, 0) else (0, [], 4)) else (0, [], vldF p l)) := by
  by_cases h : vldF p l = 0
  · by_cases h2 : 0 ≤ k0 ∧ k0 < l.length
    · obtain ⟨j, rfl⟩ : ∃ j : Nat, k0 = j := ⟨k0.toNat, by omega⟩
      have hj : j < l.length := by omega
      have hN := Ev_numbered p l hl (j : Int)
      rw [if_pos h, if_pos h2] at hN
      have hp := vld_iff.1 h
      refine ev_cast (Ev.bind hN (ev_cast (Ev_refMerge_loop h hj) (fun k => ?_) rfl)) (fun k => rfl) (by rw [if_pos h, if_pos h2, Int.toNat_natCast])
      rw [if_pos rfl, if_pos (by omega), if_pos (by omega), rdT_nat, IntWalk.wrap64_in _ (by omega)]
      rfl
    · have hN := Ev_numbered p l hl k0
      rw [if_pos h, if_neg h2] at hN
      refine ev_cast (Ev.bind hN (ev_cast (Ev.now (((0 : Int), ([] : List S43), (4 : Int)))) (fun k => ?_) rfl)) (fun k => rfl) (by rw [if_pos h, if_neg h2])
      rw [if_neg (by decide)]
  · have hN := Ev_numbered p l hl k0
    rw [if_neg h] at hN
    refine ev_cast (Ev.bind hN (ev_cast (Ev.now (((0 : Int), ([] : List S43), vldF p l))) (fun k => ?_) rfl)) (fun k => rfl) (by rw [if_neg h])
    rw [if_neg h]
theorem Ev_dropLoop (p q r : Int) (l l' : List S43) (hl : l.length ≤ 1000) : ∀ (d : Nat) (i : Nat) (L : List S43), i + d = L.length → L.length ≤ 1000 → Ev (fun k => verditerlaw03_feudDrops.l0 k (i : Int) p l p l q L) true := by
  intro d
  induction d with
  | zero =>
    intro i L hi hL
    have hS := Ev_Same p l p l hl
    rw [decide_eq_true (show p = p ∧ l = l from ⟨rfl, rfl⟩)] at hS
    refine Ev.step (f := fun k => (verditerref03_Same.f k p l p l).bind fun t240 => if t240 = true then ((verditerlaw03_known.f k).bind fun t241 => (some t241)) else (some false)) (fun k => ?_) (Ev.bind hS (ev_cast (Ev.bind Ev_known (Ev.now true)) (fun k => ?_) rfl))
    · rw [verditerlaw03_feudDrops.l0, if_neg (by omega)]
    · rw [if_pos rfl]
  | succ d ih =>
    intro i L hi hL
    have h3 := ih (i + 1) (L.set i ⟨-1, (L.getD i z43).f1⟩) (by rw [List.length_set]; omega) (by rw [List.length_set]; omega)
    refine Ev.step (fun k => ?_) h3
    rw [verditerlaw03_feudDrops.l0, if_pos (by omega), if_pos (by omega), rdT_nat, wr1 (n := L.length) (by omega) (by omega), Int.toNat_natCast]
theorem feudDrops_true (p : Int) (l : List S43) (k0 : Int) : Ev (fun k => verditerlaw03_feudDrops.f k p l k0) true := by
  by_cases hlong : (l.length : Int) > 60
  · refine Ev.congr (f := fun k => (verditerlaw03_known.f k).bind fun t => some t) (fun k => ?_) (Ev.bind Ev_known (Ev.now _))
    unfold verditerlaw03_feudDrops.f verditerlaw03_Long.f
    rw [Option.bind_some, if_pos (decide_eq_true hlong)]
  have hl : l.length ≤ 1000 := by omega
  have hc : verditerref03_Copy.f p l = some (p, l) := by
    unfold verditerref03_Copy.f
    rw [Option.bind_some, if_pos (by simp; omega), List.nil_append]
  have hd := drop_f (p := p) hl k0
  have hm := merge_f (p := p) hl k0
  have rD := Ev_refDrop p l hl k0
  have rM := Ev_refMerge p l hl k0
  generalize hdv : (if vldF p l = 0 then (if 0 ≤ k0 ∧ k0 < (l.length : Int) then (p, dropL l k0.toNat, 0) else (0, [], 4)) else (0, [], vldF p l) : Int × List S43 × Int) = dv at hd rD
  generalize hmv : (if vldF p l = 0 then (if 0 ≤ k0 ∧ k0 < (l.length : Int) then (p - 1, mergedL p l k0.toNat, 0) else (0, [], 4)) else (0, [], vldF p l) : Int × List S43 × Int) = mv at hm rM
  have ld : dv.2.1.length ≤ 1000 := by
    rw [← hdv]
    split
    · split
      · show (dropL l k0.toNat).length ≤ 1000
        unfold dropL
        rw [List.length_append, List.length_take, List.length_drop]; omega
      · simp
    · simp
  have lm : mv.2.1.length ≤ 1000 := by
    rw [← hmv]
    split
    · split
      · rename_i hv hk
        show (mergedL p l k0.toNat).length ≤ 1000
        have hmv := mergedL_vld hv (show k0.toNat < l.length by omega)
        have := vd_len (vld_iff.1 hmv).2.2 (by have := (vld_iff.1 hmv); omega)
        omega
      · simp
    · simp
  have s1 := Ev_Same dv.1 dv.2.1 dv.1 dv.2.1 ld
  rw [decide_eq_true ⟨rfl, rfl⟩] at s1
  have s2 := Ev_Same mv.1 mv.2.1 mv.1 mv.2.1 lm
  rw [decide_eq_true ⟨rfl, rfl⟩] at s2
  have hloop := Ev_dropLoop p dv.1 dv.1 l l hl dv.2.1.length 0 dv.2.1 (by omega) ld
  have j0f : Ev (fun k => verditerlaw03_feudDrops.j0 k false p l p l dv.1 dv.2.1) true := by
    refine Ev.step (fun k => ?_) hloop
    rw [verditerlaw03_feudDrops.j0, if_neg (by decide)]; rfl
  have a1 : Ev (fun k => (verditerref03_Same.f k mv.1 mv.2.1 mv.1 mv.2.1).bind fun t238 => (if t238 = true then (verditerlaw03_feudDrops.j0 k (mv.2.2 != mv.2.2) p l p l dv.1 dv.2.1) else (verditerlaw03_feudDrops.j0 k true p l p l dv.1 dv.2.1))) true := by
    refine Ev.bind s2 (ev_cast j0f (fun k => ?_) rfl)
    rw [if_pos rfl, bne_self_eq_false]
  have a2 : Ev (fun k => (verditerref03_Same.f k dv.1 dv.2.1 dv.1 dv.2.1).bind fun t237 => (if t237 = true then (if dv.2.2 = dv.2.2 then ((verditerref03_Same.f k mv.1 mv.2.1 mv.1 mv.2.1).bind fun t238 => (if t238 = true then (verditerlaw03_feudDrops.j0 k (mv.2.2 != mv.2.2) p l p l dv.1 dv.2.1) else (verditerlaw03_feudDrops.j0 k true p l p l dv.1 dv.2.1))) else (verditerlaw03_feudDrops.j0 k true p l p l dv.1 dv.2.1)) else (verditerlaw03_feudDrops.j0 k true p l p l dv.1 dv.2.1))) true := by
    refine Ev.bind s1 (ev_cast a1 (fun k => ?_) rfl)
    rw [if_pos rfl, if_pos rfl]
  refine Ev.congr (f := fun k => (verditerref03_Drop.f k p l k0).bind fun bt213 => (verditerref03_Merge.f k p l k0).bind fun bt219 => (verditerref03_Same.f k dv.1 dv.2.1 bt213.1 bt213.2.1).bind fun t237 => (if t237 = true then (if dv.2.2 = bt213.2.2 then ((verditerref03_Same.f k mv.1 mv.2.1 bt219.1 bt219.2.1).bind fun t238 => (if t238 = true then (verditerlaw03_feudDrops.j0 k (mv.2.2 != bt219.2.2) p l p l dv.1 dv.2.1) else (verditerlaw03_feudDrops.j0 k true p l p l dv.1 dv.2.1))) else (verditerlaw03_feudDrops.j0 k true p l p l dv.1 dv.2.1)) else (verditerlaw03_feudDrops.j0 k true p l p l dv.1 dv.2.1))) (fun k => ?_) (Ev.bind rD (Ev.bind rM a2))
  unfold verditerlaw03_feudDrops.f verditerlaw03_Long.f
  rw [Option.bind_some, if_neg (by rw [decide_eq_true_eq]; exact hlong), hc]
  simp only [Option.bind_some, hd, hm]
theorem pureFeudDrops {p : Int} {A : Option Addr} {n c : Nat} {l : List S43} {k0 : Int} {W : World} (g : Kd.C k43 W A n l) (hw : (Lit.int .i64 p).wf = true) (hf : ∀ f ∈ l, WfF f) (hn : n ≤ c) (hk0 : (Lit.int .i64 k0).wf = true) :
    Calls Try.prog 21 #[.agg #[.int .i64 p, .slice A n c], .int .i64 k0] W fun e w' => e = .returned (.bool true) ∧ Below W.heap.size W w' := by
  obtain rfl : l.length = n := g.1
  obtain ⟨k, hk⟩ := (feudDrops_true p l k0).rounds
  exact verditerlaw03_feudDrops.calls k p A c l k0 true W g hn hk
end Go.Proofs.Ytpmjmhdofjbcbaa.H
