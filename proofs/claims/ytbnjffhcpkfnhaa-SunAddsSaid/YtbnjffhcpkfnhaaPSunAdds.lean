/- The plain law of SunAdds: new numbers change nothing, and one more strip never makes the fewest upsets fewer. -/
import Derived.Test.YtbnjffhcpkfnhaaQD4
import Derived.Test.YtbnjffhcpkfnhaaHTb
import Derived.Test.YtbnjffhcpkfnhaaHO
namespace Go.Proofs.Ytbnjffhcpkfnhaa.H
open Go.RowKit Go.Proofs.YtbnjffhcpkfnhaaW.PrintWords Go.Proofs.YtbnjffhcpkfnhaaW.PrintLast Go.Proofs.YtbnjffhcpkfnhaaW.PrintMore
set_option linter.unusedVariables false

theorem rdD_nat (xs : List (List Int)) (i : Nat) : QD.rd_L1 xs (i : Int) = xs.getD i [] := by simp [QD.rd_L1]
def tabOf (n : Nat) (f : Nat → Nat → Int) : List (List Int) := (List.range n).map fun i => (List.range n).map fun k => f i k
theorem tabOf_len (n : Nat) (f : Nat → Nat → Int) : (tabOf n f).length = n := by simp [tabOf]
theorem tabOf_get {n : Nat} (f : Nat → Nat → Int) {i : Nat} (hi : i < n) : (tabOf n f).getD i [] = (List.range n).map fun k => f i k := by
  unfold tabOf
  rw [List.getD_eq_getElem?_getD, List.getElem?_map, List.getElem?_range hi]; rfl
theorem tabOf_row {n : Nat} (f : Nat → Nat → Int) {i : Nat} (hi : i < n) : ((tabOf n f).getD i []).length = n := by rw [tabOf_get f hi]; simp
theorem tabOf_ent {n : Nat} (f : Nat → Nat → Int) {i k : Nat} (hi : i < n) (hk : k < n) : ent (tabOf n f) i k = f i k := by
  unfold ent
  rw [tabOf_get f hi, List.getD_eq_getElem?_getD, List.getElem?_map, List.getElem?_range hk]; rfl
theorem tabOf_out {n : Nat} (f : Nat → Nat → Int) {i k : Nat} (h : ¬ (i < n ∧ k < n)) : ent (tabOf n f) i k = 0 := by
  by_cases hi : i < n
  · unfold ent
    rw [tabOf_get f hi, List.getD_eq_getElem?_getD, List.getElem?_eq_none (by simp; omega)]; rfl
  · exact ent_out (by rw [tabOf_len]; exact hi) k
theorem tabOf_eq {n : Nat} {t : List (List Int)} {f : Nat → Nat → Int} (hl : t.length = n) (hr : ∀ i, i < n → (t.getD i []).length = n) (he : ∀ i, i < n → ∀ k, k < n → ent t i k = f i k) : t = tabOf n f := by
  refine tab_ext (by rw [tabOf_len, hl]) (fun i hi => by rw [hr i (by omega), tabOf_row f (by omega)]) (fun i hi k hk => ?_)
  rw [hr i (by omega)] at hk
  rw [he i (by omega) k hk, tabOf_ent f (by omega) hk]


/-! ### new numbers -/
def idxO (l : List Int) (a : Nat) : Nat := l.idxOf (a : Int)
def toO (l : List Int) (i : Nat) : Nat := (l.getD i 0).toNat
theorem Order.to_lt {n : Nat} {l : List Int} (h : Order n l) {i : Nat} (hi : i < n) : toO l i < n ∧ l.getD i 0 = (toO l i : Int) := by
  have := h.mem.1 (getD_mem (show i < l.length by rw [h.len]; exact hi))
  unfold toO
  omega
theorem Order.idx_lt {n : Nat} {l : List Int} (h : Order n l) {a : Nat} (ha : a < n) : idxO l a < n ∧ toO l (idxO l a) = a := by
  have hm : (a : Int) ∈ l := h.mem.2 ⟨by omega, by omega⟩
  have hlt := List.idxOf_lt_length_of_mem hm
  have hl := h.len
  refine ⟨by unfold idxO; omega, ?_⟩
  unfold toO idxO
  rw [List.getD_eq_getElem?_getD, List.getElem?_eq_getElem hlt, Option.getD_some, List.getElem_idxOf hlt, Int.toNat_natCast]
theorem Order.to_inj {n : Nat} {l : List Int} (h : Order n l) {i k : Nat} (hi : i < n) (hk : k < n) (e : toO l i = toO l k) : i = k := by
  have h1 := h.to_lt hi
  have h2 := h.to_lt hk
  have hl := h.len
  have e2 : l.getD i 0 = l.getD k 0 := by rw [h1.2, h2.2, e]
  rw [List.getD_eq_getElem?_getD, List.getElem?_eq_getElem (show i < l.length by omega), List.getD_eq_getElem?_getD, List.getElem?_eq_getElem (show k < l.length by omega)] at e2
  have hn := h.nodup
  unfold List.Nodup at hn
  rw [List.pairwise_iff_getElem] at hn
  rcases Nat.lt_trichotomy i k with c | c | c
  · exact absurd e2 (hn i k (by omega) (by omega) c)
  · exact c
  · exact absurd e2.symm (hn k i (by omega) (by omega) c)
theorem Order.idx_to {n : Nat} {l : List Int} (h : Order n l) {i : Nat} (hi : i < n) : idxO l (toO l i) = i := by
  have h1 := h.idx_lt (h.to_lt hi).1
  exact h.to_inj h1.1 hi h1.2
def renTo (t : List (List Int)) (l : List Int) (i k : Nat) : List (List Int) := tabOf t.length fun a b => if idxO l a < i ∨ (idxO l a = i ∧ idxO l b < k) then ent t (idxO l a) (idxO l b) else ent t a b
def renT (t : List (List Int)) (l : List Int) : List (List Int) := tabOf t.length fun a b => ent t (idxO l a) (idxO l b)
theorem ren_start {t : List (List Int)} (h : Right t) (l : List Int) : renTo t l 0 0 = t := (tabOf_eq rfl h.row fun i hi k hk => by rw [if_neg (by omega)]).symm
theorem ren_step {t : List (List Int)} {l : List Int} (ho : Order t.length l) {i k : Nat} (hi : i < t.length) (hk : k < t.length) : putT (renTo t l i k) (toO l i) (toO l k) (ent t i k) = renTo t l i (k + 1) := by
  have h1 := (ho.to_lt hi).1
  have h2 := (ho.to_lt hk).1
  refine tabOf_eq (by rw [putT_len]; exact tabOf_len _ _) (fun j hj => by rw [putT_row]; exact tabOf_row _ hj) (fun a ha b hb => ?_)
  rw [putT_ent (by rw [show (renTo t l i k).length = t.length from tabOf_len _ _]; exact h1) (by rw [show ((renTo t l i k).getD (toO l i) []).length = t.length from tabOf_row _ h1]; exact h2)]
  have ia := ho.idx_lt ha
  have ib := ho.idx_lt hb
  by_cases e : a = toO l i ∧ b = toO l k
  · rw [if_pos e, e.1, e.2, ho.idx_to hi, ho.idx_to hk, if_pos (by omega)]
  · rw [if_neg e]
    show ent (tabOf _ _) a b = _
    rw [tabOf_ent _ ha hb]
    have hne : ¬ (idxO l a = i ∧ idxO l b = k) := fun e2 => e ⟨by rw [← e2.1, ia.2], by rw [← e2.2, ib.2]⟩
    by_cases e2 : idxO l a < i ∨ (idxO l a = i ∧ idxO l b < k)
    · rw [if_pos e2, if_pos (by omega)]
    · rw [if_neg e2, if_neg (by omega)]
theorem ren_row {t : List (List Int)} {l : List Int} (ho : Order t.length l) {i : Nat} : renTo t l i t.length = renTo t l (i + 1) 0 :=
  tabOf_eq (tabOf_len _ _) (fun j hj => tabOf_row _ hj) (fun a ha b hb => by
    show ent (tabOf _ _) a b = _
    have ib := (ho.idx_lt hb).1
    rw [tabOf_ent _ ha hb]
    by_cases e2 : idxO l a < i ∨ (idxO l a = i ∧ idxO l b < t.length)
    · rw [if_pos e2, if_pos (by omega)]
    · rw [if_neg e2, if_neg (by omega)])
theorem ren_end {t : List (List Int)} {l : List Int} (ho : Order t.length l) : renTo t l t.length 0 = renT t l :=
  tabOf_eq (tabOf_len _ _) (fun j hj => tabOf_row _ hj) (fun a ha b hb => by
    show ent (tabOf _ _) a b = _
    rw [tabOf_ent _ ha hb, if_pos (.inl (ho.idx_lt ha).1)])
theorem renT_len (t : List (List Int)) (l : List Int) : (renT t l).length = t.length := tabOf_len _ _
theorem renT_ent {t : List (List Int)} (l : List Int) {a b : Nat} (ha : a < t.length) (hb : b < t.length) : ent (renT t l) a b = ent t (idxO l a) (idxO l b) := tabOf_ent _ ha hb
theorem Right.ren {t : List (List Int)} (h : Right t) {l : List Int} (ho : Order t.length l) : Right (renT t l) := by
  have hl := renT_len t l
  refine ⟨by rw [hl]; exact h.pos, by rw [hl]; exact h.len, fun i hi => ?_, fun i k => ?_, fun i => ?_, fun i k hi hk hne => ?_⟩
  · rw [hl] at hi ⊢; exact tabOf_row _ hi
  · by_cases e : i < t.length ∧ k < t.length
    · rw [renT_ent l e.1 e.2]; exact h.bit _ _
    · exact .inl (tabOf_out _ e)
  · by_cases e : i < t.length
    · rw [renT_ent l e e]; exact h.diag _
    · exact tabOf_out _ (by omega)
  · rw [hl] at hi hk
    rw [renT_ent l hi hk, renT_ent l hk hi]
    refine h.anti _ _ (ho.idx_lt hi).1 (ho.idx_lt hk).1 (fun e => hne ?_)
    rw [← (ho.idx_lt hi).2, ← (ho.idx_lt hk).2, e]
theorem Ev_refRename {t : List (List Int)} (h : Right t) {l : List Int} (ho : Order t.length l) : Ev (fun k => QD.verditerref05_Rename.f k t l) (renT t l, 0) := by
  have hn := h.len
  have hll := ho.len
  have hbl : ∀ i k, (renTo t l i k).length = t.length := fun i k => tabOf_len _ _
  have hbr : ∀ i k j, j < t.length → ((renTo t l i k).getD j []).length = t.length := fun i k j hj => tabOf_row _ hj
  have l0 : ∀ d i, i + d = t.length → Ev (fun f => QD.verditerref05_Rename.l0 f t l (renTo t l i 0) (i : Int)) (renT t l, 0) := by
    intro d
    induction d with
    | zero =>
      intro i hi
      obtain rfl : i = t.length := by omega
      exact Ev.step (fun f => by simp only [QD.verditerref05_Rename.l0]; rw [if_neg (by omega), ren_end ho]) (Ev.now _)
    | succ d ih =>
      intro i hi
      have hi' : i < t.length := by omega
      have hti := ho.to_lt hi'
      have l1 : ∀ e k, k + e = t.length → Ev (fun f => QD.verditerref05_Rename.l1 f t l (renTo t l i k) (i : Int) (k : Int)) (renT t l, 0) := by
        intro e
        induction e with
        | zero =>
          intro k hk
          obtain rfl : k = t.length := by omega
          refine Ev.step (fun f => ?_) (ih (i + 1) (by omega))
          simp only [QD.verditerref05_Rename.l1]
          rw [if_neg (by omega), wrap_nat (n := t.length) hi' (by omega), ren_row ho]
        | succ e ih2 =>
          intro k hk
          have hk' : k < t.length := by omega
          have htk := ho.to_lt hk'
          refine Ev.step (fun f => ?_) (ih2 (k + 1) (by omega))
          simp only [QD.verditerref05_Rename.l1]
          rw [rd_nat, rd_nat, hti.2, htk.2, rdD_nat, rdD_nat, hbl, h.row i hi', hbr i k _ hti.1, rd_nat]
          rw [if_pos (by omega), if_pos (by omega), if_pos (by omega), if_pos (by omega), if_pos (by omega), if_pos (by omega), if_pos (by omega), if_pos (by omega), if_pos (by omega), if_pos (by omega), if_pos (by omega), wrap_nat (n := t.length) hk' (by omega), ← ren_step ho hi' hk']
          rfl
      refine Ev.step (f := fun f => QD.verditerref05_Rename.l1 f t l (renTo t l i 0) (i : Int) ((0 : Nat) : Int)) (fun f => ?_) (l1 t.length 0 (by omega))
      simp only [QD.verditerref05_Rename.l0]
      rw [if_pos (by omega)]
      rfl
  unfold QD.verditerref05_Rename.f
  refine Ev.bind (Ev_refOrdered t l) ?_
  rw [ordV_of (right_err h) ho]
  refine Ev.congr (fun k => if_pos rfl) (Ev.bind (Ev_copy h.rows (by omega)) ?_)
  have := l0 t.length 0 (by omega)
  rw [ren_start h] at this
  exact this
theorem Ev_sunRename {t : List (List Int)} (h : Right t) {l : List Int} (ho : Order t.length l) : Ev (fun k => QD.sun_Rename.f k t l) (renT t l, 0) := by
  have hn := h.len
  have hll := ho.len
  have hbl : ∀ i k, (renTo t l i k).length = t.length := fun i k => tabOf_len _ _
  have hbr : ∀ i k j, j < t.length → ((renTo t l i k).getD j []).length = t.length := fun i k j hj => tabOf_row _ hj
  have l0 : ∀ d i, i + d = t.length → Ev (fun f => QD.sun_Rename.l0 f t l (renTo t l i 0) (t.length : Int) (i : Int)) (renT t l, 0) := by
    intro d
    induction d with
    | zero =>
      intro i hi
      obtain rfl : i = t.length := by omega
      exact Ev.step (fun f => by simp only [QD.sun_Rename.l0]; rw [if_neg (by omega), ren_end ho]) (Ev.now _)
    | succ d ih =>
      intro i hi
      have hi' : i < t.length := by omega
      have hti := ho.to_lt hi'
      have l1 : ∀ e k, k + e = t.length → Ev (fun f => QD.sun_Rename.l1 f t l (renTo t l i k) (i : Int) (t.length : Int) (i : Int) (t.length : Int) (k : Int)) (renT t l, 0) := by
        intro e
        induction e with
        | zero =>
          intro k hk
          obtain rfl : k = t.length := by omega
          refine Ev.step (fun f => ?_) (ih (i + 1) (by omega))
          simp only [QD.sun_Rename.l1]
          rw [if_neg (by omega), wrap_nat (n := t.length) hi' (by omega), ren_row ho]
        | succ e ih2 =>
          intro k hk
          have hk' : k < t.length := by omega
          have htk := ho.to_lt hk'
          refine Ev.step (fun f => ?_) (ih2 (k + 1) (by omega))
          simp only [QD.sun_Rename.l1]
          rw [rd_nat, rd_nat, hti.2, htk.2, rdD_nat, rdD_nat, hbl, h.row i hi', hbr i k _ hti.1, rd_nat]
          rw [if_pos (by omega), if_pos (by omega), if_pos (by omega), if_pos (by omega), if_pos (by omega), if_pos (by omega), if_pos (by omega), if_pos (by omega), if_pos (by omega), if_pos (by omega), if_pos (by omega), wrap_nat (n := t.length) hk' (by omega), ← ren_step ho hi' hk']
          rfl
      refine Ev.step (f := fun f => QD.sun_Rename.l1 f t l (renTo t l i 0) (i : Int) (t.length : Int) (i : Int) (t.length : Int) ((0 : Nat) : Int)) (fun f => ?_) (l1 t.length 0 (by omega))
      simp only [QD.sun_Rename.l0]
      rw [if_pos (by omega)]
      rfl
  unfold QD.sun_Rename.f
  refine Ev.congr (f := fun k => (QC.sun_clone.f k t).bind fun u => QD.sun_Rename.l0 k t l u (t.length : Int) 0) (fun k => by rw [sunOrdered_eq, Option.bind_some, ordV_of (right_err h) ho, if_pos rfl]) (Ev.bind (Ev_clone h) ?_)
  have := l0 t.length 0 (by omega)
  rw [ren_start h] at this
  exact this
theorem ups_ren {t : List (List Int)} {l : List Int} (ho : Order t.length l) : ∀ p : List Int, (∀ y ∈ p, 0 ≤ y ∧ y < (t.length : Int)) → ups (renT t l) p = ups t (p.map fun x => (idxO l x.toNat : Int))
  | [], _ => rfl
  | x :: p, hm => by
    have hx := hm x (by simp)
    simp only [ups, List.map_cons]
    rw [ups_ren ho p (fun y hy => hm y (by simp [hy]))]
    congr 1
    unfold over
    rw [List.map_map]
    congr 1
    refine List.map_congr_left fun y hy => ?_
    have := hm y (by simp [hy])
    simp only [Function.comp, Int.toNat_natCast]
    exact renT_ent l (by omega) (by omega)
theorem Order.mapped {n : Nat} {f : Nat → Nat} (hf : ∀ a, a < n → f a < n) (hi : ∀ a b, a < n → b < n → f a = f b → a = b) {p : List Int} (hp : Order n p) : Order n (p.map fun x => (f x.toNat : Int)) := by
  refine Order.of_valid ?_ (by rw [List.length_map, hp.len]) (fun x hx => ?_)
  · have hn := hp.nodup
    have hm := fun x => hp.mem (x := x)
    unfold List.Nodup at hn ⊢
    rw [List.pairwise_map]
    refine hn.imp_of_mem (fun {a b} ha hb hab e => hab ?_)
    have h1 := (hm a).1 ha
    have h2 := (hm b).1 hb
    have := hi a.toNat b.toNat (by omega) (by omega) (by omega)
    omega
  · obtain ⟨y, hy, rfl⟩ := List.mem_map.1 hx
    have := hp.mem.1 hy
    have := hf y.toNat (by omega)
    omega
theorem ren_least {t : List (List Int)} (h : Right t) {l : List Int} (ho : Order t.length l) : (rankS (renT t l)).2 = (rankS t).2 := by
  obtain ⟨o1, e1, m1⟩ := least_spec h
  obtain ⟨o2, e2, m2⟩ := least_spec (h.ren ho)
  rw [renT_len] at o2 m2
  have a1 := m1 _ (o2.mapped (f := idxO l) (fun a ha => (ho.idx_lt ha).1) (fun a b ha hb e => by rw [← (ho.idx_lt ha).2, ← (ho.idx_lt hb).2, e]))
  rw [← ups_ren ho _ (fun y hy => o2.mem.1 hy), ← e2] at a1
  have o3 := o1.mapped (f := toO l) (fun a ha => (ho.to_lt ha).1) (fun a b ha hb e => ho.to_inj ha hb e)
  have a2 := m2 _ o3
  rw [ups_ren ho _ (fun y hy => o3.mem.1 hy), List.map_map] at a2
  have e3 : ((rankS t).1.map ((fun x => (idxO l x.toNat : Int)) ∘ fun x => (toO l x.toNat : Int))) = (rankS t).1 := by
    have : ∀ p : List Int, (∀ y ∈ p, 0 ≤ y ∧ y < (t.length : Int)) → p.map ((fun x => (idxO l x.toNat : Int)) ∘ fun x => (toO l x.toNat : Int)) = p := by
      intro p hp
      induction p with
      | nil => rfl
      | cons y p ih =>
        rw [List.map_cons, ih (fun z hz => hp z (by simp [hz]))]
        have := hp y (by simp)
        simp only [Function.comp, Int.toNat_natCast]
        rw [ho.idx_to (by omega)]
        congr 1
        omega
    exact this _ (fun y hy => o1.mem.1 hy)
  rw [e3, ← e1] at a2
  omega

/-! ### one more strip -/
theorem perm_of_cover' {m p : List Int} (hm : m.Nodup) (hp : p.Nodup) (h : ∀ x, x ∈ m ↔ x ∈ p) : m.Perm p :=
  (List.perm_ext_iff_of_nodup hm hp).2 h
def addTo (t : List (List Int)) (b : List Int) (i : Nat) : List (List Int) := (List.range t.length).map fun j => if j < i then t.getD j [] ++ [1 - b.getD j 0] else t.getD j []
def addT (t : List (List Int)) (b : List Int) : List (List Int) := addTo t b t.length ++ [b ++ [0]]
theorem addTo_len (t : List (List Int)) (b : List Int) (i : Nat) : (addTo t b i).length = t.length := by simp [addTo]
theorem addTo_get (t : List (List Int)) (b : List Int) (i : Nat) {j : Nat} (hj : j < t.length) : (addTo t b i).getD j [] = if j < i then t.getD j [] ++ [1 - b.getD j 0] else t.getD j [] := by
  unfold addTo
  rw [List.getD_eq_getElem?_getD, List.getElem?_map, List.getElem?_range hj]; rfl
theorem addTo_start (t : List (List Int)) (b : List Int) : addTo t b 0 = t := by
  refine List.ext_getElem (addTo_len t b 0) fun j h1 h2 => ?_
  have := addTo_get t b 0 h2
  rw [List.getD_eq_getElem?_getD, List.getElem?_eq_getElem h1, if_neg (by omega), List.getD_eq_getElem?_getD, List.getElem?_eq_getElem h2] at this
  exact this
theorem addTo_step (t : List (List Int)) (b : List Int) {i : Nat} (hi : i < t.length) : (addTo t b i).set i ((addTo t b i).getD i [] ++ [1 - b.getD i 0]) = addTo t b (i + 1) := by
  refine List.ext_getElem (by rw [List.length_set, addTo_len, addTo_len]) fun j h1 h2 => ?_
  rw [List.length_set, addTo_len] at h1
  have h3 := addTo_get t b i h1
  have h4 := addTo_get t b (i + 1) h1
  rw [List.getD_eq_getElem?_getD, List.getElem?_eq_getElem h2] at h4
  simp only [Option.getD_some] at h4
  rw [h4, List.getElem_set]
  by_cases e : i = j
  · subst e
    rw [if_pos rfl, h3, if_neg (by omega), if_pos (by omega)]
  · rw [if_neg e]
    rw [List.getD_eq_getElem?_getD, List.getElem?_eq_getElem (by rw [addTo_len]; exact h1)] at h3
    simp only [Option.getD_some] at h3
    rw [h3]
    by_cases e2 : j < i
    · rw [if_pos e2, if_pos (by omega)]
    · rw [if_neg e2, if_neg (by omega)]
theorem addT_len (t : List (List Int)) (b : List Int) : (addT t b).length = t.length + 1 := by simp [addT, addTo_len]
theorem addT_row (t : List (List Int)) (b : List Int) {j : Nat} (hj : j < t.length) : (addT t b).getD j [] = t.getD j [] ++ [1 - b.getD j 0] := by
  unfold addT
  rw [List.getD_eq_getElem?_getD, List.getElem?_append_left (by rw [addTo_len]; exact hj), ← List.getD_eq_getElem?_getD, addTo_get t b _ hj, if_pos hj]
theorem addT_last (t : List (List Int)) (b : List Int) : (addT t b).getD t.length [] = b ++ [0] := by
  unfold addT
  rw [List.getD_eq_getElem?_getD, List.getElem?_append_right (by rw [addTo_len]; exact Nat.le_refl _), addTo_len, Nat.sub_self]
  rfl
theorem addT_ent {t : List (List Int)} (h : Right t) {b : List Int} (hb : b.length = t.length) (i k : Nat) :
    ent (addT t b) i k = if i < t.length then (if k < t.length then ent t i k else if k = t.length then 1 - b.getD i 0 else 0) else if i = t.length then (if k < t.length then b.getD k 0 else 0) else 0 := by
  by_cases hi : i < t.length
  · rw [if_pos hi]
    unfold ent
    rw [addT_row t b hi]
    have hr := h.row i hi
    by_cases hk : k < t.length
    · rw [if_pos hk, List.getD_eq_getElem?_getD, List.getElem?_append_left (by omega), ← List.getD_eq_getElem?_getD]
    · rw [if_neg hk, List.getD_eq_getElem?_getD, List.getElem?_append_right (by omega), hr]
      by_cases e : k = t.length
      · rw [if_pos e, e, Nat.sub_self]; rfl
      · rw [if_neg e, List.getElem?_eq_none (by simp; omega)]; rfl
  · rw [if_neg hi]
    by_cases e : i = t.length
    · rw [if_pos e, e]
      unfold ent
      rw [addT_last]
      by_cases hk : k < t.length
      · rw [if_pos hk, List.getD_eq_getElem?_getD, List.getElem?_append_left (by omega), ← List.getD_eq_getElem?_getD]
      · rw [if_neg hk, List.getD_eq_getElem?_getD, List.getElem?_append_right (by omega)]
        by_cases e2 : k = t.length
        · rw [e2, hb, Nat.sub_self]; rfl
        · rw [List.getElem?_eq_none (by simp; omega)]; rfl
    · rw [if_neg e]
      exact ent_out (by rw [addT_len]; omega) k
theorem bits_get {b : List Int} (hb : ∀ x ∈ b, x = 0 ∨ x = 1) (i : Nat) : b.getD i 0 = 0 ∨ b.getD i 0 = 1 := by
  by_cases hi : i < b.length
  · exact hb _ (getD_mem hi)
  · rw [List.getD_eq_getElem?_getD, List.getElem?_eq_none (by omega)]; exact .inl rfl
theorem Right.add {t : List (List Int)} (h : Right t) (h6 : t.length ≤ 6) {b : List Int} (hb : b.length = t.length) (hbit : ∀ x ∈ b, x = 0 ∨ x = 1) : Right (addT t b) := by
  have hl := addT_len t b
  have he := addT_ent h hb
  have hbg := bits_get hbit
  refine ⟨by omega, by omega, fun i hi => ?_, fun i k => ?_, fun i => ?_, fun i k hi hk hne => ?_⟩
  · rw [hl] at hi ⊢
    by_cases e : i < t.length
    · rw [addT_row t b e, List.length_append, h.row i e]; rfl
    · obtain rfl : i = t.length := by omega
      rw [addT_last, List.length_append, hb]; rfl
  · rw [he]
    have h1 := h.bit i k
    have h2 := hbg i
    have h3 := hbg k
    split
    · split
      · exact h1
      · split <;> omega
    · split
      · split <;> omega
      · exact .inl rfl
  · rw [he]
    have h1 := h.diag i
    split
    · exact h1
    · split <;> rfl
  · rw [hl] at hi hk
    rw [he, he]
    by_cases e1 : i < t.length
    · by_cases e2 : k < t.length
      · rw [if_pos e1, if_pos e2, if_pos e2, if_pos e1]; exact h.anti i k e1 e2 hne
      · obtain rfl : k = t.length := by omega
        rw [if_pos e1, if_neg e2, if_pos rfl, if_neg e2, if_pos rfl, if_pos e1]; omega
    · obtain rfl : i = t.length := by omega
      have e2 : k < t.length := by omega
      rw [if_neg e1, if_pos rfl, if_pos e2, if_pos e2, if_neg e1, if_pos rfl]; omega
theorem over_filter {t u : List (List Int)} (hu : Right u) {n : Nat} {x : Int} (he : ∀ i, i < n → ent u i x.toNat = ent t i x.toNat) : ∀ l : List Int, (∀ y ∈ l, 0 ≤ y) → over t (l.filter fun y => decide (y < (n : Int))) x ≤ over u l x
  | [], _ => Int.le_refl _
  | y :: l, h0 => by
    have ih := over_filter hu he l (fun z hz => h0 z (by simp [hz]))
    have hy := h0 y (by simp)
    have c : over u (y :: l) x = ent u y.toNat x.toNat + over u l x := by simp [over]
    rw [c, List.filter_cons]
    by_cases e : y < (n : Int)
    · rw [if_pos (decide_eq_true e)]
      have c2 : ∀ m, over t (y :: m) x = ent t y.toNat x.toNat + over t m x := fun m => by simp [over]
      rw [c2, he y.toNat (by omega)]
      omega
    · rw [if_neg (by simpa using e)]
      rcases hu.bit y.toNat x.toNat with b | b <;> omega
theorem ups_filter {t u : List (List Int)} (hu : Right u) {n : Nat} (he : ∀ i, i < n → ∀ k, k < n → ent u i k = ent t i k) : ∀ l : List Int, (∀ y ∈ l, 0 ≤ y) → ups t (l.filter fun y => decide (y < (n : Int))) ≤ ups u l
  | [], _ => Int.le_refl _
  | x :: l, h0 => by
    have ih := ups_filter hu he l (fun z hz => h0 z (by simp [hz]))
    have hx := h0 x (by simp)
    rw [List.filter_cons]
    by_cases e : x < (n : Int)
    · rw [if_pos (decide_eq_true e)]
      simp only [ups]
      have := over_filter (t := t) hu (n := n) (x := x) (fun i hi => he i hi x.toNat (by omega)) l (fun z hz => h0 z (by simp [hz]))
      omega
    · rw [if_neg (by simpa using e)]
      simp only [ups]
      have := over_nonneg hu l x
      omega
theorem add_least {t : List (List Int)} (h : Right t) (h6 : t.length ≤ 6) {b : List Int} (hb : b.length = t.length) (hbit : ∀ x ∈ b, x = 0 ∨ x = 1) : (rankS t).2 ≤ (rankS (addT t b)).2 := by
  have hA := h.add h6 hb hbit
  obtain ⟨o1, e1, m1⟩ := least_spec h
  obtain ⟨o2, e2, m2⟩ := least_spec hA
  rw [addT_len] at o2
  have hf := ups_filter (t := t) hA (n := t.length) (fun i hi k hk => by rw [addT_ent h hb, if_pos hi, if_pos hk]) (rankS (addT t b)).1 (fun y hy => (o2.mem.1 hy).1)
  have ho : Order t.length ((rankS (addT t b)).1.filter fun y => decide (y < (t.length : Int))) := by
    refine List.Perm.symm (perm_of_cover' (nums0_nodup _) (o2.nodup.sublist List.filter_sublist) fun x => ?_)
    rw [mem_nums0, List.mem_filter, o2.mem, decide_eq_true_eq]
    omega
  have := m1 _ ho
  omega
def addV (t : List (List Int)) (b : List Int) : Int := if errV t = 0 then (if isBitsB b t.length = true then (if (t.length : Int) = 7 then 3 else 0) else 1) else errV t
theorem addV_yes {t : List (List Int)} {b : List Int} (hv : addV t b = 0) : errV t = 0 ∧ b.length = t.length ∧ (∀ x ∈ b, x = 0 ∨ x = 1) ∧ t.length ≤ 6 := by
  unfold addV at hv
  by_cases he : errV t = 0
  · rw [if_pos he] at hv
    by_cases hb : isBitsB b t.length = true
    · rw [if_pos hb] at hv
      by_cases h7 : (t.length : Int) = 7
      · rw [if_pos h7] at hv; cases hv
      · unfold isBitsB at hb
        simp only [Bool.and_eq_true, decide_eq_true_eq, List.all_eq_true] at hb
        have := errV_len he
        exact ⟨he, by omega, hb.2, by omega⟩
    · rw [if_neg hb] at hv; cases hv
  · rw [if_neg he] at hv; exact absurd hv he
theorem Ev_refAdd_yes {t : List (List Int)} {b : List Int} (hv : addV t b = 0) : Ev (fun k => QD.verditerref05_Add.f k t b) (addT t b, 0) := by
  obtain ⟨he, hb, hbit, h6⟩ := addV_yes hv
  have h := Right.of he
  have hbg := bits_get hbit
  have l1 : ∀ d i, i + d = t.length → Ev (fun f => QD.verditerref05_Add.l1 f t b (addTo t b i) (i : Int)) (addT t b, 0) := by
    intro d
    induction d with
    | zero =>
      intro i hi
      obtain rfl : i = t.length := by omega
      refine Ev.step (f := fun _ => some (addT t b, (0 : Int))) (fun f => ?_) (Ev.now _)
      simp only [QD.verditerref05_Add.l1]
      rw [if_neg (by omega), Option.bind_some, if_pos (by rw [List.length_nil]; omega), Option.bind_some, List.nil_append, if_pos (by omega), if_pos (by rw [addTo_len]; omega)]
      rfl
    | succ d ih =>
      intro i hi
      have hi' : i < t.length := by omega
      have hr := h.row i hi'
      have hrow : ((addTo t b i).getD i []).length = t.length := by rw [addTo_get t b i hi', if_neg (by omega), hr]
      refine Ev.step (fun f => ?_) (ih (i + 1) (by omega))
      simp only [QD.verditerref05_Add.l1]
      rw [if_pos (by omega), if_pos (by omega), if_pos (by rw [addTo_len]; omega), if_pos (by omega), rdD_nat, if_pos (by omega), rd_nat, wrap_nat (n := t.length) hi' (by omega), wrap_small (by have := hbg i; omega) (by have := hbg i; omega), Int.toNat_natCast, addTo_step t b hi']
  have l0 : ∀ d i, i + d = b.length → Ev (fun f => QD.verditerref05_Add.l0 f t b (i : Int)) (addT t b, 0) := by
    intro d
    induction d with
    | zero =>
      intro i hi
      refine Ev.step (f := fun f => (QC.verditerref01_CopyTable.f f t).bind fun u => QD.verditerref05_Add.l1 f t b u 0) (fun f => ?_) (Ev.bind (Ev_copy h.rows (by omega)) ?_)
      · simp only [QD.verditerref05_Add.l0]
        rw [if_neg (by omega), if_neg (by omega)]
      · have := l1 t.length 0 (by omega)
        rw [addTo_start] at this
        exact this
    | succ d ih =>
      intro i hi
      have hg := hbg i
      refine Ev.step (fun f => ?_) (ih (i + 1) (by omega))
      simp only [QD.verditerref05_Add.l0, QO.verditerref01_Within.f]
      rw [if_pos (by omega), if_pos (by omega), rd_nat, if_pos (by omega), Option.bind_some, if_pos (decide_eq_true (by omega)), wrap_nat (n := b.length) (by omega) (by omega)]
  refine Ev.congr (fun k => ?_) (l0 b.length 0 (by omega))
  simp only [QD.verditerref05_Add.f, verditerref05_Validate.f]
  rw [Option.bind_some, if_pos he, if_pos (by omega)]
  rfl
theorem Ev_refAdd_no {t : List (List Int)} {b : List Int} (hv : addV t b ≠ 0) (hbl : b.length ≤ 1000) : Ev (fun k => QD.verditerref05_Add.f k t b) ([], addV t b) := by
  by_cases he : errV t = 0
  · have hn := errV_len he
    by_cases hlen : (b.length : Int) = (t.length : Int)
    · have hadd : addV t b = if isBitsB b t.length = true then (if (t.length : Int) = 7 then 3 else 0) else 1 := by unfold addV; rw [if_pos he]
      have hbits : isBitsB b t.length = true ↔ ∀ x ∈ b, x = 0 ∨ x = 1 := by
        unfold isBitsB
        simp only [Bool.and_eq_true, decide_eq_true_eq, List.all_eq_true]
        exact ⟨fun h => h.2, fun h => ⟨hlen, h⟩⟩
      have l0 : ∀ d i, i + d = b.length → (∀ j, j < i → b.getD j 0 = 0 ∨ b.getD j 0 = 1) → Ev (fun f => QD.verditerref05_Add.l0 f t b (i : Int)) ([], addV t b) := by
        intro d
        induction d with
        | zero =>
          intro i hi hp
          have hB : isBitsB b t.length = true := hbits.2 fun x hx => by
            obtain ⟨j, hj, rfl⟩ := List.getElem_of_mem hx
            have := hp j (by omega)
            rwa [List.getD_eq_getElem?_getD, List.getElem?_eq_getElem hj] at this
          rw [if_pos hB] at hadd
          have h7 : (t.length : Int) = 7 := by
            by_cases h7 : (t.length : Int) = 7
            · exact h7
            · rw [if_neg h7] at hadd; exact absurd hadd hv
          rw [hadd, if_pos h7]
          refine Ev.step (fun f => ?_) (Ev.now _)
          simp only [QD.verditerref05_Add.l0]
          rw [if_neg (by omega), if_pos h7]
        | succ d ih =>
          intro i hi hp
          by_cases hg : b.getD i 0 = 0 ∨ b.getD i 0 = 1
          · refine Ev.step (fun f => ?_) (ih (i + 1) (by omega) (fun j hj => by
              by_cases e : j = i
              · subst e; exact hg
              · exact hp j (by omega)))
            simp only [QD.verditerref05_Add.l0, QO.verditerref01_Within.f]
            rw [if_pos (by omega), if_pos (by omega), rd_nat, if_pos (by omega), Option.bind_some, if_pos (decide_eq_true (by omega)), wrap_nat (n := b.length) (by omega) (by omega)]
          · have hB : ¬ isBitsB b t.length = true := fun hB => hg (hbits.1 hB _ (getD_mem (by omega)))
            rw [hadd, if_neg hB]
            refine Ev.step (fun f => ?_) (Ev.now _)
            simp only [QD.verditerref05_Add.l0, QO.verditerref01_Within.f]
            rw [if_pos (by omega), if_pos (by omega), rd_nat]
            by_cases h0 : b.getD i 0 ≥ 0
            · rw [if_pos h0, Option.bind_some, if_neg (by rw [decide_eq_true_eq]; omega)]
            · rw [if_neg h0, Option.bind_some, if_neg (by simp)]
      refine Ev.congr (fun k => ?_) (l0 b.length 0 (by omega) (fun j hj => absurd hj (by omega)))
      simp only [QD.verditerref05_Add.f, verditerref05_Validate.f]
      rw [Option.bind_some, if_pos he, if_pos hlen]
      rfl
    · have hB : ¬ isBitsB b t.length = true := fun hB => by
        unfold isBitsB at hB
        simp only [Bool.and_eq_true, decide_eq_true_eq] at hB
        exact hlen hB.1
      have hadd : addV t b = 1 := by unfold addV; rw [if_pos he, if_neg hB]
      rw [hadd]
      refine Ev.congr (fun k => ?_) (Ev.now _)
      simp only [QD.verditerref05_Add.f, verditerref05_Validate.f]
      rw [Option.bind_some, if_pos he, if_neg hlen]
  · have hadd : addV t b = errV t := by unfold addV; rw [if_neg he]
    rw [hadd]
    refine Ev.congr (fun k => ?_) (Ev.now _)
    simp only [QD.verditerref05_Add.f, verditerref05_Validate.f]
    rw [Option.bind_some, if_neg he]
theorem Ev_sunAdd_yes {t : List (List Int)} {b : List Int} (hv : addV t b = 0) : Ev (fun k => QD.sun_Add.f k t b) (addT t b, 0) := by
  obtain ⟨he, hb, hbit, h6⟩ := addV_yes hv
  have h := Right.of he
  have hbg := bits_get hbit
  have hB : isBitsB b t.length = true := by
    unfold isBitsB
    simp only [Bool.and_eq_true, decide_eq_true_eq, List.all_eq_true]
    exact ⟨by omega, hbit⟩
  have l0 : ∀ d i, i + d = t.length → Ev (fun f => QD.sun_Add.l0 f b (addTo t b i) b (b.length : Int) (i : Int)) (addT t b, 0) := by
    intro d
    induction d with
    | zero =>
      intro i hi
      obtain rfl : i = t.length := by omega
      refine Ev.step (f := fun _ => some (addT t b, (0 : Int))) (fun f => ?_) (Ev.now _)
      simp only [QD.sun_Add.l0, slices_Clone_int_int.f]
      rw [if_neg (by omega), if_pos (by omega), Option.bind_some, if_pos (by omega), if_pos (by rw [addTo_len]; omega)]
      rfl
    | succ d ih =>
      intro i hi
      have hi' : i < t.length := by omega
      have hr := h.row i hi'
      have hrow : ((addTo t b i).getD i []).length = t.length := by rw [addTo_get t b i hi', if_neg (by omega), hr]
      refine Ev.step (fun f => ?_) (ih (i + 1) (by omega))
      simp only [QD.sun_Add.l0]
      rw [if_pos (by omega), if_pos (by omega), if_pos (by omega), if_pos (by rw [addTo_len]; omega), rdD_nat, if_pos (by omega), rd_nat, wrap_nat (n := t.length) hi' (by omega), wrap_small (by have := hbg i; omega) (by have := hbg i; omega), Int.toNat_natCast, addTo_step t b hi']
  refine Ev.congr (f := fun k => (QC.sun_clone.f k t).bind fun u => QD.sun_Add.l0 k b u b (b.length : Int) 0) (fun k => ?_) (Ev.bind (Ev_clone h) ?_)
  · simp only [QD.sun_Add.f, sun_Validate.f, sun_isBits.f]
    rw [Option.bind_some, if_pos he, Option.bind_some, if_pos hB, if_neg (by omega)]
  · have := l0 t.length 0 (by omega)
    rw [addTo_start] at this
    exact this
theorem sunAdd_no {t : List (List Int)} {b : List Int} (hv : addV t b ≠ 0) (k : Nat) : QD.sun_Add.f k t b = some ([], addV t b) := by
  simp only [QD.sun_Add.f, sun_Validate.f, sun_isBits.f]
  unfold addV at hv ⊢
  rw [Option.bind_some]
  by_cases he : errV t = 0
  · rw [if_pos he] at hv ⊢
    rw [if_pos he, Option.bind_some]
    by_cases hB : isBitsB b t.length = true
    · rw [if_pos hB] at hv ⊢
      rw [if_pos hB]
      by_cases h7 : (t.length : Int) = 7
      · rw [if_pos h7, if_pos h7]
      · rw [if_neg h7] at hv; exact absurd rfl hv
    · rw [if_neg hB, if_neg hB]
  · rw [if_neg he, if_neg he]

/-! ### the law -/
theorem sunAdds_true (t : List (List Int)) (l b : List Int) (ht : t.length ≤ 9223372036854775807) : Ev (fun k => QD.verditerlaw05_sunAdds.f k t l b) true := by
  obtain ⟨c, hc, hs⟩ := Ev_Long t ht
  unfold QD.verditerlaw05_sunAdds.f
  refine Ev.bind hc ?_
  have hknown : Ev (fun k => QD.verditerlaw05_sunAdds.j0 k t l b true) true := Ev.step (fun k => by simp only [QD.verditerlaw05_sunAdds.j0]; rw [if_pos trivial]; rfl) (Ev.now _)
  cases c with
  | true => exact Ev.congr (fun k => if_pos rfl) hknown
  | false =>
    refine Ev.congr (f := fun k => if decide ((l.length : Int) > 40) = true then QD.verditerlaw05_sunAdds.j0 k t l b true else QD.verditerlaw05_sunAdds.j0 k t l b (decide ((b.length : Int) > 40))) (fun k => by rw [if_neg (by simp)]; rfl) ?_
    by_cases hm : (l.length : Int) > 40
    · exact Ev.congr (fun k => if_pos (decide_eq_true hm)) hknown
    refine Ev.congr (fun k => if_neg (by rw [decide_eq_true_eq]; exact hm)) ?_
    by_cases hm2 : (b.length : Int) > 40
    · rw [decide_eq_true hm2]; exact hknown
    rw [decide_eq_false hm2]
    -- what both sides answer
    have hR : ∃ a e, Ev (fun k => QD.verditerref05_Rename.f k t l) (a, e) ∧ Ev (fun k => QD.sun_Rename.f k t l) (a, e) ∧ (∀ x ∈ a, x.length ≤ 1000) ∧ a.length ≤ 1000 ∧ (e = 0 → errV t = 0 ∧ Right a ∧ (rankS a).2 = (rankS t).2) := by
      by_cases ho : ordV t l = 0
      · obtain ⟨he, hO⟩ := ordV_yes ho
        have h := Right.of he
        have hr := h.ren hO
        have hn := h.len
        exact ⟨_, _, Ev_refRename h hO, Ev_sunRename h hO, hr.rows, by rw [renT_len]; omega, fun _ => ⟨he, hr, ren_least h hO⟩⟩
      · refine ⟨[], ordV t l, ?_, ?_, by simp, by simp, fun e => absurd e ho⟩
        · unfold QD.verditerref05_Rename.f
          exact Ev.bind (Ev_refOrdered t l) (Ev.congr (fun k => if_neg ho) (Ev.now _))
        · refine Ev.congr (fun k => ?_) (Ev.now _)
          unfold QD.sun_Rename.f
          rw [sunOrdered_eq, Option.bind_some, if_neg ho]
    have hA : ∃ a e, Ev (fun k => QD.verditerref05_Add.f k t b) (a, e) ∧ Ev (fun k => QD.sun_Add.f k t b) (a, e) ∧ (∀ x ∈ a, x.length ≤ 1000) ∧ a.length ≤ 1000 ∧ (e = 0 → errV t = 0 ∧ Right a ∧ (rankS t).2 ≤ (rankS a).2) := by
      by_cases ho : addV t b = 0
      · obtain ⟨he, hb, hbit, h6⟩ := addV_yes ho
        have h := Right.of he
        have hr := h.add h6 hb hbit
        have hn := h.len
        exact ⟨_, _, Ev_refAdd_yes ho, Ev_sunAdd_yes ho, hr.rows, by rw [addT_len]; omega, fun _ => ⟨he, hr, add_least h h6 hb hbit⟩⟩
      · exact ⟨[], addV t b, Ev_refAdd_no ho (by omega), Ev.congr (fun k => sunAdd_no ho k) (Ev.now _), by simp, by simp, fun e => absurd e ho⟩
    obtain ⟨a1, e1, r1, r2, r3, r4, r5⟩ := hR
    obtain ⟨a2, e2, q1, q2, q3, q4, q5⟩ := hA
    refine Ev.step (f := fun k => (QD.verditerref05_Rename.f k t l).bind fun bt173 => (QD.verditerref05_Add.f k t b).bind fun bt177 => (QD.sun_Rename.f k t l).bind fun bt181 => (QD.sun_Add.f k t b).bind fun bt185 => (QC.verditerref01_SameTables.f k bt181.1 bt173.1).bind fun t189 => if t189 = true then (if bt181.2 = bt173.2 then (QC.verditerref01_SameTables.f k bt185.1 bt177.1).bind fun t190 => if t190 = true then QD.verditerlaw05_sunAdds.j1 k t bt181.1 bt181.2 bt185.1 bt185.2 (bt185.2 != bt177.2) else QD.verditerlaw05_sunAdds.j1 k t bt181.1 bt181.2 bt185.1 bt185.2 true else QD.verditerlaw05_sunAdds.j1 k t bt181.1 bt181.2 bt185.1 bt185.2 true) else QD.verditerlaw05_sunAdds.j1 k t bt181.1 bt181.2 bt185.1 bt185.2 true) (fun k => by simp only [QD.verditerlaw05_sunAdds.j0]; rw [if_neg (by simp)]) ?_
    refine Ev.bind r1 (Ev.bind q1 (Ev.bind r2 (Ev.bind q2 (Ev.bind (Ev_sameT r3 r4) ?_))))
    refine Ev.congr (fun k => by rw [if_pos rfl, if_pos rfl]) (Ev.bind (Ev_sameT q3 q4) ?_)
    refine Ev.congr (f := fun k => QD.verditerlaw05_sunAdds.j1 k t a1 e1 a2 e2 false) (fun k => by rw [if_pos rfl, bne_self_eq_false]) ?_
    have j2 : ∀ x y : Int, (errV t = 0 → x = (rankS t).2 ∧ y = 0) → Ev (fun k => QD.verditerlaw05_sunAdds.j2 k a2 e2 x y) true := by
      intro x y hxy
      refine Ev.step (fun k => ?_) (Ev.now _)
      simp only [QD.verditerlaw05_sunAdds.j2]
      by_cases h0 : e2 = 0
      · obtain ⟨he, hr, hle⟩ := q5 h0
        obtain ⟨rfl, rfl⟩ := hxy he
        rw [if_pos h0, sunFewest_yes (right_err hr), Option.bind_some, if_pos rfl, if_pos rfl, if_neg (by omega)]
        rfl
      · rw [if_neg h0]
        rfl
    by_cases he : errV t = 0
    · have hj2 := j2 (rankS t).2 0 (fun _ => ⟨rfl, rfl⟩)
      refine Ev.step (fun k => ?_) hj2
      simp only [QD.verditerlaw05_sunAdds.j1]
      rw [if_neg (by simp), sunFewest_yes he, Option.bind_some]
      by_cases h1 : e1 = 0
      · obtain ⟨_, hr, hle⟩ := r5 h1
        rw [if_pos h1, sunFewest_yes (right_err hr), Option.bind_some, if_pos rfl, if_pos rfl, if_pos hle.symm]
      · rw [if_neg h1]
    · have hj2 := j2 0 (errV t) (fun e => absurd e he)
      refine Ev.step (fun k => ?_) hj2
      simp only [QD.verditerlaw05_sunAdds.j1]
      rw [if_neg (by simp), sunFewest_no he, Option.bind_some, if_neg (fun e => he (r5 e).1)]
theorem pureSunAdds {A : Option Addr} {n c : Nat} {T : List (List Int)} {B : Option Addr} {m d : Nat} {l : List Int} {C : Option Addr} {p q : Nat} {b : List Int} {W : World} (g : Kd.C (Kd.slice 3 (Kd.int .i64)) W A n T) (hf : ∀ l ∈ T, ∀ x ∈ l, (Lit.int .i64 x).wf = true) (hn : n ≤ c)
    (g2 : Kd.C (Kd.int .i64) W B m l) (hf2 : ∀ x ∈ l, (Lit.int .i64 x).wf = true) (hm : m ≤ d) (g3 : Kd.C (Kd.int .i64) W C p b) (hf3 : ∀ x ∈ b, (Lit.int .i64 x).wf = true) (hp : p ≤ q) :
    Calls Try.prog 26 #[.slice A n c, .slice B m d, .slice C p q] W fun e w' => e = .returned (.bool true) ∧ Below W.heap.size W w' := by
  obtain rfl : T.length = n := g.1
  obtain rfl : l.length = m := g2.1
  obtain rfl : b.length = p := g3.1
  obtain ⟨k, hk⟩ := (sunAdds_true T l b g.2.1).rounds
  exact QD.verditerlaw05_sunAdds.calls k A c T B d l C q b true W g hn g2 hm g3 hp hk
end Go.Proofs.Ytbnjffhcpkfnhaa.H
