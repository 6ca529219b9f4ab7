/- Wins that can be won: if the one that needs the fewest beats those that need the fewest, what is left can be won too. -/
import Derived.Test.YtbnjffhcpkfnhaaHTn
namespace Go.Proofs.Ytbnjffhcpkfnhaa.H
open Go.RowKit
set_option linter.unusedVariables false
set_option linter.unusedSimpArgs false
/-- What some strips need together. -/
def sumD (d : Int → Int) (l : List Int) : Int := (l.map d).sum
theorem sumD_cons (d : Int → Int) (x : Int) (l : List Int) : sumD d (x :: l) = d x + sumD d l := by simp [sumD]
theorem sumD_append (d : Int → Int) (l m : List Int) : sumD d (l ++ m) = sumD d l + sumD d m := by simp [sumD]
theorem sumD_perm (d : Int → Int) {l m : List Int} (h : l.Perm m) : sumD d l = sumD d m := sum_perm (h.map d)
theorem nodup_in_len {l m : List Int} (hn : l.Nodup) (hs : ∀ x ∈ l, x ∈ m) : l.length ≤ m.length := by
  induction l generalizing m with
  | nil => exact Nat.zero_le _
  | cons x l ih =>
    have hx : x ∈ m := hs x (by simp)
    have := ih (m := m.erase x) (List.nodup_cons.1 hn).2 (fun y hy => by
      have hne : y ≠ x := fun e => (List.nodup_cons.1 hn).1 (e ▸ hy)
      exact (List.mem_erase_of_ne hne).2 (hs y (by simp [hy])))
    have hp := List.length_pos_of_mem hx
    rw [List.length_erase_of_mem hx] at this
    simp only [List.length_cons]
    omega
theorem perm_mem {l m : List Int} (h1 : l.Nodup) (h2 : m.Nodup) (h : ∀ x, x ∈ l ↔ x ∈ m) : l.Perm m :=
  perm_of_cover h2 (fun x hx => (h x).2 hx) (nodup_in_len h1 fun x hx => (h x).1 hx)
/-- Any of them need at least as many as there are pairs among them; all of them just as many. -/
structure CanNeed (left : List Int) (d : Int → Int) : Prop where
  sub : ∀ s : List Int, s.Nodup → (∀ x ∈ s, x ∈ left) → (s.length : Int) * ((s.length : Int) - 1) ≤ 2 * sumD d s
  all : (left.length : Int) * ((left.length : Int) - 1) = 2 * sumD d left
theorem least_of {P : List Int → Prop} {g : List Int → Int} (B : Int) (hB : ∀ s, P s → B ≤ g s) : ∀ (k : Nat) (T : List Int), P T → g T - B ≤ k → ∃ M, P M ∧ ∀ s, P s → g M ≤ g s
  | 0, T, hT, hk => ⟨T, hT, fun s hs => by have := hB s hs; omega⟩
  | k + 1, T, hT, hk => by
    by_cases h : ∃ s, P s ∧ g s < g T
    · obtain ⟨s, h1, h2⟩ := h
      exact least_of B hB k s h1 (by omega)
    · refine ⟨T, hT, fun s hs => ?_⟩
      apply Classical.byContradiction
      intro hn
      exact h ⟨s, hs, by omega⟩
/-- What they need when the strip is gone: those that beat it need one less. -/
def lessD (d : Int → Int) (D : List Int) (y : Int) : Int := if y ∈ D then d y - 1 else d y
theorem sumD_less (d : Int → Int) (D : List Int) : ∀ l : List Int, sumD (lessD d D) l = sumD d l - ((l.filter fun y => decide (y ∈ D)).length : Int)
  | [] => by simp [sumD]
  | y :: l => by
    rw [sumD_cons, sumD_cons, sumD_less d D l, List.filter_cons]
    unfold lessD
    by_cases e : y ∈ D
    · rw [if_pos e, if_pos (decide_eq_true e), List.length_cons]; omega
    · rw [if_neg e, if_neg (by rw [decide_eq_false e]; simp)]; omega
theorem sumD_same {d : Int → Int} {c : Int} : ∀ {l : List Int}, (∀ x ∈ l, d x = c) → sumD d l = l.length * c
  | [], _ => by simp [sumD]
  | y :: l, h => by
    rw [sumD_cons, sumD_same (fun x hx => h x (by simp [hx])), h y (by simp), List.length_cons, Int.natCast_succ, Int.add_mul]
    omega
theorem sumD_ge {d : Int → Int} {c : Int} : ∀ {l : List Int}, (∀ x ∈ l, c ≤ d x) → l.length * c ≤ sumD d l
  | [], _ => by simp [sumD]
  | y :: l, h => by
    have := sumD_ge (l := l) (fun x hx => h x (by simp [hx]))
    have := h y (by simp)
    rw [sumD_cons, List.length_cons, Int.natCast_succ, Int.add_mul]
    omega
theorem CanNeed.nonneg {left : List Int} {d : Int → Int} (h : CanNeed left d) {x : Int} (hx : x ∈ left) : 0 ≤ d x := by
  have := h.sub [x] (by simp) (by simpa using hx)
  simp [sumD] at this
  omega
/-- The fewest that one needs are no more than the others. -/
theorem CanNeed.few {x : Int} {rest : List Int} {d : Int → Int} (h : CanNeed (x :: rest) d) (hmin : ∀ y ∈ rest, d x ≤ d y) : 0 ≤ d x ∧ 2 * d x ≤ rest.length := by
  have h0 := h.nonneg (x := x) (by simp)
  refine ⟨h0, ?_⟩
  have h1 := sumD_ge (d := d) (c := d x) (l := x :: rest) (fun y hy => by
    rcases List.mem_cons.1 hy with rfl | hy
    · exact Int.le_refl _
    · exact hmin y hy)
  have h2 := h.all
  rw [List.length_cons, Int.natCast_succ] at h1 h2
  have h3 : ((rest.length : Int) + 1) * (2 * d x) ≤ ((rest.length : Int) + 1) * (rest.length : Int) := by
    have e1 : ((rest.length : Int) + 1) * (2 * d x) = 2 * (((rest.length : Int) + 1) * d x) := by rw [← Int.mul_assoc, Int.mul_comm _ 2, Int.mul_assoc]
    have e2 : ((rest.length : Int) + 1) * ((rest.length : Int) + 1 - 1) = ((rest.length : Int) + 1) * (rest.length : Int) := by rw [Int.add_sub_cancel]
    omega
  exact Int.le_of_mul_le_mul_left h3 (by omega)
theorem split_len {p : Int → Bool} (l : List Int) : (l.filter p).length + (l.filter fun x => !p x).length = l.length := by
  induction l with
  | nil => rfl
  | cons y l ih =>
    rw [List.filter_cons, List.filter_cons]
    cases p y <;> simp <;> omega
/-- One step. -/
theorem CanNeed.step {x : Int} {rest : List Int} {d : Int → Int} (h : CanNeed (x :: rest) d) (hn : (x :: rest).Nodup) (hs : (x :: rest).Pairwise fun a b => d a ≤ d b) : CanNeed rest (lessD d (rest.drop (d x).toNat)) := by
  obtain ⟨hmin, hs2⟩ := List.pairwise_cons.1 hs
  obtain ⟨hxn, hn2⟩ := List.nodup_cons.1 hn
  obtain ⟨hv0, hv⟩ := h.few hmin
  obtain ⟨v, ev⟩ := Int.eq_ofNat_of_zero_le hv0
  rw [ev, Int.toNat_natCast]
  rw [ev] at hv
  have hvl : v ≤ rest.length := by omega
  generalize hU : rest.take v = U
  generalize hD : rest.drop v = D
  have hr : rest = U ++ D := by rw [← hU, ← hD, List.take_append_drop]
  have hUl : U.length = v := by rw [← hU, List.length_take]; omega
  have hDl : D.length = rest.length - v := by rw [← hD, List.length_drop]
  have hUD : ∀ u ∈ U, ∀ t ∈ D, d u ≤ d t := by
    rw [hr, List.pairwise_append] at hs2
    exact hs2.2.2
  have hnU : U.Nodup := by rw [hr, List.nodup_append] at hn2; exact hn2.1
  have hdis : ∀ y, y ∈ U → y ∈ D → False := fun y h1 h2 => by
    rw [hr, List.nodup_append] at hn2
    exact hn2.2.2 y h1 y h2 rfl
  have hin : ∀ y, y ∈ rest ↔ y ∈ U ∨ y ∈ D := fun y => by rw [hr, List.mem_append]
  refine ⟨?_, ?_⟩
  · intro s0 hs0 hsub0
    apply Classical.byContradiction
    intro hbad
    -- a set that lacks the most
    obtain ⟨T, ⟨hT, hTs⟩, hleast⟩ := least_of (P := fun s => s.Nodup ∧ ∀ y ∈ s, y ∈ rest) (g := fun s => 2 * sumD (lessD d D) s - (s.length : Int) * ((s.length : Int) - 1)) (-(2 * (rest.length : Int)) - (rest.length : Int) * rest.length) (fun s ⟨h1, h2⟩ => by
      have h3 := nodup_in_len h1 h2
      have h4 := sumD_ge (d := lessD d D) (c := -1) (l := s) (fun y hy => by
        have := h.nonneg (x := y) (by simp [h2 y hy])
        unfold lessD
        split <;> omega)
      have h5 : (s.length : Int) * ((s.length : Int) - 1) ≤ (rest.length : Int) * rest.length := by
        by_cases e : s.length = 0
        · rw [e]; simp; exact Int.mul_nonneg (by omega) (by omega)
        · exact Int.mul_le_mul (by omega) (by omega) (by omega) (by omega)
      show _ ≤ 2 * sumD (lessD d D) s - _
      generalize (s.length : Int) * ((s.length : Int) - 1) = A at *
      generalize (rest.length : Int) * rest.length = B at *
      omega) _ s0 ⟨hs0, hsub0⟩ (Int.self_le_toNat _)
    have hneg : 2 * sumD (lessD d D) T - (T.length : Int) * ((T.length : Int) - 1) < 0 := by
      have := hleast s0 ⟨hs0, hsub0⟩
      generalize (T.length : Int) * ((T.length : Int) - 1) = A at *
      generalize (s0.length : Int) * ((s0.length : Int) - 1) = B at *
      omega
    have outer : ∀ y ∈ rest, y ∉ T → (T.length : Int) ≤ lessD d D y := fun y hy hyT => by
      have := hleast (y :: T) ⟨List.nodup_cons.2 ⟨hyT, hT⟩, fun z hz => by
        rcases List.mem_cons.1 hz with rfl | hz
        · exact hy
        · exact hTs z hz⟩
      rw [sumD_cons, List.length_cons, Int.natCast_succ] at this
      have e : ((T.length : Int) + 1) * ((T.length : Int) + 1 - 1) = (T.length : Int) * ((T.length : Int) - 1) + 2 * T.length := by
        simp only [Int.add_sub_cancel, Int.add_mul, Int.mul_sub, Int.one_mul, Int.mul_one]; omega
      rw [e] at this
      omega
    have inner : ∀ y ∈ T, lessD d D y ≤ (T.length : Int) - 1 := fun y hy => by
      have hp := List.perm_cons_erase hy
      have hl := List.length_erase_of_mem hy
      have hpos := List.length_pos_of_mem hy
      have := hleast (T.erase y) ⟨hT.erase y, fun z hz => hTs z (List.mem_of_mem_erase hz)⟩
      have e1 := sumD_perm (lessD d D) hp
      rw [sumD_cons] at e1
      rw [hl] at this
      have e2 : ((T.length - 1 : Nat) : Int) = (T.length : Int) - 1 := by omega
      rw [e2, e1] at this
      have e : ((T.length : Int) - 1) * ((T.length : Int) - 1 - 1) = (T.length : Int) * ((T.length : Int) - 1) - 2 * ((T.length : Int) - 1) := by
        simp only [Int.sub_mul, Int.mul_sub, Int.one_mul, Int.mul_one]; omega
      rw [e] at this
      omega
    have hle := sumD_less d D T
    generalize hj : T.length = j at *
    have hpd := split_len (p := fun y => decide (y ∈ D)) T
    generalize hP : T.filter (fun y => decide (y ∈ D)) = TD at *
    -- the sets that the pairs count
    have L1 := h.sub T hT (fun y hy => by simp [hTs y hy])
    have hxT : x ∉ T := fun hx => hxn (hTs x hx)
    have L2 := h.sub (x :: T) (List.nodup_cons.2 ⟨hxT, hT⟩) (fun y hy => by
      rcases List.mem_cons.1 hy with rfl | hy
      · simp
      · simp [hTs y hy])
    rw [sumD_cons, List.length_cons, hj, Int.natCast_succ, ev] at L2
    rw [hj] at L1
    have e2 : ((j : Int) + 1) * ((j : Int) + 1 - 1) = (j : Int) * ((j : Int) - 1) + 2 * j := by
      simp only [Int.add_sub_cancel, Int.add_mul, Int.mul_sub, Int.one_mul, Int.mul_one]; omega
    rw [e2] at L2
    have hTDpos : 0 < TD.length := by
      generalize (j : Int) * ((j : Int) - 1) = A at *
      omega
    have hvp : (j : Int) < v + TD.length := by
      generalize (j : Int) * ((j : Int) - 1) = A at *
      omega
    -- some of the fewest are not in it
    have hUT : (U.filter fun y => decide (y ∈ T)).Perm (T.filter fun y => !decide (y ∈ D)) := perm_mem (hnU.filter _) (hT.filter _) (fun y => by
      simp only [List.mem_filter, decide_eq_true_eq, Bool.not_eq_true', decide_eq_false_iff_not]
      constructor
      · rintro ⟨h1, h2⟩; exact ⟨h2, fun h3 => hdis y h1 h3⟩
      · rintro ⟨h1, h2⟩
        rcases (hin y).1 (hTs y h1) with h3 | h3
        · exact ⟨h3, h1⟩
        · exact absurd h3 h2)
    have hsU := split_len (p := fun y => decide (y ∈ T)) U
    have hlUT := hUT.length_eq
    generalize hQ : U.filter (fun y => !decide (y ∈ T)) = Q at *
    have hq : (Q.length : Int) = v + TD.length - j := by omega
    have hQpos : 0 < Q.length := by omega
    obtain ⟨u, hu⟩ := List.exists_mem_of_length_pos hQpos
    obtain ⟨t, ht⟩ := List.exists_mem_of_length_pos hTDpos
    have inQ : ∀ y ∈ Q, y ∈ U ∧ y ∉ T := fun y hy => by
      rw [← hQ, List.mem_filter] at hy
      exact ⟨hy.1, by simpa using hy.2⟩
    have inTD : ∀ y ∈ TD, y ∈ T ∧ y ∈ D := fun y hy => by
      rw [← hP, List.mem_filter] at hy
      exact ⟨hy.1, by simpa using hy.2⟩
    have lowQ : ∀ y ∈ Q, (j : Int) ≤ d y := fun y hy => by
      obtain ⟨h1, h2⟩ := inQ y hy
      have := outer y ((hin y).2 (.inl h1)) h2
      unfold lessD at this
      rw [if_neg (fun h3 => hdis y h1 h3)] at this
      exact this
    have highT : ∀ y ∈ TD, d y ≤ j := fun y hy => by
      obtain ⟨h1, h2⟩ := inTD y hy
      have := inner y h1
      unfold lessD at this
      rw [if_pos h2] at this
      omega
    have eqQ : ∀ y ∈ Q, d y = j := fun y hy => by
      have h1 := lowQ y hy
      have h2 := hUD y (inQ y hy).1 t (inTD t ht).2
      have h3 := highT t ht
      omega
    have L3 := h.sub (x :: (Q ++ T)) (List.nodup_cons.2 ⟨fun hx => by
        rcases List.mem_append.1 hx with h1 | h1
        · exact hxn ((hin x).2 (.inl (inQ x h1).1))
        · exact hxT h1, by
        rw [List.nodup_append]
        refine ⟨by rw [← hQ]; exact hnU.filter _, hT, fun a ha b hb e => ?_⟩
        subst e
        exact (inQ a ha).2 hb⟩) (fun y hy => by
      rcases List.mem_cons.1 hy with rfl | hy
      · simp
      · rcases List.mem_append.1 hy with h1 | h1
        · simp [(hin y).2 (.inl (inQ y h1).1)]
        · simp [hTs y h1])
    rw [sumD_cons, sumD_append, sumD_same eqQ, List.length_cons, List.length_append, hj, ev] at L3
    have hq1 : ((Q.length + j + 1 : Nat) : Int) = (Q.length : Int) + j + 1 := by omega
    rw [hq1] at L3
    have hq2 : (Q.length : Int) ≤ (Q.length : Int) * Q.length := by
      have := Int.mul_le_mul_of_nonneg_right (show (1 : Int) ≤ Q.length by omega) (show (0 : Int) ≤ (Q.length : Int) by omega)
      rw [Int.one_mul] at this
      exact this
    have e3 : ((Q.length : Int) + j + 1) * ((Q.length : Int) + j + 1 - 1) = (Q.length : Int) * Q.length + 2 * ((Q.length : Int) * j) + (j : Int) * ((j : Int) - 1) + 2 * j + Q.length := by
      have hc := Int.mul_comm (j : Int) (Q.length : Int)
      simp only [Int.add_sub_cancel, Int.add_mul, Int.mul_add, Int.mul_sub, Int.one_mul, Int.mul_one]
      omega
    rw [e3] at L3
    generalize (Q.length : Int) * Q.length = QQ at *
    generalize (Q.length : Int) * j = QJ at *
    generalize (j : Int) * ((j : Int) - 1) = A at *
    omega
  · have h1 := h.all
    have h2 := sumD_less d D rest
    have h3 : (rest.filter fun y => decide (y ∈ D)).length = D.length := by
      refine (perm_mem (hn2.filter _) (by rw [← hD]; exact (List.drop_sublist _ _).nodup hn2) (fun y => ?_)).length_eq
      simp only [List.mem_filter, decide_eq_true_eq]
      constructor
      · exact fun h => h.2
      · exact fun h => ⟨(hin y).2 (.inr h), h⟩
    rw [sumD_cons, List.length_cons, Int.natCast_succ, ev] at h1
    have e2 : ((rest.length : Int) + 1) * ((rest.length : Int) + 1 - 1) = (rest.length : Int) * ((rest.length : Int) - 1) + 2 * rest.length := by
      simp only [Int.add_sub_cancel, Int.add_mul, Int.mul_sub, Int.one_mul, Int.mul_one]; omega
    rw [e2] at h1
    rw [h2, h3]
    generalize (rest.length : Int) * ((rest.length : Int) - 1) = A at *
    omega
end Go.Proofs.Ytbnjffhcpkfnhaa.H
