/- The document's Groups: who reaches whom, by one strip between after another; the groups by how many they reach. -/
import Derived.Test.YtbnjffhcpkfnhaaQG3
import Derived.Test.YtbnjffhcpkfnhaaHTn
import Derived.Test.YtbnjffhcpkfnhaaHO
namespace Go.Proofs.Ytbnjffhcpkfnhaa.H
open Go.RowKit Go.Proofs.YtbnjffhcpkfnhaaW.PrintWords Go.Proofs.YtbnjffhcpkfnhaaW.PrintLast Go.Proofs.YtbnjffhcpkfnhaaW.PrintMore
set_option linter.unusedVariables false
set_option linter.unusedSimpArgs false
theorem rdG1_nat (xs : List (List Int)) (i : Nat) : QG.rd_L1 xs (i : Int) = xs.getD i [] := by simp [QG.rd_L1]
theorem rdG4_nat (xs : List (List Bool)) (i : Nat) : QG.rd_L4 xs (i : Int) = xs.getD i [] := by simp [QG.rd_L4]
theorem rdOf_nat (xs : List Bool) (i : Nat) : rdOf false xs (i : Int) = xs.getD i false := by simp [rdOf]
def rowB (n : Nat) (f : Nat → Bool) : List Bool := (List.range n).map f
def matB (n : Nat) (g : Nat → Nat → Bool) : List (List Bool) := (List.range n).map fun i => rowB n (g i)
theorem rowB_len (n : Nat) (f : Nat → Bool) : (rowB n f).length = n := by simp [rowB]
theorem rowB_get {n : Nat} (f : Nat → Bool) {k : Nat} (h : k < n) : (rowB n f).getD k false = f k := by
  unfold rowB
  rw [List.getD_eq_getElem?_getD, List.getElem?_map, List.getElem?_range h]; rfl
theorem rowB_congr {n : Nat} {f g : Nat → Bool} (h : ∀ k, k < n → f k = g k) : rowB n f = rowB n g := by
  unfold rowB
  refine List.map_congr_left fun k hk => h k (List.mem_range.1 hk)
theorem rowB_set {n : Nat} (f : Nat → Bool) {k : Nat} (v : Bool) : (rowB n f).set k v = rowB n (fun a => if a = k then v else f a) := by
  apply List.ext_getElem
  · simp [rowB]
  · intro j h1 h2
    simp only [rowB, List.getElem_set, List.getElem_map, List.getElem_range]
    by_cases e : k = j
    · rw [if_pos e, if_pos e.symm]
    · rw [if_neg e, if_neg (fun x => e x.symm)]
theorem matB_len (n : Nat) (g : Nat → Nat → Bool) : (matB n g).length = n := by simp [matB]
theorem matB_get {n : Nat} (g : Nat → Nat → Bool) {i : Nat} (h : i < n) : (matB n g).getD i [] = rowB n (g i) := by
  unfold matB
  rw [List.getD_eq_getElem?_getD, List.getElem?_map, List.getElem?_range h]; rfl
theorem matB_congr {n : Nat} {f g : Nat → Nat → Bool} (h : ∀ i, i < n → ∀ k, k < n → f i k = g i k) : matB n f = matB n g := by
  unfold matB
  refine List.map_congr_left fun i hi => rowB_congr fun k hk => h i (List.mem_range.1 hi) k hk
theorem matB_set {n : Nat} (g : Nat → Nat → Bool) {i k : Nat} (hi : i < n) (v : Bool) : (matB n g).set i ((rowB n (g i)).set k v) = matB n (fun a b => if a = i ∧ b = k then v else g a b) := by
  rw [rowB_set]
  apply List.ext_getElem
  · simp [matB]
  · intro j h1 h2
    simp only [matB, List.getElem_set, List.getElem_map, List.getElem_range]
    by_cases e : i = j
    · subst e
      rw [if_pos rfl]
      refine rowB_congr fun b _ => ?_
      by_cases e2 : b = k
      · rw [if_pos e2, if_pos ⟨rfl, e2⟩]
      · rw [if_neg e2, if_neg (fun x => e2 x.2)]
    · rw [if_neg e]
      exact rowB_congr fun b _ => by rw [if_neg (fun x => e x.1.symm)]
/-! ### who reaches whom -/
theorem reach_row {t : List (List Int)} (h : Right t) (out : List (List Bool)) (ho : out.length ≤ 7) {i : Nat} (hi : i < t.length) (R : List (List Bool))
    (hR : Ev (fun f => QG.verditerref05_reach.l0 f t (out ++ [rowB t.length (rB t 0 i)]) ((i + 1 : Nat) : Int)) R) :
    ∀ d k, k + d = t.length → Ev (fun f => QG.verditerref05_reach.l1 f t out (i : Int) (rowB t.length fun a => decide (a < k) && rB t 0 i a) (k : Int)) R := by
  have hn := h.len
  intro d
  induction d with
  | zero =>
    intro k hk
    obtain rfl : k = t.length := by omega
    refine Ev.step (fun f => ?_) hR
    simp only [QG.verditerref05_reach.l1]
    rw [if_neg (by omega), if_pos (by omega), wrap_nat (n := t.length) hi (by omega)]
    rw [show rowB t.length (fun a => decide (a < t.length) && rB t 0 i a) = rowB t.length (rB t 0 i) from rowB_congr fun a ha => by rw [decide_eq_true ha, Bool.true_and]]
  | succ d ih =>
    intro k hk
    have hk' : k < t.length := by omega
    have e0 : (rowB t.length fun a => decide (a < k) && rB t 0 i a).set k (rB t 0 i k) = rowB t.length fun a => decide (a < k + 1) && rB t 0 i a := by
      rw [rowB_set]
      refine rowB_congr fun a ha => ?_
      by_cases e : a = k
      · subst e; rw [if_pos rfl, decide_eq_true (Nat.lt_succ_self a), Bool.true_and]
      · rw [if_neg e]
        by_cases e2 : a < k
        · rw [decide_eq_true e2, decide_eq_true (show a < k + 1 by omega)]
        · rw [decide_eq_false e2, decide_eq_false (show ¬ a < k + 1 by omega)]
    refine Ev.step (fun f => ?_) (ih (k + 1) (by omega))
    simp only [QG.verditerref05_reach.l1]
    rw [if_pos (by omega), wrap_nat (n := t.length) hk' (by omega), Int.toNat_natCast, rowB_len, rdG1_nat, h.row i hi, rd_nat, ← e0]
    by_cases e : i = k
    · subst e
      rw [if_pos rfl, if_pos (by omega), if_pos (by omega), show rB t 0 i i = true by unfold rB; simp]
    · rw [if_neg (by omega), if_pos (by omega), if_pos (by omega), if_pos (by omega), if_pos (by omega), if_pos (by omega)]
      rw [show rB t 0 i k = ((t.getD i []).getD k 0 == 1) by unfold rB ent; rw [decide_eq_false e, Bool.false_or]; rfl]
def gB (t : List (List Int)) (m i k a b : Nat) : Bool := if a < i ∨ (a = i ∧ b < k) then rB t (m + 1) a b else rB t m a b
theorem gB_to (t : List (List Int)) (m i k a : Nat) : gB t m i k a m = rB t m a m := by
  unfold gB
  split
  · exact rB_to m a
  · rfl
theorem gB_of (t : List (List Int)) (m i k b : Nat) : gB t m i k m b = rB t m m b := by
  unfold gB
  split
  · exact rB_of m b
  · rfl
theorem reach_l4 {t : List (List Int)} (h : Right t) {m i : Nat} (hm : m < t.length) (hi : i < t.length) (R : List (List Bool))
    (hR : Ev (fun f => QG.verditerref05_reach.l3 f t (matB t.length (gB t m (i + 1) 0)) (m : Int) ((i + 1 : Nat) : Int)) R) :
    ∀ d k, k + d = t.length → Ev (fun f => QG.verditerref05_reach.l4 f t (matB t.length (gB t m i k)) (m : Int) (i : Int) (k : Int)) R := by
  have hn := h.len
  intro d
  induction d with
  | zero =>
    intro k hk
    obtain rfl : k = t.length := by omega
    refine Ev.step (fun f => ?_) hR
    simp only [QG.verditerref05_reach.l4]
    rw [if_neg (by omega), wrap_nat (n := t.length) hi (by omega)]
    rw [show matB t.length (gB t m i t.length) = matB t.length (gB t m (i + 1) 0) from matB_congr fun a ha b hb => by
      unfold gB
      by_cases e : a < i ∨ a = i
      · rw [if_pos (by omega), if_pos (by omega)]
      · rw [if_neg (by omega), if_neg (by omega)]]
  | succ d ih =>
    intro k hk
    have hk' : k < t.length := by omega
    have e0 : (matB t.length (gB t m i k)).set i ((rowB t.length (gB t m i k i)).set k (rB t (m + 1) i k)) = matB t.length (gB t m i (k + 1)) := by
      rw [matB_set _ hi]
      refine matB_congr fun a ha b hb => ?_
      by_cases e : a = i ∧ b = k
      · obtain ⟨rfl, rfl⟩ := e
        rw [if_pos ⟨rfl, rfl⟩]
        unfold gB
        rw [if_pos (by omega)]
      · rw [if_neg e]
        unfold gB
        by_cases e2 : a < i ∨ (a = i ∧ b < k)
        · rw [if_pos e2, if_pos (by omega)]
        · rw [if_neg e2, if_neg (by omega)]
    have e1 : gB t m i k i k = rB t m i k := by unfold gB; rw [if_neg (by omega)]
    refine Ev.step (fun f => ?_) (ih (k + 1) (by omega))
    have e2 : rB t (m + 1) i k = (rB t m i k || (rB t m i m && rB t m m k)) := rfl
    simp only [QG.verditerref05_reach.l4]
    rw [if_pos (by omega), wrap_nat (n := t.length) hk' (by omega), rdG4_nat, rdG4_nat, matB_get _ hi, matB_get _ hm, rowB_len, rowB_len, matB_len, rdOf_nat, rdOf_nat, rdOf_nat, rowB_get _ hk', rowB_get _ hm, rowB_get _ hk', e1, gB_to, gB_of, Int.toNat_natCast, Int.toNat_natCast, ← e0, e2]
    rw [if_pos (by omega), if_pos (by omega), if_pos (by omega), if_pos (by omega)]
    cases rB t m i k with
    | true => rw [if_pos rfl, Bool.true_or]
    | false =>
      rw [if_neg (by simp), if_pos (by omega), if_pos (by omega)]
      cases rB t m i m with
      | true => rw [if_pos rfl, if_pos (by omega), if_pos (by omega), Bool.false_or, Bool.true_and]
      | false => rw [if_neg (by simp), Bool.false_or, Bool.false_and]
theorem reach_l3 {t : List (List Int)} (h : Right t) {m : Nat} (hm : m < t.length) (R : List (List Bool))
    (hR : Ev (fun f => QG.verditerref05_reach.l2 f t (matB t.length (rB t (m + 1))) ((m + 1 : Nat) : Int)) R) :
    ∀ d i, i + d = t.length → Ev (fun f => QG.verditerref05_reach.l3 f t (matB t.length (gB t m i 0)) (m : Int) (i : Int)) R := by
  have hn := h.len
  intro d
  induction d with
  | zero =>
    intro i hi
    obtain rfl : i = t.length := by omega
    refine Ev.step (fun f => ?_) hR
    simp only [QG.verditerref05_reach.l3]
    rw [if_neg (by omega), wrap_nat (n := t.length) hm (by omega)]
    rw [show matB t.length (gB t m t.length 0) = matB t.length (rB t (m + 1)) from matB_congr fun a ha b hb => by unfold gB; rw [if_pos (.inl ha)]]
  | succ d ih =>
    intro i hi
    refine Ev.step (fun f => ?_) (reach_l4 h hm (show i < t.length by omega) R (ih (i + 1) (by omega)) t.length 0 (by omega))
    simp only [QG.verditerref05_reach.l3]
    rw [if_pos (by omega)]
    rfl
theorem Ev_reach {t : List (List Int)} (h : Right t) : Ev (fun f => QG.verditerref05_reach.f f t) (matB t.length (rc t)) := by
  have hn := h.len
  have p2 : ∀ d m, m + d = t.length → Ev (fun f => QG.verditerref05_reach.l2 f t (matB t.length (rB t m)) (m : Int)) (matB t.length (rc t)) := by
    intro d
    induction d with
    | zero =>
      intro m hm
      obtain rfl : m = t.length := by omega
      refine Ev.step (fun f => ?_) (Ev.now _)
      simp only [QG.verditerref05_reach.l2]
      rw [if_neg (by omega)]
      rfl
    | succ d ih =>
      intro m hm
      refine Ev.step (fun f => ?_) (reach_l3 h (show m < t.length by omega) _ (ih (m + 1) (by omega)) t.length 0 (by omega))
      simp only [QG.verditerref05_reach.l2]
      rw [if_pos (by omega)]
      rw [show matB t.length (rB t m) = matB t.length (gB t m 0 0) from matB_congr fun a ha b hb => by unfold gB; rw [if_neg (by omega)]]
      rfl
  have p1 : ∀ d i, i + d = t.length → Ev (fun f => QG.verditerref05_reach.l0 f t ((List.range i).map fun a => rowB t.length (rB t 0 a)) (i : Int)) (matB t.length (rc t)) := by
    intro d
    induction d with
    | zero =>
      intro i hi
      obtain rfl : i = t.length := by omega
      refine Ev.step (fun f => ?_) (p2 t.length 0 (by omega))
      simp only [QG.verditerref05_reach.l0]
      rw [if_neg (by omega)]
      rfl
    | succ d ih =>
      intro i hi
      have hi' : i < t.length := by omega
      have e := ih (i + 1) (by omega)
      rw [List.range_succ, List.map_append] at e
      refine Ev.step (fun f => ?_) (reach_row h _ (by simp; omega) hi' _ e t.length 0 (by omega))
      simp only [QG.verditerref05_reach.l0]
      rw [if_pos (by omega), if_pos (by omega), Int.toNat_natCast, if_pos (by omega)]
      rw [show List.replicate t.length false = rowB t.length (fun a => decide (a < 0) && rB t 0 i a) from by
        apply List.ext_getElem
        · simp [rowB]
        · intro j h1 h2
          simp [rowB]]
      rfl
  exact p1 t.length 0 (by omega)
/-! ### a strip's group -/
def grpTo (t : List (List Int)) (i j : Nat) : List Int := ((List.range j).filter fun k => rc t i k && rc t k i).map Int.ofNat
def grpL (t : List (List Int)) (i : Nat) : List Int := grpTo t i t.length
theorem grpTo_succ (t : List (List Int)) (i j : Nat) : grpTo t i (j + 1) = if rc t i j = true then (if rc t j i = true then grpTo t i j ++ [(j : Int)] else grpTo t i j) else grpTo t i j := by
  unfold grpTo
  rw [List.range_succ, List.filter_append, List.map_append, List.filter_cons, List.filter_nil]
  cases h1 : rc t i j <;> cases h2 : rc t j i <;> simp
theorem grpTo_len (t : List (List Int)) (i j : Nat) : (grpTo t i j).length ≤ j := by
  unfold grpTo
  rw [List.length_map]
  exact Nat.le_trans (List.length_filter_le _ _) (by simp)
theorem mem_grp {t : List (List Int)} {i : Nat} {x : Int} : x ∈ grpL t i ↔ ∃ k : Nat, k < t.length ∧ rc t i k = true ∧ rc t k i = true ∧ x = k := by
  unfold grpL grpTo
  simp only [List.mem_map, List.mem_filter, List.mem_range, Bool.and_eq_true]
  constructor
  · rintro ⟨k, ⟨h1, h2, h3⟩, rfl⟩; exact ⟨k, h1, h2, h3, rfl⟩
  · rintro ⟨k, h1, h2, h3, rfl⟩; exact ⟨k, ⟨h1, h2, h3⟩, rfl⟩
theorem Ev_group {t : List (List Int)} (h : Right t) {i : Nat} (hi : i < t.length) : Ev (fun f => QG.verditerref05_group.f f t (i : Int)) (grpL t i) := by
  have hn := h.len
  refine Ev.bind (Ev_reach h) ?_
  have l0 : ∀ d j, j + d = t.length → Ev (fun f => QG.verditerref05_group.l0 f t (i : Int) (matB t.length (rc t)) (grpTo t i j) (j : Int)) (grpL t i) := by
    intro d
    induction d with
    | zero =>
      intro j hj
      obtain rfl : j = t.length := by omega
      refine Ev.step (fun f => ?_) (Ev.now _)
      simp only [QG.verditerref05_group.l0]
      rw [if_neg (by omega)]
      rfl
    | succ d ih =>
      intro j hj
      have hj' : j < t.length := by omega
      have hl := grpTo_len t i j
      refine Ev.step (fun f => ?_) (ih (j + 1) (by omega))
      simp only [QG.verditerref05_group.l0]
      rw [if_pos (by omega), wrap_nat (n := t.length) hj' (by omega), rdG4_nat, rdG4_nat, matB_get _ hi, matB_get _ hj', rowB_len, rowB_len, matB_len, rdOf_nat, rdOf_nat, rowB_get _ hi, rowB_get _ hj', grpTo_succ]
      rw [if_pos (by omega), if_pos (by omega), if_pos (by omega), if_pos (by omega)]
      cases rc t i j with
      | true =>
        rw [if_pos rfl, if_pos rfl, if_pos (by omega), if_pos (by omega)]
        cases rc t j i with
        | true => rw [if_pos rfl, if_pos rfl, if_pos (by omega)]
        | false => rw [if_neg (by simp), if_neg (by simp)]
      | false => rw [if_neg (by simp), if_neg (by simp)]
  exact l0 t.length 0 (by omega)
end Go.Proofs.Ytbnjffhcpkfnhaa.H
