/- The plain law of SunRankings: the search finds the first order with the fewest upsets, each strip of it beats the next one, and none has an upset exactly without rings. -/
import Derived.Test.YtbnjffhcpkfnhaaHDp
import Derived.Test.YtbnjffhcpkfnhaaHRg
import Derived.Test.YtbnjffhcpkfnhaaHO
namespace Go.Proofs.Ytbnjffhcpkfnhaa.H
open Go.RowKit Go.Proofs.YtbnjffhcpkfnhaaW.PrintWords Go.Proofs.YtbnjffhcpkfnhaaW.PrintLast Go.Proofs.YtbnjffhcpkfnhaaW.PrintMore
set_option linter.unusedVariables false

/-! ### all orders, one after the other -/
def perms : Nat → List Int → List (List Int)
  | 0, _ => [[]]
  | d + 1, l => (List.range l.length).flatMap fun i => (perms d (l.take i ++ l.drop (i + 1))).map fun p => l.getD i 0 :: p
theorem flat_len {α β : Type} (f : α → List β) (b : Nat) : ∀ l : List α, (∀ x ∈ l, (f x).length ≤ b) → (l.flatMap f).length ≤ l.length * b
  | [], _ => by simp
  | x :: l, h => by
    have h1 := h x (by simp)
    have h2 := flat_len f b l (fun y hy => h y (by simp [hy]))
    rw [List.flatMap_cons, List.length_append, List.length_cons, Nat.add_mul, Nat.one_mul]
    omega
theorem perms_len : ∀ d (l : List Int), l.length ≤ 7 → (perms d l).length ≤ 7 ^ d
  | 0, l, _ => by simp [perms]
  | d + 1, l, h => by
    have := flat_len (fun i => (perms d (l.take i ++ l.drop (i + 1))).map fun p => l.getD i 0 :: p) (7 ^ d) (List.range l.length) (fun i hi => by
      rw [List.length_map]
      have := List.mem_range.1 hi
      exact perms_len d _ (by rw [List.length_append, List.length_take, List.length_drop]; omega))
    unfold perms
    rw [List.length_range] at this
    have h2 : l.length * 7 ^ d ≤ 7 * 7 ^ d := Nat.mul_le_mul_right _ h
    rw [Nat.pow_succ, Nat.mul_comm (7 ^ d) 7]
    omega
theorem pow7 : ∀ d, d ≤ 7 → 7 ^ d ≤ 823543 := by decide
theorem perms_elem : ∀ d (l : List Int), l.length = d → ∀ p ∈ perms d l, p.length = d
  | 0, l, _, p, hp => by
    obtain rfl : p = [] := by simpa [perms] using hp
    rfl
  | d + 1, l, h, p, hp => by
    obtain ⟨i, hi, hp⟩ := List.mem_flatMap.1 hp
    obtain ⟨q, hq, rfl⟩ := List.mem_map.1 hp
    have := List.mem_range.1 hi
    rw [List.length_cons, perms_elem d _ (by rw [List.length_append, List.length_take, List.length_drop]; omega) q hq]
/-- The first i turns. -/
def permsTo (d : Nat) (l : List Int) (i : Nat) : List (List Int) := (List.range i).flatMap fun i => (perms d (l.take i ++ l.drop (i + 1))).map fun p => l.getD i 0 :: p
theorem permsTo_succ (d : Nat) (l : List Int) (i : Nat) : permsTo d l (i + 1) = permsTo d l i ++ (perms d (l.take i ++ l.drop (i + 1))).map fun p => l.getD i 0 :: p := by
  unfold permsTo
  rw [List.range_succ, List.flatMap_append]
  simp
theorem perms_all (d : Nat) (l : List Int) : perms (d + 1) l = permsTo d l l.length := by unfold permsTo; rw [perms]
theorem orders_step (k : Nat) (l : List Int) (out : List (List Int)) (i : Nat) (hi : i < l.length) (h7 : l.length ≤ 7) :
    QR.verditerref01_Orders.l0 (k + 1) l out (i : Int) = (QR.verditerref01_Orders.f k (l.take i ++ l.drop (i + 1))).bind fun all => QR.verditerref01_Orders.l1 k l out (i : Int) all ((0 : Nat) : Int) := by
  have h1 : ([] : List Int).length + (l.take i).length < 17592186044416 := by rw [List.length_nil, List.length_take]; omega
  have h2 : (l.take i).length + (l.drop (i + 1)).length < 17592186044416 := by rw [List.length_drop, List.length_take]; omega
  simp only [QR.verditerref01_Orders.l0]
  rw [Int.toNat_natCast, wrap_nat (n := l.length) hi (by omega), Int.toNat_natCast, if_pos (by omega), Option.bind_some, if_pos (by omega), if_pos (by omega), if_pos h1, Option.bind_some, if_pos (by omega), if_pos (by omega), List.nil_append, if_pos h2]
  rfl
theorem Ev_Orders : ∀ d (l : List Int), l.length = d → d ≤ 7 → Ev (fun k => QR.verditerref01_Orders.f k l) (perms d l) := by
  intro d
  induction d with
  | zero =>
    intro l hl _
    exact Ev.step (f := fun _ => some (perms 0 l)) (fun k => by simp only [QR.verditerref01_Orders.f, perms]; rw [if_pos (by omega)]) (Ev.now _)
  | succ d ih =>
    intro l hl hd
    have h7 : 7 ^ d ≤ 823543 := pow7 d (by omega)
    have hto : ∀ i, i ≤ l.length → (permsTo d l i).length ≤ 7 * 7 ^ d := by
      intro i hi
      have := flat_len (fun i => (perms d (l.take i ++ l.drop (i + 1))).map fun p => l.getD i 0 :: p) (7 ^ d) (List.range i) (fun j hj => by
        rw [List.length_map]
        have := List.mem_range.1 hj
        exact perms_len d _ (by rw [List.length_append, List.length_take, List.length_drop]; omega))
      rw [List.length_range] at this
      have h2 : i * 7 ^ d ≤ 7 * 7 ^ d := Nat.mul_le_mul_right _ (by omega)
      unfold permsTo
      omega
    have l0 : ∀ e i, i + e = l.length → Ev (fun k => QR.verditerref01_Orders.l0 k l (permsTo d l i) (i : Int)) (perms (d + 1) l) := by
      intro e
      induction e with
      | zero =>
        intro i hi
        obtain rfl : i = l.length := by omega
        exact Ev.step (f := fun _ => some (perms (d + 1) l)) (fun k => by simp only [QR.verditerref01_Orders.l0]; rw [if_neg (by omega), perms_all]) (Ev.now _)
      | succ e ih2 =>
        intro i hi
        have hi' : i < l.length := by omega
        have hrl : (l.take i ++ l.drop (i + 1)).length = d := by rw [List.length_append, List.length_take, List.length_drop]; omega
        obtain ⟨all, hall⟩ : ∃ all, perms d (l.take i ++ l.drop (i + 1)) = all := ⟨_, rfl⟩
        have hal : all.length ≤ 7 ^ d := by rw [← hall]; exact perms_len d _ (by omega)
        have hae : ∀ p ∈ all, p.length = d := by rw [← hall]; exact perms_elem d _ hrl
        have htl := hto i (by omega)
        have hnext := ih2 (i + 1) (by omega)
        rw [permsTo_succ, hall] at hnext
        have l1 : ∀ g k, k + g = all.length → Ev (fun f => QR.verditerref01_Orders.l1 f l (permsTo d l i ++ (all.take k).map fun p => l.getD i 0 :: p) (i : Int) all (k : Int)) (perms (d + 1) l) := by
          intro g
          induction g with
          | zero =>
            intro k hk
            obtain rfl : k = all.length := by omega
            refine Ev.step (fun f => ?_) hnext
            simp only [QR.verditerref01_Orders.l1]
            rw [if_neg (by omega), List.take_length, wrap_nat (n := l.length) hi' (by omega)]
          | succ g ih3 =>
            intro k hk
            have hk' : k < all.length := by omega
            have hpk : (all.getD k []).length = d := hae _ (by rw [List.getD_eq_getElem?_getD, List.getElem?_eq_getElem hk']; exact List.getElem_mem hk')
            refine Ev.step (fun f => ?_) (ih3 (k + 1) (by omega))
            simp only [QR.verditerref01_Orders.l1]
            rw [if_pos (by omega), if_pos (by omega), if_pos (by omega), Option.bind_some, if_pos (by omega), rd_nat, rdR_nat, if_pos (by rw [List.length_singleton]; omega), if_pos (by rw [List.length_append, List.length_map, List.length_take]; omega), wrap_nat (n := all.length) hk' (by omega)]
            congr 1
            rw [List.append_assoc, List.take_add_one, List.map_append, List.getD_eq_getElem?_getD (l := all), List.getElem?_eq_getElem hk']
            rfl
        refine Ev.step (fun k => orders_step k l (permsTo d l i) i hi' (by omega)) (Ev.bind (ih _ hrl (by omega)) ?_)
        rw [hall]
        have := l1 all.length 0 (by omega)
        simp only [List.take_zero, List.map_nil, List.append_nil] at this
        exact this
    refine Ev.step (fun k => ?_) (l0 l.length 0 (by omega))
    simp only [QR.verditerref01_Orders.f]
    rw [if_neg (by omega)]
    rfl
theorem Ev_Numbers (n : Nat) (hn : n ≤ 7) : Ev (fun k => QR.verditerref01_Numbers.f k (n : Int)) (nums0 n) := by
  have l0 : ∀ d i, i + d = n → Ev (fun k => QR.verditerref01_Numbers.l0 k (n : Int) (nums0 i) (i : Int)) (nums0 n) := by
    intro d
    induction d with
    | zero =>
      intro i hi
      obtain rfl : i = n := by omega
      exact Ev.step (fun k => by simp only [QR.verditerref01_Numbers.l0]; rw [if_neg (by omega)]) (Ev.now _)
    | succ d ih =>
      intro i hi
      refine Ev.step (fun k => ?_) (ih (i + 1) (by omega))
      simp only [QR.verditerref01_Numbers.l0]
      rw [if_pos (by omega), if_pos (by rw [nums0_len]; omega), wrap_nat (n := n) (by omega) (by omega)]
      congr 1
      unfold nums0
      rw [List.range_succ, List.map_append]
      rfl
  exact l0 n 0 (by omega)
/-- The rest of a list's strips. -/
def restOf (n : Nat) (l : List Int) : List Int := (nums0 n).filter fun x => decide (x ∉ l)
theorem filter_ne : ∀ (l : List Int) (i : Nat), l.Nodup → i < l.length → l.filter (fun x => decide (x ≠ l.getD i 0)) = l.take i ++ l.drop (i + 1)
  | [], i, _, h => absurd h (by simp)
  | x :: l, 0, hn, _ => by
    have hx := (List.nodup_cons.1 hn).1
    simp only [List.getD_cons_zero, List.take_zero, List.nil_append, Nat.zero_add, List.drop_succ_cons, List.drop_zero]
    rw [List.filter_cons_of_neg (by simp)]
    refine List.filter_eq_self.2 fun y hy => decide_eq_true fun e => hx (e ▸ hy)
  | x :: l, i + 1, hn, h => by
    have hx := (List.nodup_cons.1 hn).1
    have hi : i < l.length := by simpa using h
    simp only [List.getD_cons_succ, List.take_succ_cons, List.drop_succ_cons, List.cons_append]
    have hp : decide (x ≠ l.getD i 0) = true := decide_eq_true (fun e => hx (by
      rw [e, List.getD_eq_getElem?_getD, List.getElem?_eq_getElem hi]; exact List.getElem_mem hi))
    rw [List.filter_cons, if_pos hp, filter_ne l i (List.nodup_cons.1 hn).2 hi]
theorem rest_snoc {n : Nat} (l : List Int) (i : Nat) (hi : i < (restOf n l).length) : restOf n (l ++ [(restOf n l).getD i 0]) = (restOf n l).take i ++ (restOf n l).drop (i + 1) := by
  rw [← filter_ne (restOf n l) i (List.Nodup.sublist List.filter_sublist (nums0_nodup n)) hi]
  obtain ⟨y, hy⟩ : ∃ y, (restOf n l).getD i 0 = y := ⟨_, rfl⟩
  rw [hy]
  unfold restOf
  rw [List.filter_filter]
  refine List.filter_congr fun x _ => ?_
  rw [Bool.eq_iff_iff]
  simp only [List.mem_append, List.mem_singleton, Bool.and_eq_true, decide_eq_true_eq, not_or]
  exact ⟨fun h => ⟨h.2, h.1⟩, fun h => ⟨h.2, h.1⟩⟩
theorem flat_index {β : Type} (f : Int → List β) (l : List Int) : l.flatMap f = (List.range l.length).flatMap fun i => f (l.getD i 0) := by
  have h : ∀ k, k ≤ l.length → (l.take k).flatMap f = (List.range k).flatMap fun i => f (l.getD i 0) := by
    intro k
    induction k with
    | zero => intro _; rfl
    | succ k ih =>
      intro hk
      rw [List.take_add_one, List.flatMap_append, ih (by omega), List.range_succ, List.flatMap_append]
      congr 1
      simp [List.getElem?_eq_getElem (show k < l.length by omega)]
  rw [← h l.length (Nat.le_refl _), List.take_length]
theorem comp_perms (n : Nat) : ∀ d (l : List Int), (restOf n l).length = d → comp n d l = (perms d (restOf n l)).map fun p => l ++ p
  | 0, l, _ => by simp [comp, perms]
  | d + 1, l, h => by
    unfold comp perms
    have e1 : ((List.range n).flatMap fun (x : Nat) => if (x : Int) ∈ l then [] else comp n d (l ++ [(x : Int)])) = (restOf n l).flatMap fun x => comp n d (l ++ [x]) := by
      unfold restOf nums0
      rw [List.filter_map, List.flatMap_map]
      generalize List.range n = m
      induction m with
      | nil => rfl
      | cons x m ih =>
        rw [List.flatMap_cons, ih]
        by_cases hx : (x : Int) ∈ l
        · rw [if_pos hx, List.filter_cons_of_neg (by simpa using hx), List.nil_append]
        · rw [if_neg hx, List.filter_cons_of_pos (by simpa using hx), List.flatMap_cons]
          rfl
    rw [e1, flat_index, List.map_flatMap]
    have : ∀ m : List Nat, (∀ i ∈ m, i < (restOf n l).length) → (m.flatMap fun i => comp n d (l ++ [(restOf n l).getD i 0])) = m.flatMap fun i => ((perms d ((restOf n l).take i ++ (restOf n l).drop (i + 1))).map fun p => (restOf n l).getD i 0 :: p).map fun p => l ++ p := by
      intro m hm
      induction m with
      | nil => rfl
      | cons i m ih =>
        rw [List.flatMap_cons, List.flatMap_cons, ih (fun j hj => hm j (by simp [hj]))]
        congr 1
        have hi := hm i (by simp)
        have hr := rest_snoc l i hi
        rw [comp_perms n d _ (by rw [hr, List.length_append, List.length_take, List.length_drop]; omega), hr, List.map_map]
        refine List.map_congr_left fun p _ => ?_
        simp
    exact this _ (fun i hi => List.mem_range.1 hi)
theorem comp_all (n : Nat) : comp n n [] = perms n (nums0 n) := by
  have e : restOf n [] = nums0 n := by unfold restOf; exact List.filter_eq_self.2 (fun x _ => by simp)
  rw [comp_perms n n [] (by rw [e, nums0_len]), e]
  simp
theorem Ev_refRanking {t : List (List Int)} (h : Right t) : Ev (fun k => QR.verditerref05_Ranking.f k t) ((rankS t).1, 0) := by
  have hn := h.len
  obtain ⟨out, ho, hl, hO⟩ := Ev_fewest h
  have hpos : 0 < 2 ^ t.length := Nat.pow_pos (by decide)
  have hpow := pow_le _ hn
  have hlast : rd out (wrap64 ((out.length : Int) - 1)) = (rankS t).2 ∧ 0 ≤ wrap64 ((out.length : Int) - 1) ∧ wrap64 ((out.length : Int) - 1) < (out.length : Int) := by
    rw [hl, wrap_small (by omega) (by omega)]
    have e : (((2 ^ t.length : Nat) : Int) - 1) = ((2 ^ t.length - 1 : Nat) : Int) := by omega
    refine ⟨by rw [e, rd_nat, (hO _ (by omega)).least h], by omega, by omega⟩
  obtain ⟨L1, p, L2, e1, e2, h1, h2⟩ := rank_first h
  rw [e2] at hlast ⊢
  have hall : ∀ q ∈ comp t.length t.length [], Order t.length q := fun q hq => mem_all.1 hq
  have hlen : (comp t.length t.length []).length ≤ 823543 := by
    rw [comp_all]
    exact Nat.le_trans (perms_len _ _ (by rw [nums0_len]; exact hn)) (pow7 _ hn)
  have hL : (comp t.length t.length []).length = L1.length + (L2.length + 1) := by rw [e1]; simp
  have l0 : ∀ d j, j + d = L1.length → Ev (fun k => QR.verditerref05_Ranking.l0 k t out (comp t.length t.length []) (j : Int)) (p, 0) := by
    intro d
    induction d with
    | zero =>
      intro j hj
      obtain rfl : j = L1.length := by omega
      have hp : (comp t.length t.length []).getD L1.length [] = p := by rw [e1, List.getD_eq_getElem?_getD, List.getElem?_append_right (Nat.le_refl _)]; simp
      have hpo := hall p (by rw [e1]; simp)
      obtain ⟨K, hK⟩ := Ev_refups h (l := p) (by rw [hpo.len]; exact hn) (fun x hx => hpo.mem.1 hx)
      refine ⟨K + 1, fun k hk => ?_⟩
      obtain ⟨k', rfl⟩ : ∃ k', k = k' + 1 := ⟨k - 1, by omega⟩
      simp only [QR.verditerref05_Ranking.l0]
      rw [if_pos (by omega), if_pos (by omega), rdR_nat, hp, show QO.verditerref05_upsets.f k' t p = some (ups t p) from hK k' (by omega), Option.bind_some, if_pos hlast.2.1, if_pos hlast.2.2, if_pos hlast.1.symm]
    | succ d ih =>
      intro j hj
      have hj' : j < L1.length := by omega
      have hq : (comp t.length t.length []).getD j [] = L1[j] := by rw [e1, List.getD_eq_getElem?_getD, List.getElem?_append_left hj', List.getElem?_eq_getElem hj']; rfl
      have hqm : L1[j] ∈ L1 := List.getElem_mem hj'
      have hqo := hall L1[j] (by rw [e1]; simp [hqm])
      have hlt := h1 _ hqm
      refine Ev.step (f := fun k => (QO.verditerref05_upsets.f k t L1[j]).bind fun u => if u = ups t p then some (L1[j], (0 : Int)) else QR.verditerref05_Ranking.l0 k t out (comp t.length t.length []) ((j + 1 : Nat) : Int)) (fun k => ?_) (Ev.bind (Ev_refups h (by rw [hqo.len]; exact hn) (fun x hx => hqo.mem.1 hx)) ?_)
      · simp only [QR.verditerref05_Ranking.l0]
        rw [if_pos (by omega), if_pos (by omega), rdR_nat, hq]
        congr 1
        funext u
        rw [if_pos hlast.2.1, if_pos hlast.2.2, hlast.1, wrap_nat (n := 823543) (by omega) (by omega)]
      · exact Ev.congr (fun k => if_neg (by omega)) (ih (j + 1) (by omega))
  unfold QR.verditerref05_Ranking.f
  refine Ev.congr (f := fun k => (QR.verditerref05_fewest.f k t).bind fun t147 => (QR.verditerref01_Numbers.f k (t.length : Int)).bind fun t150 => (QR.verditerref01_Orders.f k t150).bind fun t153 => QR.verditerref05_Ranking.l0 k t t147 t153 0) (fun k => by simp only [verditerref05_Validate.f, Option.bind_some]; rw [if_pos (right_err' h)]) (Ev.bind ho (Ev.bind (Ev_Numbers t.length hn) (Ev.bind (Ev_Orders t.length _ (nums0_len _) hn) ?_)))
  rw [← comp_all]
  exact l0 L1.length 0 (by omega)

/-! ### each strip of the best order beats the next one -/
theorem perm_sum {l m : List Int} (h : l.Perm m) : l.sum = m.sum := by
  induction h with
  | nil => rfl
  | cons x _ ih => rw [List.sum_cons, List.sum_cons, ih]
  | swap x y l => simp only [List.sum_cons]; omega
  | trans _ _ ih1 ih2 => rw [ih1, ih2]
theorem over_perm {t : List (List Int)} {l m : List Int} (h : l.Perm m) (x : Int) : over t l x = over t m x := by
  unfold over
  exact perm_sum (h.map _)
theorem ups_swap (t : List (List Int)) (x y : Int) (b : List Int) : ∀ a : List Int, ups t (a ++ x :: y :: b) + ent t x.toNat y.toNat = ups t (a ++ y :: x :: b) + ent t y.toNat x.toNat
  | [] => by
    simp only [List.nil_append, ups, over, List.map_cons, List.sum_cons]
    omega
  | z :: a => by
    have ih := ups_swap t x y b a
    have hp : (a ++ x :: y :: b).Perm (a ++ y :: x :: b) := List.Perm.append_left a (List.Perm.swap y x b)
    simp only [List.cons_append, ups, over_perm hp z]
    omega
/-- No strip of a best order is beaten by the one behind it. -/
theorem best_next {t : List (List Int)} (h : Right t) {p : List Int} (ho : Order t.length p) (hm : ∀ q, Order t.length q → ups t p ≤ ups t q) (i : Nat) (hi : i + 1 < p.length) : ent t (p.getD i 0).toNat (p.getD (i + 1) 0).toNat = 1 := by
  have e : p = p.take i ++ p.getD i 0 :: p.getD (i + 1) 0 :: p.drop (i + 2) := by
    rw [List.getD_eq_getElem?_getD, List.getElem?_eq_getElem (show i < p.length by omega), List.getD_eq_getElem?_getD, List.getElem?_eq_getElem hi]
    simp only [Option.getD_some]
    rw [← List.drop_eq_getElem_cons hi, ← List.drop_eq_getElem_cons (show i < p.length by omega), List.take_append_drop]
  obtain ⟨x, hx⟩ : ∃ x, p.getD i 0 = x := ⟨_, rfl⟩
  obtain ⟨y, hy⟩ : ∃ y, p.getD (i + 1) 0 = y := ⟨_, rfl⟩
  rw [hx, hy] at e ⊢
  have hs := ups_swap t x y (p.drop (i + 2)) (p.take i)
  have hq : Order t.length (p.take i ++ y :: x :: p.drop (i + 2)) := (List.Perm.append_left _ (List.Perm.swap x y _)).trans (by rw [← e]; exact ho)
  have hle := hm _ hq
  rw [← e] at hs
  have hxm := ho.mem.1 (show x ∈ p by rw [e]; simp)
  have hym := ho.mem.1 (show y ∈ p by rw [e]; simp)
  have hne : x.toNat ≠ y.toNat := fun e2 => by
    have hn := ho.nodup
    rw [e, List.nodup_append] at hn
    have := (List.nodup_cons.1 hn.2.1).1
    exact this (by have : x = y := by omega
                   rw [this]; simp)
  have ha := h.anti x.toNat y.toNat (by omega) (by omega) hne
  rcases h.bit x.toNat y.toNat with b | b
  · exfalso; omega
  · exact b

/-! ### no upset exactly without rings -/
theorem ups_zero {t : List (List Int)} (h : Right t) : ∀ l : List Int, ups t l = 0 ↔ l.Pairwise fun x y => ent t y.toNat x.toNat = 0
  | [] => by simp [ups]
  | x :: l => by
    have ih := ups_zero h l
    have h1 := over_nonneg h l x
    have h2 := ups_nonneg h l
    have hz : ∀ m : List Int, over t m x = 0 ↔ ∀ y ∈ m, ent t y.toNat x.toNat = 0 := by
      intro m
      induction m with
      | nil => simp [over]
      | cons y m ihm =>
        have e : over t (y :: m) x = ent t y.toNat x.toNat + over t m x := by simp [over]
        have := over_nonneg h m x
        rw [e]
        constructor
        · intro e2
          rcases h.bit y.toNat x.toNat with b | b
          · intro z hz2
            rcases List.mem_cons.1 hz2 with rfl | hz2
            · exact b
            · exact ihm.1 (by omega) z hz2
          · omega
        · intro e2
          rw [e2 y (by simp), ihm.2 (fun z hz2 => e2 z (by simp [hz2]))]; rfl
    rw [List.pairwise_cons, ← hz, ← ih]
    simp only [ups]
    omega
theorem ringSum_zero {t : List (List Int)} (h : Right t) : ringSum t = 0 ↔ ∀ i, i < t.length → ∀ k, k < t.length → ∀ m, m < t.length → ringT3 t i k m = 0 := by
  have z : ∀ (n : Nat) (f : Nat → Int), (∀ i, i < n → 0 ≤ f i) → (sumTo f n = 0 ↔ ∀ i, i < n → f i = 0) := by
    intro n f
    induction n with
    | zero => intro _; simp [sumTo]
    | succ n ih =>
      intro h0
      have h1 := sumTo_nonneg (f := f) (n := n) (fun i hi => h0 i (by omega))
      have h2 := h0 n (by omega)
      have := ih (fun i hi => h0 i (by omega))
      simp only [sumTo]
      constructor
      · intro e i hi
        by_cases e2 : i = n
        · subst e2; omega
        · exact this.1 (by omega) i (by omega)
      · intro e
        rw [this.2 (fun i hi => e i (by omega)), e n (by omega)]; rfl
  have n0 := fun i k m => (ringT3_bit h i k m).1
  unfold ringSum
  rw [z _ _ (fun i _ => sumTo_nonneg fun k _ => sumTo_nonneg fun m _ => n0 i k m)]
  constructor
  · intro e i hi k hk m hm
    have e1 := e i hi
    rw [z _ _ (fun k _ => sumTo_nonneg fun m _ => n0 i k m)] at e1
    have e2 := e1 k hk
    rw [z _ _ (fun m _ => n0 i k m)] at e2
    exact e2 m hm
  · intro e i hi
    rw [z _ _ (fun k _ => sumTo_nonneg fun m _ => n0 i k m)]
    intro k hk
    rw [z _ _ (fun m _ => n0 i k m)]
    exact fun m hm => e i hi k hk m hm
theorem rings_least {t : List (List Int)} (h : Right t) : ringsN t = 0 ↔ (rankS t).2 = 0 := by
  obtain ⟨ho, e, hm⟩ := least_spec h
  have hr := h.rings
  have hz := ringSum_zero h
  have hlen := ho.len
  have hmem : ∀ i, i < t.length → ∃ a : Nat, a < (rankS t).1.length ∧ ((rankS t).1.getD a 0).toNat = i := by
    intro i hi
    obtain ⟨a, ha, e2⟩ := List.getElem_of_mem (ho.mem.2 (show 0 ≤ (i : Int) ∧ (i : Int) < t.length by omega))
    refine ⟨a, ha, ?_⟩
    rw [List.getD_eq_getElem?_getD, List.getElem?_eq_getElem ha, Option.getD_some, e2, Int.toNat_natCast]
  generalize hp : (rankS t).1 = p at *
  have hin : ∀ a, a < p.length → (p.getD a 0).toNat < t.length := fun a ha => by have := ho.mem.1 (getD_mem ha); omega
  rw [e]
  constructor
  · intro e0
    have hno := hz.1 (by omega)
    have far : ∀ d a, a + d + 1 < p.length → ent t (p.getD a 0).toNat (p.getD (a + d + 1) 0).toNat = 1 := by
      intro d
      induction d with
      | zero => intro a ha; exact best_next h ho (fun q hq => by rw [← e]; exact hm q hq) a ha
      | succ d ih =>
        intro a ha
        have h1 := ih a (by omega)
        have h2 := best_next h ho (fun q hq => by rw [← e]; exact hm q hq) (a + d + 1) (by omega)
        have h3 := hno _ (hin a (by omega)) _ (hin (a + d + 1) (by omega)) _ (hin (a + d + 1 + 1) (by omega))
        unfold ringT3 at h3
        rw [h1, h2] at h3
        have hne : (p.getD a 0).toNat ≠ (p.getD (a + d + 1 + 1) 0).toNat := fun e2 => by
          have hnd := ho.nodup
          unfold List.Nodup at hnd
          rw [List.pairwise_iff_getElem] at hnd
          have := hnd a (a + d + 1 + 1) (by omega) (by omega) (by omega)
          have h5 := ho.mem.1 (getD_mem (show a < p.length by omega))
          have h6 := ho.mem.1 (getD_mem (show a + d + 1 + 1 < p.length by omega))
          rw [List.getD_eq_getElem?_getD, List.getElem?_eq_getElem (show a < p.length by omega), List.getD_eq_getElem?_getD, List.getElem?_eq_getElem (show a + d + 1 + 1 < p.length by omega)] at e2
          rw [List.getD_eq_getElem?_getD, List.getElem?_eq_getElem (show a < p.length by omega)] at h5
          rw [List.getD_eq_getElem?_getD, List.getElem?_eq_getElem (show a + d + 1 + 1 < p.length by omega)] at h6
          simp only [Option.getD_some] at e2 h5 h6
          omega
        have ha2 := h.anti _ _ (hin a (by omega)) (hin (a + d + 1 + 1) (by omega)) hne
        show ent t (p.getD a 0).toNat (p.getD (a + d + 1 + 1) 0).toNat = 1
        omega
    rw [ups_zero h, List.pairwise_iff_getElem]
    intro a b ha hb hab
    have h1 := far (b - a - 1) a (by omega)
    rw [show a + (b - a - 1) + 1 = b by omega] at h1
    rw [List.getD_eq_getElem?_getD, List.getElem?_eq_getElem ha, List.getD_eq_getElem?_getD, List.getElem?_eq_getElem hb] at h1
    simp only [Option.getD_some] at h1
    rcases h.bit p[b].toNat p[a].toNat with c | c
    · exact c
    · exfalso
      have hia := hin a ha
      have hib := hin b hb
      rw [List.getD_eq_getElem?_getD, List.getElem?_eq_getElem ha] at hia
      rw [List.getD_eq_getElem?_getD, List.getElem?_eq_getElem hb] at hib
      simp only [Option.getD_some] at hia hib
      by_cases e3 : p[a].toNat = p[b].toNat
      · rw [e3, h.diag] at h1; cases h1
      · have := h.anti _ _ hia hib e3
        omega
  · intro e0
    have hpw := (ups_zero h p).1 e0
    rw [List.pairwise_iff_getElem] at hpw
    have hlt : ∀ a b, a < p.length → b < p.length → ent t (p.getD a 0).toNat (p.getD b 0).toNat = 1 → a < b := by
      intro a b ha hb h1
      rcases Nat.lt_trichotomy a b with c | c | c
      · exact c
      · subst c; rw [h.diag] at h1; cases h1
      · have := hpw b a hb ha c
        rw [List.getD_eq_getElem?_getD, List.getElem?_eq_getElem ha, List.getD_eq_getElem?_getD, List.getElem?_eq_getElem hb] at h1
        simp only [Option.getD_some] at h1
        omega
    have : ringSum t = 0 := hz.2 fun i hi k hk m hm2 => by
      obtain ⟨a, ha, rfl⟩ := hmem i hi
      obtain ⟨b, hb, rfl⟩ := hmem k hk
      obtain ⟨c, hc, rfl⟩ := hmem m hm2
      unfold ringT3
      rcases h.bit (p.getD a 0).toNat (p.getD b 0).toNat with x | x
      · rw [x]; simp
      · rcases h.bit (p.getD b 0).toNat (p.getD c 0).toNat with y | y
        · rw [y]; simp
        · rcases h.bit (p.getD c 0).toNat (p.getD a 0).toNat with z | z
          · rw [z]; simp
          · have := hlt a b ha hb x
            have := hlt b c hb hc y
            have := hlt c a hc ha z
            omega
    omega

/-! ### the law -/
theorem Ev_chain {t : List (List Int)} (h : Right t) {p : List Int} (ho : Order t.length p) (hb : ∀ i, i + 1 < p.length → ent t (p.getD i 0).toNat (p.getD (i + 1) 0).toNat = 1) : Ev (fun k => QR.sun_isChain.f k t p) true := by
  have hn := h.len
  have hl := ho.len
  have l0 : ∀ d i, i + 1 + d = p.length → Ev (fun k => QR.sun_isChain.l0 k t p ((i + 1 : Nat) : Int)) true := by
    intro d
    induction d with
    | zero => intro i hi; exact Ev.step (fun k => by simp only [QR.sun_isChain.l0]; rw [if_neg (by omega)]) (Ev.now _)
    | succ d ih =>
      intro i hi
      have h1 := hb i (by omega)
      have hx := ho.mem.1 (getD_mem (show i < p.length by omega))
      have hy := ho.mem.1 (getD_mem (show i + 1 < p.length by omega))
      obtain ⟨x, hxe⟩ := Int.eq_ofNat_of_zero_le hx.1
      obtain ⟨y, hye⟩ := Int.eq_ofNat_of_zero_le hy.1
      rw [hxe, hye, Int.toNat_natCast, Int.toNat_natCast] at h1
      refine Ev.step (fun k => ?_) (ih (i + 1) (by omega))
      simp only [QR.sun_isChain.l0]
      rw [wrap_small (x := ((i + 1 : Nat) : Int) - 1) (by omega) (by omega), show ((i + 1 : Nat) : Int) - 1 = (i : Int) by omega, rd_nat, rd_nat, hxe, hye, rdR_nat, rd_nat, h.row x (by omega)]
      rw [if_pos (by omega), if_pos (by omega), if_pos (by omega), if_pos (by omega), if_pos (by omega), if_pos (by omega), if_pos (by omega), if_pos (by omega), if_neg (by unfold ent at h1; omega), wrap_nat (n := p.length) (by omega) (by omega)]
  by_cases hp : p.length = 0
  · exact Ev.step (f := fun _ => some true) (fun k => by simp only [QR.sun_isChain.f, QR.sun_isChain.l0]; rw [if_neg (by omega)]) (Ev.now _)
  · exact l0 (p.length - 1) 0 (by omega)
theorem sunRankings_true (t : List (List Int)) (ht : t.length ≤ 9223372036854775807) : Ev (fun k => QR.verditerlaw05_sunRankings.f k t) true := by
  obtain ⟨b, hb, hs⟩ := Ev_Long t ht
  unfold QR.verditerlaw05_sunRankings.f
  refine Ev.bind hb ?_
  cases b with
  | true => exact Ev.congr (f := fun _ => some true) (fun k => by rw [if_pos rfl]; rfl) (Ev.now _)
  | false =>
    refine Ev.congr (fun k => if_neg (by simp)) ?_
    by_cases he : errV t = 0
    · have h := Right.of he
      obtain ⟨ho, e, hm⟩ := least_spec h
      have hsr : QR.sun_Ranking.f t = some ((rankS t).1, 0) := by simp only [QR.sun_Ranking.f, sun_Validate.f, sun_ranking.f, Option.bind_some, he, if_pos]
      refine Ev.bind (Ev_refFewest h) (Ev.bind (Ev_refRanking h) ?_)
      refine Ev.congr (f := fun k => (QA.verditerref01_SameInts.f k (rankS t).1 (rankS t).1).bind fun t185 => if t185 = true then QR.verditerlaw05_sunRankings.j0 k t (rankS t).2 0 (rankS t).1 false else QR.verditerlaw05_sunRankings.j0 k t (rankS t).2 0 (rankS t).1 true) (fun k => ?_) (Ev.bind (Ev_same _ (by rw [ho.len]; exact ht)) ?_)
      · rw [sunFewest_yes he, Option.bind_some, hsr, Option.bind_some, if_pos rfl, if_pos rfl]
        rfl
      refine Ev.congr (fun k => if_pos rfl) ?_
      refine Ev.step (f := fun k => (QA.sun_Rings.f k t).bind fun bt186 => if bt186.2 = 0 then (if ((bt186.1 == 0) == ((rankS t).2 == 0)) = true then (QR.sun_CheckRow.f k t (rankS t).1).bind fun t188 => if t188 = 0 then (some true) else some false else some false) else some false) (fun k => ?_) (Ev.bind (Ev_sunRings h he) ?_)
      · simp only [QR.verditerlaw05_sunRankings.j0]
        rw [if_neg (by simp), if_pos trivial]
        rfl
      have hiff := rings_least h
      have hbool : ((ringsN t == 0) == ((rankS t).2 == 0)) = true := by
        by_cases e0 : ringsN t = 0
        · rw [beq_iff_eq.2 e0, beq_iff_eq.2 (hiff.1 e0)]; rfl
        · rw [beq_eq_false_iff_ne.2 e0, beq_eq_false_iff_ne.2 (fun e2 => e0 (hiff.2 e2))]; rfl
      refine Ev.congr (f := fun k => (QR.sun_CheckRow.f k t (rankS t).1).bind fun t188 => if t188 = 0 then (some true) else some false) (fun k => by rw [if_pos rfl, if_pos hbool]) ?_
      refine Ev.bind (a := (0 : Int)) ?_ (Ev.congr (fun k => if_pos rfl) (Ev.now _))
      unfold QR.sun_CheckRow.f
      refine Ev.congr (f := fun k => (QR.sun_isChain.f k t (rankS t).1).bind fun t170 => if t170 = true then some (0 : Int) else some 7) (fun k => by rw [sunOrdered_eq, Option.bind_some, ordV_of he ho, if_pos rfl]) ?_
      exact Ev.bind (Ev_chain h ho (best_next h ho (fun q hq => by rw [← e]; exact hm q hq))) (Ev.now _)
    · have hv : verditerref05_Validate.f t = some (errV t) := rfl
      refine Ev.bind (a := ((0 : Int), errV t)) (Ev.congr (fun k => by unfold QR.verditerref05_Fewest.f; rw [hv, Option.bind_some, if_neg he]) (Ev.now _)) ?_
      refine Ev.bind (a := (([] : List Int), errV t)) (Ev.congr (fun k => by unfold QR.verditerref05_Ranking.f; rw [hv, Option.bind_some, if_neg he]) (Ev.now _)) ?_
      have hsr : QR.sun_Ranking.f t = some ([], errV t) := by simp only [QR.sun_Ranking.f, sun_Validate.f, Option.bind_some]; rw [if_neg he]
      refine Ev.congr (f := fun k => (QA.verditerref01_SameInts.f k [] []).bind fun t185 => if t185 = true then QR.verditerlaw05_sunRankings.j0 k t 0 (errV t) [] false else QR.verditerlaw05_sunRankings.j0 k t 0 (errV t) [] true) (fun k => ?_) (Ev.bind (Ev_same [] (by simp)) ?_)
      · rw [sunFewest_no he, Option.bind_some, hsr, Option.bind_some, if_pos rfl, if_pos rfl]
        simp only [bne_self_eq_false]
      refine Ev.congr (fun k => if_pos rfl) (Ev.step (fun k => ?_) (Ev.now _))
      simp only [QR.verditerlaw05_sunRankings.j0]
      rw [if_neg (by simp), if_neg he]
      rfl
theorem pureSunRankings {A : Option Addr} {n c : Nat} {T : List (List Int)} {W : World} (g : Kd.C (Kd.slice 3 (Kd.int .i64)) W A n T) (hf : ∀ l ∈ T, ∀ x ∈ l, (Lit.int .i64 x).wf = true) (hn : n ≤ c) :
    Calls Try.prog 25 #[.slice A n c] W fun e w' => e = .returned (.bool true) ∧ Below W.heap.size W w' := by
  obtain rfl : T.length = n := g.1
  obtain ⟨k, hk⟩ := (sunRankings_true T g.2.1).rounds
  exact QR.verditerlaw05_sunRankings.calls k A c T true W g hn hk
end Go.Proofs.Ytbnjffhcpkfnhaa.H
