/- sun.Make: as a plain function, and as a call. -/
import Derived.Test.YtbnjffhcpkfnhaaHHs
import Derived.Test.YtbnjffhcpkfnhaaHSp
import Derived.Test.YtbnjffhcpkfnhaaHGr
import Derived.Test.YtbnjffhcpkfnhaaHX
/- sun.Make, as a plain function: the table that is made has the wins. -/
namespace Go.Proofs.Ytbnjffhcpkfnhaa.H
open Go.RowKit Go.Proofs.YtbnjffhcpkfnhaaW.PrintWords Go.Proofs.YtbnjffhcpkfnhaaW.PrintLast Go.Proofs.YtbnjffhcpkfnhaaW.PrintMore
set_option linter.unusedVariables false
set_option linter.unusedSimpArgs false
/-- A store into a table. -/
def putM (M : List (List Int)) (i k : Nat) (x : Int) : List (List Int) := M.set i ((M.getD i []).set k x)
/-- The strip x against those behind it. -/
def inSt (x : Nat) (R : List Nat) (nd : List Int) (M : List (List Int)) : Nat → List Int × List (List Int)
  | 0 => (nd, M)
  | k + 1 => if (k : Int) < (inSt x R nd M k).1.getD x 0 then ((inSt x R nd M k).1, putM (inSt x R nd M k).2 x (R.getD k 0) 1)
    else ((inSt x R nd M k).1.set (R.getD k 0) ((inSt x R nd M k).1.getD (R.getD k 0) 0 - 1), putM (inSt x R nd M k).2 (R.getD k 0) x 1)
def needF (nd : List Int) (m : Nat) (a b : Fin (m + 1)) : Int := nd.getD a.val 0 - nd.getD b.val 0
theorem needF_swo (nd : List Int) (m : Nat) : Go.Sort.SWO (ltOf (needF nd m)) where
  irrefl := fun x => by unfold ltOf needF; exact decide_eq_false (by omega)
  trans := fun x y z h1 h2 => by
    unfold ltOf needF at *
    have := of_decide_eq_true h1
    have := of_decide_eq_true h2
    exact decide_eq_true (by omega)
  ntrans := fun x y z h1 h2 => by
    unfold ltOf needF at *
    have := of_decide_eq_false h1
    have := of_decide_eq_false h2
    exact decide_eq_false (by omega)
def outSt (m : Nat) (nd0 : List Int) : Nat → List (Fin (m + 1)) × List Int × List (List Int)
  | 0 => (allF m, nd0, List.replicate (m + 1) (List.replicate (m + 1) 0))
  | r + 1 => match sortF (needF (outSt m nd0 r).2.1 m) (outSt m nd0 r).1 with
    | [] => outSt m nd0 r
    | x :: rest => (rest, (inSt x.val (rest.map (·.val)) (outSt m nd0 r).2.1 (outSt m nd0 r).2.2 rest.length).1, (inSt x.val (rest.map (·.val)) (outSt m nd0 r).2.1 (outSt m nd0 r).2.2 rest.length).2)
def makeL (l : List Int) : List (List Int) := (outSt (l.length - 1) l l.length).2.2

/-! ### tables of one size -/
structure Sq (n : Nat) (M : List (List Int)) : Prop where
  len : M.length = n
  row : ∀ i, i < n → (M.getD i []).length = n
theorem Sq.put {n : Nat} {M : List (List Int)} (h : Sq n M) (i k : Nat) (x : Int) : Sq n (putM M i k x) := by
  refine ⟨by simp [putM, h.len], fun j hj => ?_⟩
  unfold putM
  rw [List.getD_eq_getElem?_getD, List.getElem?_set]
  by_cases e : i = j
  · subst e
    rw [if_pos rfl, if_pos (by rw [h.len]; exact hj), Option.getD_some, List.length_set]
    exact h.row i hj
  · rw [if_neg e, ← List.getD_eq_getElem?_getD]
    exact h.row j hj
theorem ent_put {n : Nat} {M : List (List Int)} (h : Sq n M) {i k : Nat} (hi : i < n) (hk : k < n) (x : Int) (a b : Nat) : ent (putM M i k x) a b = if a = i ∧ b = k then x else ent M a b := by
  unfold ent putM
  have hr := h.row i hi
  by_cases e : a = i
  · subst e
    rw [List.getD_eq_getElem?_getD (l := M.set a _), List.getElem?_set, if_pos rfl, if_pos (by rw [h.len]; exact hi), Option.getD_some]
    by_cases e2 : b = k
    · subst e2
      rw [if_pos ⟨rfl, rfl⟩, List.getD_eq_getElem?_getD, List.getElem?_set, if_pos rfl, if_pos (by omega)]
      rfl
    · rw [if_neg (fun z => e2 z.2), List.getD_eq_getElem?_getD, List.getElem?_set, if_neg (fun z => e2 z.symm), ← List.getD_eq_getElem?_getD]
  · rw [if_neg (fun z => e z.1), List.getD_eq_getElem?_getD (l := M.set i _), List.getElem?_set, if_neg (fun z => e z.symm), ← List.getD_eq_getElem?_getD]
theorem getD_mem_nat {R : List Nat} {k : Nat} (hk : k < R.length) : R.getD k 0 ∈ R := by
  rw [List.getD_eq_getElem?_getD, List.getElem?_eq_getElem hk]
  exact List.getElem_mem hk
theorem getD_set0 (xs : List Int) (i : Nat) (v : Int) (j : Nat) (hi : i < xs.length) : (xs.set i v).getD j 0 = if j = i then v else xs.getD j 0 := by
  rw [List.getD_eq_getElem?_getD, List.getElem?_set]
  by_cases e : i = j
  · subst e; rw [if_pos rfl, if_pos hi, if_pos rfl]; rfl
  · rw [if_neg e, if_neg (fun x => e x.symm), List.getD_eq_getElem?_getD]
/-- What stands behind k of them. -/
theorem inSt_is {n x v : Nat} {R : List Nat} {nd : List Int} {M : List (List Int)} (hS : Sq n M) (hnd : nd.length = n) (hx : x < n) (hR : ∀ y ∈ R, y < n) (hxR : x ∉ R) (hn : R.Nodup) (hv : nd.getD x 0 = v) :
    ∀ k, k ≤ R.length → Sq n (inSt x R nd M k).2 ∧ (inSt x R nd M k).1.length = n ∧
      (∀ y, (inSt x R nd M k).1.getD y 0 = if y ∈ (R.take k).drop v then nd.getD y 0 - 1 else nd.getD y 0) ∧
      (∀ a b, ent (inSt x R nd M k).2 a b = if a = x ∧ b ∈ (R.take k).take v then 1 else if b = x ∧ a ∈ (R.take k).drop v then 1 else ent M a b)
  | 0, _ => ⟨hS, hnd, fun y => by simp [inSt], fun a b => by simp [inSt]⟩
  | k + 1, hk => by
    obtain ⟨h1, h2, h3, h4⟩ := inSt_is hS hnd hx hR hxR hn hv k (by omega)
    have hy := getD_mem_nat (show k < R.length by omega)
    have hyn := hR _ hy
    have hnx : R.getD k 0 ≠ x := fun e => hxR (e ▸ hy)
    have etake : R.take (k + 1) = R.take k ++ [R.getD k 0] := by
      rw [List.take_succ_eq_append_getElem (by omega), List.getD_eq_getElem?_getD, List.getElem?_eq_getElem (by omega)]; rfl
    have hnew : R.getD k 0 ∉ R.take k := fun hm => by
      have hn2 : (R.take (k + 1)).Nodup := (List.take_sublist _ _).nodup hn
      rw [etake, List.nodup_append] at hn2
      exact hn2.2.2 _ hm _ (by simp) rfl
    have hvx : (inSt x R nd M k).1.getD x 0 = v := by
      rw [h3, if_neg (fun hm => hxR (List.mem_of_mem_take (List.mem_of_mem_drop hm))), hv]
    have hl : (R.take k).length = k := by rw [List.length_take]; omega
    unfold inSt
    rw [hvx]
    by_cases hlt : (k : Int) < v
    · rw [if_pos hlt]
      have d1 : (R.take (k + 1)).drop v = [] := List.drop_eq_nil_of_le (by rw [List.length_take]; omega)
      have d2 : (R.take k).drop v = [] := List.drop_eq_nil_of_le (by omega)
      have t1 : (R.take (k + 1)).take v = R.take (k + 1) := List.take_of_length_le (by rw [List.length_take]; omega)
      have t2 : (R.take k).take v = R.take k := List.take_of_length_le (by omega)
      refine ⟨h1.put _ _ _, h2, fun y => ?_, fun a b => ?_⟩
      · rw [h3, d1, d2]
      · rw [ent_put h1 hx hyn, h4, d1, d2, t1, t2, etake]
        by_cases e : a = x ∧ b = R.getD k 0
        · rw [if_pos e, if_pos ⟨e.1, by rw [e.2]; simp⟩]
        · rw [if_neg e]
          by_cases e2 : a = x ∧ b ∈ R.take k
          · rw [if_pos e2, if_pos ⟨e2.1, by simp [e2.2]⟩]
          · have e3 : ¬ (a = x ∧ b ∈ R.take k ++ [R.getD k 0]) := fun z => by
              rcases List.mem_append.1 z.2 with z2 | z2
              · exact e2 ⟨z.1, z2⟩
              · exact e ⟨z.1, by simpa using z2⟩
            rw [if_neg e2, if_neg e3]
    · rw [if_neg hlt]
      have d1 : (R.take (k + 1)).drop v = (R.take k).drop v ++ [R.getD k 0] := by rw [etake, List.drop_append_of_le_length (by omega)]
      have t1 : (R.take (k + 1)).take v = (R.take k).take v := by rw [etake, List.take_append_of_le_length (by omega)]
      refine ⟨h1.put _ _ _, by rw [List.length_set]; exact h2, fun y => ?_, fun a b => ?_⟩
      · rw [getD_set0 _ _ _ _ (by rw [h2]; exact hyn), h3, h3, d1]
        have hnot : R.getD k 0 ∉ (R.take k).drop v := fun hm => hnew (List.mem_of_mem_drop hm)
        by_cases e : y = R.getD k 0
        · rw [if_pos e, if_neg hnot, if_pos (by rw [e]; simp), e]
        · rw [if_neg e]
          by_cases e2 : y ∈ (R.take k).drop v
          · rw [if_pos e2, if_pos (by simp [e2])]
          · rw [if_neg e2, if_neg (fun z => by
              rcases List.mem_append.1 z with z2 | z2
              · exact e2 z2
              · exact e (by simpa using z2))]
      · rw [ent_put h1 hyn hx, h4, d1, t1]
        by_cases e : a = R.getD k 0 ∧ b = x
        · rw [if_pos e, if_neg (fun z => hnx (e.1.symm.trans z.1)), if_pos ⟨e.2, by rw [e.1]; simp⟩]
        · rw [if_neg e]
          by_cases e2 : a = x ∧ b ∈ (R.take k).take v
          · rw [if_pos e2, if_pos e2]
          · rw [if_neg e2, if_neg e2]
            by_cases e3 : b = x ∧ a ∈ (R.take k).drop v
            · rw [if_pos e3, if_pos ⟨e3.1, by simp [e3.2]⟩]
            · have e4 : ¬ (b = x ∧ a ∈ (R.take k).drop v ++ [R.getD k 0]) := fun z => by
                rcases List.mem_append.1 z.2 with z2 | z2
                · exact e3 ⟨z.1, z2⟩
                · exact e ⟨by simpa using z2, z.1⟩
              rw [if_neg e3, if_neg e4]
end Go.Proofs.Ytbnjffhcpkfnhaa.H
/- sun.Make, as a plain function: what holds after each strip. -/
namespace Go.Proofs.Ytbnjffhcpkfnhaa.H
open Go.RowKit Go.Proofs.YtbnjffhcpkfnhaaW.PrintWords Go.Proofs.YtbnjffhcpkfnhaaW.PrintLast Go.Proofs.YtbnjffhcpkfnhaaW.PrintMore
set_option linter.unusedVariables false
set_option linter.unusedSimpArgs false
theorem CanNeed.perm {l l' : List Int} {d : Int → Int} (h : CanNeed l d) (hp : l.Perm l') : CanNeed l' d :=
  ⟨fun s h1 h2 => h.sub s h1 (fun x hx => hp.mem_iff.2 (h2 x hx)), by rw [← hp.length_eq, ← sumD_perm d hp]; exact h.all⟩
theorem sumD_congr {d e : Int → Int} : ∀ {l : List Int}, (∀ x ∈ l, d x = e x) → sumD d l = sumD e l
  | [], _ => rfl
  | y :: l, h => by rw [sumD_cons, sumD_cons, h y (by simp), sumD_congr (fun x hx => h x (by simp [hx]))]
theorem CanNeed.congr {l : List Int} {d e : Int → Int} (h : CanNeed l d) (he : ∀ x ∈ l, d x = e x) : CanNeed l e :=
  ⟨fun s h1 h2 => by rw [← sumD_congr (fun x hx => he x (h2 x hx))]; exact h.sub s h1 h2, by rw [← sumD_congr he]; exact h.all⟩
theorem sumTo_put {n : Nat} (f : Nat → Int) : ∀ T : List Nat, T.Nodup → (∀ b ∈ T, b < n) → (∀ b ∈ T, f b = 0) → sumTo (fun b => if b ∈ T then 1 else f b) n = sumTo f n + T.length
  | [], _, _, _ => by simp
  | y :: T, hn, hb, hf => by
    obtain ⟨hy, hn2⟩ := List.nodup_cons.1 hn
    have ih := sumTo_put f T hn2 (fun b h => hb b (by simp [h])) (fun b h => hf b (by simp [h]))
    have e : sumTo (fun b => if b ∈ y :: T then 1 else f b) n = sumTo (fun b => if b ∈ T then 1 else f b) n + sumTo (fun b => if b = y then (1 : Int) else 0) n := by
      rw [← sumTo_add]
      refine sumTo_congr fun b _ => ?_
      by_cases e1 : b = y
      · subst e1
        rw [if_pos (by simp), if_neg hy, if_pos rfl, hf b (by simp)]; rfl
      · rw [if_neg e1]
        by_cases e2 : b ∈ T
        · rw [if_pos (by simp [e2]), if_pos e2]; rfl
        · rw [if_neg (by simp [e1, e2]), if_neg e2]; omega
    rw [e, ih, sumTo_one y (fun _ => (1 : Int)) n, if_pos (hb y (by simp)), List.length_cons]
    omega
structure MadeTo (m : Nat) (W : List Int) (left : List (Fin (m + 1))) (nd : List Int) (M : List (List Int)) : Prop where
  sq : Sq (m + 1) M
  lnd : nd.length = m + 1
  nodup : left.Nodup
  can : CanNeed (left.map intF) (ofL nd)
  bit : ∀ a b, ent M a b = 0 ∨ ent M a b = 1
  diag : ∀ a, ent M a a = 0
  free : ∀ a b : Fin (m + 1), a ∈ left → b ∈ left → ent M a.val b.val = 0
  pair : ∀ a b : Fin (m + 1), a ≠ b → ¬ (a ∈ left ∧ b ∈ left) → ent M a.val b.val + ent M b.val a.val = 1
  sum : ∀ a : Fin (m + 1), sumTo (fun b => ent M a.val b) (m + 1) + (if a ∈ left then nd.getD a.val 0 else 0) = W.getD a.val 0
theorem mem_vals {m : Nat} {l : List (Fin (m + 1))} {a : Fin (m + 1)} : a.val ∈ l.map (·.val) ↔ a ∈ l := by
  rw [List.mem_map]
  constructor
  · rintro ⟨b, hb, e⟩
    rw [← Fin.ext e]; exact hb
  · intro h; exact ⟨a, h, rfl⟩
theorem mem_ints {m : Nat} {l : List (Fin (m + 1))} {a : Fin (m + 1)} : intF a ∈ l.map intF ↔ a ∈ l := by
  rw [List.mem_map]
  constructor
  · rintro ⟨b, hb, e⟩
    have : b = a := Fin.ext (by unfold intF at e; omega)
    rw [← this]; exact hb
  · intro h; exact ⟨a, h, rfl⟩
theorem MadeTo.step {m : Nat} {W : List Int} {left : List (Fin (m + 1))} {nd : List Int} {M : List (List Int)} (h : MadeTo m W left nd M) {x : Fin (m + 1)} {rest : List (Fin (m + 1))} (hs : sortF (needF nd m) left = x :: rest) :
    MadeTo m W rest (inSt x.val (rest.map (·.val)) nd M rest.length).1 (inSt x.val (rest.map (·.val)) nd M rest.length).2 := by
  have hp : (x :: rest).Perm left := by rw [← hs]; exact sortF_perm (needF_swo nd m) left
  have hsort : (x :: rest).Pairwise fun a b => ¬ needF nd m b a < 0 := by rw [← hs]; exact sortF_sorted (needF_swo nd m) left
  have hnd : (x :: rest).Nodup := hp.nodup_iff.2 h.nodup
  obtain ⟨hxr, hnr⟩ := List.nodup_cons.1 hnd
  have hmem : ∀ y, y ∈ left ↔ y = x ∨ y ∈ rest := fun y => by rw [← hp.mem_iff, List.mem_cons]
  have hcan : CanNeed (intF x :: rest.map intF) (ofL nd) := by
    have := h.can.perm (hp.map intF).symm
    rwa [List.map_cons] at this
  have hofl : ∀ y : Fin (m + 1), ofL nd (intF y) = nd.getD y.val 0 := fun y => by unfold ofL intF; rw [Int.toNat_natCast]
  have hpw : (intF x :: rest.map intF).Pairwise fun a b => ofL nd a ≤ ofL nd b := by
    have : ((x :: rest).map intF).Pairwise fun a b => ofL nd a ≤ ofL nd b := by
      rw [List.pairwise_map]
      refine hsort.imp fun {a b} hab => ?_
      rw [hofl, hofl]
      unfold needF at hab
      omega
    rwa [List.map_cons] at this
  have hnd2 : (intF x :: rest.map intF).Nodup := by
    have : ((x :: rest).map intF).Nodup := by
      unfold List.Nodup
      rw [List.pairwise_map]
      exact hnd.imp fun {a b} hab e => hab (Fin.ext (by unfold intF at e; omega))
    rwa [List.map_cons] at this
  obtain ⟨f1, f2⟩ := hcan.few (fun y hy => (List.pairwise_cons.1 hpw).1 y hy)
  have hstep := hcan.step hnd2 hpw
  rw [hofl] at f1 f2 hstep
  obtain ⟨v, ev⟩ := Int.eq_ofNat_of_zero_le f1
  rw [ev, Int.toNat_natCast] at hstep
  rw [ev, List.length_map] at f2
  obtain ⟨g1, g2, g3, g4⟩ := inSt_is (n := m + 1) (x := x.val) (v := v) (R := rest.map (·.val)) h.sq h.lnd x.isLt (fun y hy => by
    obtain ⟨z, _, rfl⟩ := List.mem_map.1 hy
    exact z.isLt) (fun hm => hxr (mem_vals.1 hm)) (by
    unfold List.Nodup
    rw [List.pairwise_map]
    exact hnr.imp fun {a b} hab e => hab (Fin.ext e)) ev rest.length (by rw [List.length_map]; exact Nat.le_refl _)
  have et : (rest.map (·.val)).take rest.length = rest.map (·.val) := List.take_of_length_le (by rw [List.length_map]; exact Nat.le_refl _)
  rw [et] at g3 g4
  have mt : ∀ a : Fin (m + 1), a.val ∈ (rest.map (·.val)).take v ↔ a ∈ rest.take v := fun a => by rw [← List.map_take]; exact mem_vals
  have md : ∀ a : Fin (m + 1), a.val ∈ (rest.map (·.val)).drop v ↔ a ∈ rest.drop v := fun a => by rw [← List.map_drop]; exact mem_vals
  have hsplit : ∀ y, y ∈ rest ↔ y ∈ rest.take v ∨ y ∈ rest.drop v := fun y => by rw [← List.mem_append, List.take_append_drop]
  have hapart : ∀ y, y ∈ rest.take v → y ∈ rest.drop v → False := fun y h1 h2 => by
    have hn3 := hnr
    rw [← List.take_append_drop v rest, List.nodup_append] at hn3
    exact hn3.2.2 y h1 y h2 rfl
  have G : ∀ a b : Fin (m + 1), ent (inSt x.val (rest.map (·.val)) nd M rest.length).2 a.val b.val = if a = x ∧ b ∈ rest.take v then 1 else if b = x ∧ a ∈ rest.drop v then 1 else ent M a.val b.val := fun a b => by
    rw [g4]
    have e1 : (a.val = x.val ∧ b.val ∈ (rest.map (·.val)).take v) ↔ (a = x ∧ b ∈ rest.take v) := ⟨fun z => ⟨Fin.ext z.1, (mt b).1 z.2⟩, fun z => ⟨by rw [z.1], (mt b).2 z.2⟩⟩
    have e2 : (b.val = x.val ∧ a.val ∈ (rest.map (·.val)).drop v) ↔ (b = x ∧ a ∈ rest.drop v) := ⟨fun z => ⟨Fin.ext z.1, (md a).1 z.2⟩, fun z => ⟨by rw [z.1], (md a).2 z.2⟩⟩
    by_cases c1 : a = x ∧ b ∈ rest.take v
    · rw [if_pos c1, if_pos (e1.2 c1)]
    · rw [if_neg c1, if_neg (fun z => c1 (e1.1 z))]
      by_cases c2 : b = x ∧ a ∈ rest.drop v
      · rw [if_pos c2, if_pos (e2.2 c2)]
      · rw [if_neg c2, if_neg (fun z => c2 (e2.1 z))]
  have hxt : x ∉ rest.take v := fun hm => hxr (List.mem_of_mem_take hm)
  have hxd : x ∉ rest.drop v := fun hm => hxr (List.mem_of_mem_drop hm)
  refine ⟨g1, g2, hnr, ?_, ?_, ?_, ?_, ?_, ?_⟩
  · refine hstep.congr fun y hy => ?_
    obtain ⟨z, hz, rfl⟩ := List.mem_map.1 hy
    have e1 : ofL (inSt x.val (rest.map (·.val)) nd M rest.length).1 (intF z) = if z.val ∈ (rest.map (·.val)).drop v then nd.getD z.val 0 - 1 else nd.getD z.val 0 := by
      unfold ofL intF
      rw [Int.toNat_natCast, g3]
    rw [e1]
    unfold lessD
    rw [hofl]
    by_cases c : z ∈ rest.drop v
    · rw [if_pos ((md z).2 c), if_pos (by rw [← List.map_drop]; exact mem_ints.2 c)]
    · rw [if_neg (fun q => c ((md z).1 q)), if_neg (fun q => c (by rw [← List.map_drop] at q; exact mem_ints.1 q))]
  · intro a b
    rw [g4]
    split
    · exact .inr rfl
    · split
      · exact .inr rfl
      · exact h.bit a b
  · intro a
    have c1 : ¬ (a = x.val ∧ a ∈ (rest.map (·.val)).take v) := fun z => hxt ((mt x).1 (by rw [← z.1]; exact z.2))
    have c2 : ¬ (a = x.val ∧ a ∈ (rest.map (·.val)).drop v) := fun z => hxd ((md x).1 (by rw [← z.1]; exact z.2))
    rw [g4, if_neg c1, if_neg c2]
    exact h.diag a
  · intro a b ha hb
    have c1 : ¬ (a = x ∧ b ∈ rest.take v) := fun z => hxr (by rw [← z.1]; exact ha)
    have c2 : ¬ (b = x ∧ a ∈ rest.drop v) := fun z => hxr (by rw [← z.1]; exact hb)
    rw [G, if_neg c1, if_neg c2]
    exact h.free a b ((hmem a).2 (.inr ha)) ((hmem b).2 (.inr hb))
  · have key : ∀ b : Fin (m + 1), b ≠ x → ent (inSt x.val (rest.map (·.val)) nd M rest.length).2 x.val b.val + ent (inSt x.val (rest.map (·.val)) nd M rest.length).2 b.val x.val = 1 := fun b hb => by
      rw [G x b, G b x]
      by_cases c1 : b ∈ rest
      · have z1 := h.free x b ((hmem x).2 (.inl rfl)) ((hmem b).2 (.inr c1))
        have z2 := h.free b x ((hmem b).2 (.inr c1)) ((hmem x).2 (.inl rfl))
        rcases (hsplit b).1 c1 with c2 | c2
        · rw [if_pos ⟨rfl, c2⟩, if_neg (fun z => hb z.1), if_neg (fun z => hapart b c2 z.2), z2]; rfl
        · rw [if_neg (fun z => hapart b z.2 c2), if_neg (fun z => hb z.1), z1, if_neg (fun z => hb z.1), if_pos ⟨rfl, c2⟩]; rfl
      · rw [if_neg (fun z => c1 (List.mem_of_mem_take z.2)), if_neg (fun z => hb z.1), if_neg (fun z => hb z.1), if_neg (fun z => c1 (List.mem_of_mem_drop z.2))]
        exact h.pair x b (fun e => hb e.symm) (fun z => by
          rcases (hmem b).1 z.2 with c | c
          · exact hb c
          · exact c1 c)
    intro a b hab hno
    by_cases ca : a = x
    · subst ca; exact key b (fun e => hab e.symm)
    · by_cases cb : b = x
      · subst cb
        have := key a ca
        omega
      · rw [G a b, G b a, if_neg (fun z => ca z.1), if_neg (fun z => cb z.1), if_neg (fun z => cb z.1), if_neg (fun z => ca z.1)]
        exact h.pair a b hab (fun z => hno ⟨((hmem a).1 z.1).resolve_left ca, ((hmem b).1 z.2).resolve_left cb⟩)
  · intro a
    have hold := h.sum a
    by_cases ca : a = x
    · subst ca
      rw [if_pos ((hmem a).2 (.inl rfl)), ev] at hold
      rw [if_neg hxr, Int.add_zero, ← hold]
      rw [show sumTo (fun b => ent (inSt a.val (rest.map (·.val)) nd M rest.length).2 a.val b) (m + 1) = sumTo (fun b => if b ∈ (rest.map (·.val)).take v then 1 else ent M a.val b) (m + 1) from sumTo_congr fun b hb => by
        rw [g4]
        by_cases c : b ∈ (rest.map (·.val)).take v
        · rw [if_pos ⟨rfl, c⟩, if_pos c]
        · rw [if_neg (fun z => c z.2), if_neg c, if_neg (fun z => hxd ((md a).1 z.2))]]
      rw [sumTo_put]
      · rw [List.length_take, List.length_map, Nat.min_eq_left (by omega)]
      · refine (List.take_sublist _ _).nodup ?_
        unfold List.Nodup
        rw [List.pairwise_map]
        exact hnr.imp fun {a b} hab e => hab (Fin.ext e)
      · intro b hb
        obtain ⟨z, _, rfl⟩ := List.mem_map.1 (List.mem_of_mem_take hb)
        exact z.isLt
      · intro b hb
        obtain ⟨z, hz, rfl⟩ := List.mem_map.1 (List.mem_of_mem_take hb)
        exact h.free a z ((hmem a).2 (.inl rfl)) ((hmem z).2 (.inr hz))
    · by_cases cr : a ∈ rest
      · rw [if_pos ((hmem a).2 (.inr cr))] at hold
        rw [if_pos cr, g3, ← hold]
        by_cases cd : a ∈ rest.drop v
        · rw [if_pos ((md a).2 cd)]
          rw [show sumTo (fun b => ent (inSt x.val (rest.map (·.val)) nd M rest.length).2 a.val b) (m + 1) = sumTo (fun b => if b ∈ [x.val] then 1 else ent M a.val b) (m + 1) from sumTo_congr fun b hb => by
            rw [g4, if_neg (fun z => ca (Fin.ext z.1))]
            by_cases c : b = x.val
            · rw [if_pos ⟨c, (md a).2 cd⟩, if_pos (by simp [c])]
            · rw [if_neg (fun z => c z.1), if_neg (by simp [c])]]
          rw [sumTo_put]
          · have e9 : sumTo (fun b => ent M a.val b) (m + 1) = sumTo (ent M a.val) (m + 1) := rfl
            simp only [List.length_cons, List.length_nil]
            omega
          · simp
          · intro b hb
            rw [List.mem_singleton] at hb
            rw [hb]; exact x.isLt
          · intro b hb
            rw [List.mem_singleton] at hb
            rw [hb]
            exact h.free a x ((hmem a).2 (.inr cr)) ((hmem x).2 (.inl rfl))
        · rw [if_neg (fun z => cd ((md a).1 z))]
          congr 1
          refine sumTo_congr fun b hb => ?_
          rw [g4, if_neg (fun z => ca (Fin.ext z.1)), if_neg (fun z => cd ((md a).1 z.2))]
      · have hal : a ∉ left := fun z => by
          rcases (hmem a).1 z with c | c
          · exact ca c
          · exact cr c
        rw [if_neg hal] at hold
        rw [if_neg cr, ← hold]
        congr 1
        refine sumTo_congr fun b hb => ?_
        rw [g4, if_neg (fun z => ca (Fin.ext z.1)), if_neg (fun z => cr (List.mem_of_mem_drop ((md a).1 z.2)))]
end Go.Proofs.Ytbnjffhcpkfnhaa.H
/- The table that sun.Make makes is right, and has the wins that were asked. -/
namespace Go.Proofs.Ytbnjffhcpkfnhaa.H
open Go.RowKit Go.Proofs.YtbnjffhcpkfnhaaW.PrintWords Go.Proofs.YtbnjffhcpkfnhaaW.PrintLast Go.Proofs.YtbnjffhcpkfnhaaW.PrintMore
set_option linter.unusedVariables false
set_option linter.unusedSimpArgs false
theorem ent_zeros (n : Nat) (a b : Nat) : ent (List.replicate n (List.replicate n 0)) a b = 0 := by
  unfold ent
  rw [List.getD_eq_getElem?_getD (l := List.replicate n (List.replicate n 0)), List.getElem?_replicate]
  split
  · rw [Option.getD_some, List.getD_eq_getElem?_getD, List.getElem?_replicate]
    split <;> rfl
  · rfl
theorem made_start {m : Nat} {l : List Int} (hl : l.length = m + 1) (hc : CanNeed (nums0 l.length) (ofL l)) : MadeTo m l (allF m) l (List.replicate (m + 1) (List.replicate (m + 1) 0)) where
  sq := ⟨by simp, fun i hi => by rw [List.getD_eq_getElem?_getD, List.getElem?_replicate, if_pos hi]; simp⟩
  lnd := hl
  nodup := by
    unfold allF List.Nodup
    rw [List.pairwise_iff_getElem]
    intro i j hi hj hij e
    rw [List.getElem_ofFn, List.getElem_ofFn] at e
    have := congrArg Fin.val e
    simp at this
    omega
  can := by rw [allF_map, ← hl]; exact hc
  bit := fun a b => .inl (ent_zeros _ a b)
  diag := fun a => ent_zeros _ a a
  free := fun a b _ _ => ent_zeros _ _ _
  pair := fun a b _ hno => absurd ⟨by unfold allF; exact List.mem_ofFn.2 ⟨a, rfl⟩, by unfold allF; exact List.mem_ofFn.2 ⟨b, rfl⟩⟩ hno
  sum := fun a => by
    rw [show sumTo (fun b => ent (List.replicate (m + 1) (List.replicate (m + 1) 0)) a.val b) (m + 1) = sumTo (fun _ => (0 : Int)) (m + 1) from sumTo_congr fun b _ => ent_zeros _ _ _, sumTo_zero, if_pos (by unfold allF; exact List.mem_ofFn.2 ⟨a, rfl⟩)]
    omega
theorem made_at {m : Nat} {l : List Int} (hl : l.length = m + 1) (hc : CanNeed (nums0 l.length) (ofL l)) : ∀ r, r ≤ m + 1 → MadeTo m l (outSt m l r).1 (outSt m l r).2.1 (outSt m l r).2.2 ∧ (outSt m l r).1.length = m + 1 - r
  | 0, _ => ⟨made_start hl hc, by simp [outSt, allF]⟩
  | r + 1, hr => by
    obtain ⟨h1, h2⟩ := made_at hl hc r (by omega)
    have hlen := sortF_len (needF_swo (outSt m l r).2.1 m) (outSt m l r).1
    rw [h2] at hlen
    unfold outSt
    cases hs : sortF (needF (outSt m l r).2.1 m) (outSt m l r).1 with
    | nil => rw [hs] at hlen; simp at hlen; omega
    | cons x rest =>
      rw [hs, List.length_cons] at hlen
      exact ⟨h1.step hs, by show rest.length = _; omega⟩
theorem make_right {l : List Int} (h : winsV l = 0) (hc : canWinB l = true) : Right (makeL l) ∧ winsL (makeL l) = l := by
  obtain ⟨h1, h7, _⟩ := winsV_ok h
  have hl : l.length = (l.length - 1) + 1 := by omega
  obtain ⟨hM, hlen⟩ := made_at hl (canNeed_of h hc) l.length (by omega)
  have e0 : (outSt (l.length - 1) l l.length).1 = [] := List.length_eq_zero_iff.1 (by omega)
  rw [e0] at hM
  generalize hMM : (outSt (l.length - 1) l l.length).2.2 = M at hM
  have hmk : makeL l = M := hMM
  rw [hmk]
  have hml : M.length = l.length := by rw [hM.sq.len]; omega
  have hR : Right M := by
    refine ⟨by omega, by omega, fun i hi => by rw [hM.sq.row i (by omega)]; omega, hM.bit, hM.diag, fun i k hi hk hik => ?_⟩
    exact hM.pair ⟨i, by omega⟩ ⟨k, by omega⟩ (fun e => hik (congrArg Fin.val e)) (fun z => by cases z.1)
  refine ⟨hR, ?_⟩
  have hw := winsL_len M
  apply List.ext_getElem (by omega)
  intro i a b
  have e1 := hR.wins_get (show i < M.length by omega)
  have e2 := hM.sum ⟨i, by omega⟩
  rw [if_neg (by simp), Int.add_zero] at e2
  have e3 : winOf M i = l.getD i 0 := by
    rw [← e2]
    unfold winOf
    rw [show M.length = l.length - 1 + 1 by omega]
  rw [e3, List.getD_eq_getElem?_getD, List.getElem?_eq_getElem a, List.getD_eq_getElem?_getD, List.getElem?_eq_getElem b] at e1
  exact e1
end Go.Proofs.Ytbnjffhcpkfnhaa.H
/- sun.Make's comparison; what is needed stays small. -/
namespace Go.Proofs.Ytbnjffhcpkfnhaa.H
open Go.RowKit Go.Shelf Go.Proofs.YtbnjffhcpkfnhaaW.PrintWords Go.Proofs.YtbnjffhcpkfnhaaW.PrintLast Go.Proofs.YtbnjffhcpkfnhaaW.PrintMore
set_option linter.unusedVariables false
set_option linter.unusedSimpArgs false
theorem Make_1.calls (B : Nat) (A : Option Addr) (c : Nat) (ws : List Int) (n : Nat) (a b : Nat) (w : World) (ha : a < n) (hb : b < n) (hr : Kd.C (Kd.int .i64) w A n ws) (bW : Boxed w B 27 (.slice A n c)) (hw : ∀ j, -1000 ≤ ws.getD j 0 ∧ ws.getD j 0 ≤ 1000) :
    Calls Try.prog 102 #[.int .i64 a, .int .i64 b, .pointer (some ⟨B, 0, none⟩)] w fun e w' => e = .returned (.int .i64 (ws.getD a 0 - ws.getD b 0)) ∧ ∃ q, w' = w.drewN q := by
  have haz : (a : Int) < (n : Int) := by omega
  have hbz : (b : Int) < (n : Int) := by omega
  obtain ⟨ad, rfl, h1⟩ := at_ints hr a ha
  obtain ⟨ad', e', h2⟩ := at_ints hr b hb
  cases e'
  have cW := bW.cell
  have b1 := hw a
  have b2 := hw b
  clear hr bW hw
  generalize ws.getD a 0 = x at *
  generalize ws.getD b 0 = y at *
  go_enter Try.func102, Try.ntmps102
  go_wp2
  repeat (go_quiet (fail); try go_wp2)
  go_ret
  exact ⟨rfl, _, rfl⟩
/-- After so many steps each needs at most so many fewer. -/
theorem inSt_low {x : Nat} {R : List Nat} {nd : List Int} {M : List (List Int)} {lo hi : Int} (h : ∀ j, lo ≤ nd.getD j 0 ∧ nd.getD j 0 ≤ hi) : ∀ (k : Nat) (j : Nat), lo - k ≤ (inSt x R nd M k).1.getD j 0 ∧ (inSt x R nd M k).1.getD j 0 ≤ hi
  | 0, j => by have := h j; simp only [inSt]; omega
  | k + 1, j => by
    have ih := inSt_low (x := x) (R := R) (M := M) h k
    unfold inSt
    split
    · have := ih j
      dsimp only
      omega
    · have h1 := ih j
      have h2 := ih (R.getD k 0)
      dsimp only
      by_cases e : R.getD k 0 < (inSt x R nd M k).1.length
      · rw [getD_set0 _ _ _ _ e]
        split <;> omega
      · rw [List.set_eq_of_length_le (by omega)]
        omega
theorem outSt_low {m : Nat} {nd : List Int} (hm : m + 1 ≤ 7) (h : ∀ j, 0 ≤ nd.getD j 0 ∧ nd.getD j 0 ≤ 7) : ∀ r, (outSt m nd r).1.length ≤ m + 1 ∧ ∀ j, -(7 * (r : Int)) ≤ (outSt m nd r).2.1.getD j 0 ∧ (outSt m nd r).2.1.getD j 0 ≤ 7
  | 0 => ⟨by simp [outSt, allF], fun j => by have := h j; simp only [outSt]; omega⟩
  | r + 1 => by
    obtain ⟨h1, h2⟩ := outSt_low hm h r
    have hlen := sortF_len (needF_swo (outSt m nd r).2.1 m) (outSt m nd r).1
    unfold outSt
    cases hs : sortF (needF (outSt m nd r).2.1 m) (outSt m nd r).1 with
    | nil => exact ⟨h1, fun j => by have := h2 j; dsimp only; omega⟩
    | cons x rest =>
      rw [hs, List.length_cons] at hlen
      refine ⟨by dsimp only; omega, fun j => ?_⟩
      have := inSt_low (x := x.val) (R := rest.map (·.val)) (M := (outSt m nd r).2.2) h2 rest.length j
      dsimp only
      omega
end Go.Proofs.Ytbnjffhcpkfnhaa.H
/- Rows of rows: a row laid into a place; the place's own cell; rows of zeros laid one after another. -/
namespace Go.Proofs.Ytbnjffhcpkfnhaa.H
open Go.RowKit Go.Shelf Go.Proofs.YtbnjffhcpkfnhaaW.PrintWords Go.Proofs.YtbnjffhcpkfnhaaW.PrintLast Go.Proofs.YtbnjffhcpkfnhaaW.PrintMore
set_option linter.unusedVariables false
set_option linter.unusedSimpArgs false
/-- A row is laid into a place of a row of rows. -/
theorem S_lay {W : World} {base n cap g gr cr : Nat} {ok : Nat → Prop} {M : List (List Int)} {row : List Int} (h : Kd.S (Kd.slice 3 (Kd.int .i64)) 27 W base (fun k => ok k ∧ k ≠ gr) (.slice (some ⟨g, 0, none⟩) n cap) M) (hr : Kd.R (Kd.int .i64) 3 W base (fun k => k = gr) (.slice (some ⟨gr, 0, none⟩) row.length cr) row) (hgr : ok gr ∧ gr ≠ g) (i : Nat) (hi : i < n) :
    Kd.S (Kd.slice 3 (Kd.int .i64)) 27 (W.setCell ⟨g, i, none⟩ (.slice (some ⟨gr, 0, none⟩) row.length cr)) base ok (.slice (some ⟨g, 0, none⟩) n cap) (M.set i row) ∧ W.grownBy (W.setCell ⟨g, i, none⟩ (.slice (some ⟨gr, 0, none⟩) row.length cr)) (some g) := by
  obtain ⟨oki, c, hcl, hM, hcc, hoki, hH⟩ := Kd.S_lend h [] (i : Int) (by omega) (by omega)
  have e1 : (Kd.slice 3 (Kd.int .i64)).sz = 1 := rfl
  rw [e1] at hcl
  have hH2 := Kd.H_mono (ok' := fun k => ok k ∧ ¬ k = gr) hH (fun k hk => ⟨hk.1, hk.2⟩)
  have hs := (Kd.S_seg (okg := fun k => k = gr) (okp := fun k => k = gr) hH2 (by omega) (by omega) (seg := [.slice (some ⟨gr, 0, none⟩) row.length cr]) (j := 0) (by rw [e1]; simp) (x' := row) (by
    rw [List.take_zero, List.nil_append, List.drop_eq_nil_of_le (by simp [hcl]), List.append_nil]
    exact Kd.M_row hr) (fun k hk => .inr hk) (fun k hk => by rw [hk]; exact hgr))
  rw [Int.toNat_natCast, e1, Nat.mul_one, Nat.add_zero] at hs
  exact hs

theorem S_cell {W : World} {base n cap g : Nat} {ok : Nat → Prop} {M : List (List Int)} (h : Kd.S (Kd.slice 3 (Kd.int .i64)) 27 W base ok (.slice (some ⟨g, 0, none⟩) n cap) M) (i : Nat) (hi : i < n) : (∃ u, W.cell? ⟨g, i, none⟩ = some u) ∧ W.frozen? ⟨g, i, none⟩ = false := by
  obtain ⟨oki, c, hcl, hM, hcc, hfr, hoki, hH⟩ := Kd.S_elem h [] (i : Int) (by omega) (by omega)
  have e1 : (Kd.slice 3 (Kd.int .i64)).sz = 1 := rfl
  rw [e1] at hcl
  match c, hcl with
  | [u], _ =>
    have h0 := hcc 0 u rfl
    have h1 := hfr 0
    rw [Int.toNat_natCast, e1, Nat.mul_one, Nat.add_zero] at h0 h1
    exact ⟨⟨u, h0⟩, h1⟩
/-- So many rows of zeros, and none behind them. -/
def mkZ (n k : Nat) : List (List Int) := List.replicate k (List.replicate n 0) ++ List.replicate (n - k) []
theorem mkZ_set {n k : Nat} (h : k < n) : (mkZ n k).set k (List.replicate n 0) = mkZ n (k + 1) := by
  unfold mkZ
  rw [List.set_append_right _ _ (by simp), List.length_replicate, Nat.sub_self, show n - k = (n - (k + 1)) + 1 by omega, List.replicate_succ, List.set_cons_zero, List.replicate_succ', List.append_assoc]
  rfl
theorem mkZ_zero (n : Nat) : mkZ n 0 = List.replicate n [] := by simp [mkZ]
theorem mkZ_all (n : Nat) : mkZ n n = List.replicate n (List.replicate n 0) := by simp [mkZ]
end Go.Proofs.Ytbnjffhcpkfnhaa.H
/- sun.Make's memory: the table, what is left, what is needed. -/
namespace Go.Proofs.Ytbnjffhcpkfnhaa.H
open Go.RowKit Go.Shelf Go.Proofs.YtbnjffhcpkfnhaaW.PrintWords Go.Proofs.YtbnjffhcpkfnhaaW.PrintLast Go.Proofs.YtbnjffhcpkfnhaaW.PrintMore
set_option linter.unusedVariables false
set_option linter.unusedSimpArgs false
theorem grownBy_sortO {m : Nat} {w : World} {g off n : Nat} {os : Array Obj} (d : Array (Fin (m + 1))) : w.grownBy (sortWorld encF w g off n d os) (some g) := by
  refine ⟨rfl, rfl, rfl, by simp [sortWorld], fun k hk hne => ?_⟩
  unfold sortWorld
  rw [Go.Sort.heap_grow_old _ _ (by simpa using hk)]
  have : g ≠ k := fun e => hne (by rw [e])
  simp [Go.Sort.putRow, Go.Sort.mapBlock, Go.Sort.ahead, Array.getElem?_modify, this]
/-- Rows apart, their own blocks of a kind: a store into one of them. -/
theorem S_putO {W : World} {base n cap : Nat} {ok : Nat → Prop} {ad : Addr} {t : List (List Int)} (h : Kd.S (Kd.slice 3 (Kd.int .i64)) 27 W base ok (.slice (some ad) n cap) t) (a : Nat) (ha : a < n) (hr : 0 < (t.getD a []).length) :
    ∃ ga ca, ok ga ∧ base ≤ ga ∧ ga < W.heap.size ∧ W.cell? (ad.add a) = some (.slice (some ⟨ga, 0, none⟩) (t.getD a []).length ca) ∧ ∀ (ka : Nat) (x : Int), ka < (t.getD a []).length →
    (∃ u, W.cell? ⟨ga, ka, none⟩ = some u) ∧ W.frozen? ⟨ga, ka, none⟩ = false ∧ Kd.S (Kd.slice 3 (Kd.int .i64)) 27 (W.setCell ⟨ga, ka, none⟩ (.int .i64 x)) base ok (.slice (some ad) n cap) (t.set a ((t.getD a []).set ka x)) ∧ W.grownBy (W.setCell ⟨ga, ka, none⟩ (.int .i64 x)) (some ga) := by
  have hn : t.length = n := (Kd.S_reads' h).1.symm
  obtain ⟨oka, ce, hcl, hM, hcc, hok, hbk⟩ := Kd.S_borrow h [] (a : Int) (by omega) (by omega)
  obtain ⟨va, rfl, gea⟩ := hM
  have hva := hcc 0 _ rfl
  have e1 : (Kd.slice 3 (Kd.int .i64)).sz = 1 := rfl
  rw [Int.toNat_natCast] at gea hva
  rw [e1, Nat.mul_one, Nat.add_zero] at hva
  replace gea := (show Kd.R (Kd.int .i64) 3 _ _ _ _ (t.getD a []) from gea)
  obtain ⟨ga, ca, rfl, hga, hgl, _⟩ := Kd.R_form gea hr
  refine ⟨ga, ca, (hok ga (gea.1 ga rfl)).1, hga, hgl, hva, fun ka x hka => ?_⟩
  obtain ⟨xa, fa⟩ := Kd.R_celln 0 gea (ka : Int) (by omega) (by omega)
  rw [Int.toNat_natCast] at xa fa
  obtain ⟨HP1, HP2⟩ := Kd.R_putg gea (ka : Int) x
  have HSa := hbk HP2 (fun k_ e_ => by injection e_ with e_; subst e_; exact gea.1 _ rfl) (x' := (t.getD a []).set (ka : Int).toNat x) (Kd.M_row HP1)
  rw [Int.toNat_natCast] at HSa HP2
  rw [Int.toNat_natCast] at HSa
  exact ⟨⟨_, xa⟩, fa, HSa, HP2⟩

structure MkSt {m : Nat} (w0 : World) (n B gN cN gL g6 c6 off : Nat) (L : List (Fin (m + 1))) (nd : List Int) (M : List (List Int)) (wr : World) : Prop where
  bx : Boxed wr B 27 (.slice (some ⟨gN, 0, none⟩) n cN)
  own : wr.ownsRow w0.heap.size 3 1 (.slice (some ⟨gN, 0, none⟩) n cN) n (nums .i64 nd)
  lnd : nd.length = n
  lf : Go.Sort.Holds encF wr gL off L.toArray
  tb : Kd.S (Kd.slice 3 (Kd.int .i64)) 27 wr w0.heap.size (fun q => q ≠ gL ∧ q ≠ gN ∧ q ≠ B) (.slice (some ⟨g6, 0, none⟩) n c6) M
  bl : Below w0.heap.size w0 wr
  ne1 : gN ≠ gL
  ne2 : B ≠ gL
  ne3 : B ≠ gN
  b1 : w0.heap.size ≤ B
  b2 : w0.heap.size ≤ gN
  b3 : w0.heap.size ≤ gL
  gl : gL < wr.heap.size
theorem Holds_grown {m : Nat} {w w' : World} {g off k : Nat} {d : Array (Fin (m + 1))} (h : Go.Sort.Holds encF w g off d) (hg : w.grownBy w' (some k)) (hne : g ≠ k) (hl : g < w.heap.size) : Go.Sort.Holds encF w' g off d := fun j hj => by
  have hb := hg.block g hl (fun e => hne (by injection e))
  obtain ⟨h1, h2⟩ := h j hj
  exact ⟨(World.cell?_of_block (a := ⟨g, off + j, none⟩) hb).trans h1, (World.frozen?_of_block (a := ⟨g, off + j, none⟩) hb).trans h2⟩
theorem MkSt.left {m : Nat} {w0 : World} {n B gN cN gL g6 c6 off : Nat} {L : List (Fin (m + 1))} {nd : List Int} {M : List (List Int)} {wr : World} (h : MkSt w0 n B gN cN gL g6 c6 off L nd M wr) (j : Nat) (hj : j < L.length) : wr.cell? ⟨gL, off + j, none⟩ = some (.int .i64 ((L.map (·.val)).getD j 0 : Nat)) := by
  have := (h.lf j (by simpa using hj)).1
  rw [this]
  simp [encF, hj]
/-- The table's rows that own their blocks lie apart from all else. -/
theorem MkSt.row {m : Nat} {w0 : World} {n B gN cN gL g6 c6 off : Nat} {L : List (Fin (m + 1))} {nd : List Int} {M : List (List Int)} {wr : World} (h : MkSt w0 n B gN cN gL g6 c6 off L nd M wr) (hM : Sq n M) (a : Nat) (ha : a < n) :
    ∃ ga ca, wr.cell? ⟨g6, a, none⟩ = some (.slice (some ⟨ga, 0, none⟩) n ca) ∧ ∀ (k : Nat) (x : Int), k < n → (∃ u, wr.cell? ⟨ga, k, none⟩ = some u) ∧ wr.frozen? ⟨ga, k, none⟩ = false ∧ MkSt w0 n B gN cN gL g6 c6 off L nd (putM M a k x) (wr.setCell ⟨ga, k, none⟩ (.int .i64 x)) := by
  have hra := hM.row a ha
  obtain ⟨ga, ca, ⟨n1, n2, n3⟩, hb, hgl, hrow, hput⟩ := S_putO h.tb a ha (by omega)
  rw [hra, add_at, Nat.zero_add] at hrow
  refine ⟨ga, ca, hrow, fun k x hk => ?_⟩
  obtain ⟨hu, hf, hS, hg⟩ := hput k x (by omega)
  exact ⟨hu, hf, h.bx.kept hg (fun e => n3 (by injection e with e; exact e.symm)), h.own.kept hg (.inr (by simp only [Value.ownBlock]; intro e; injection e with e; exact n2 e.symm)), h.lnd, Holds_grown h.lf hg (fun e => n1 e.symm) h.gl, hS, h.bl.grown hg h.bl.size (fun j hj => by cases hj; exact hb), h.ne1, h.ne2, h.ne3, h.b1, h.b2, h.b3, Nat.lt_of_lt_of_le h.gl hg.size⟩
theorem MkSt.need {m : Nat} {w0 : World} {n B gN cN gL g6 c6 off : Nat} {L : List (Fin (m + 1))} {nd : List Int} {M : List (List Int)} {wr : World} (h : MkSt w0 n B gN cN gL g6 c6 off L nd M wr) (a : Nat) (ha : a < n) :
    wr.cell? ⟨gN, a, none⟩ = some (.int .i64 (nd.getD a 0)) ∧ wr.frozen? ⟨gN, a, none⟩ = false ∧ ∀ x : Int, MkSt w0 n B gN cN gL g6 c6 off L (nd.set a x) M (wr.setCell ⟨gN, a, none⟩ (.int .i64 x)) := by
  have hR : Kd.R (Kd.int .i64) 3 wr w0.heap.size (fun q => q = gN) (.slice (some ⟨gN, 0, none⟩) n cN) nd := Kd.R_of_own (by rw [h.lnd]; exact h.own) (fun q hq => by simpa [Value.ownBlock] using hq.symm)
  have hC := (Kd.R_reads' hR).2.2
  obtain ⟨ad, e, hx⟩ := at_ints hC a (by rw [h.lnd]; exact ha)
  cases e
  rw [add_at, Nat.zero_add] at hx
  obtain ⟨xa, fa⟩ := Kd.R_celln 0 hR (a : Int) (by omega) (by omega)
  rw [Int.toNat_natCast] at xa fa
  refine ⟨hx, fa, fun x => ?_⟩
  obtain ⟨HP1, hg⟩ := Kd.R_putg hR (a : Int) x
  rw [Int.toNat_natCast] at HP1 hg
  have h2 := h.b2
  have ho := Kd.own_of_R HP1
  rw [List.length_set, h.lnd] at ho
  exact ⟨h.bx.kept hg (fun e => h.ne3 (by injection e)), ho, by rw [List.length_set]; exact h.lnd, Holds_grown h.lf hg (fun e => h.ne1 e.symm) h.gl, Kd.S_grown h.tb hg (fun k hk e => hk.2.1 (by injection e)), h.bl.grown hg h.bl.size (fun j hj => by cases hj; exact h2), h.ne1, h.ne2, h.ne3, h.b1, h.b2, h.b3, Nat.lt_of_lt_of_le h.gl hg.size⟩
theorem MkSt.cmp {m : Nat} {w0 : World} {n B gN cN gL g6 c6 off : Nat} {L : List (Fin (m + 1))} {nd : List Int} {M : List (List Int)} {wr : World} (h : MkSt w0 n B gN cN gL g6 c6 off L nd M wr) (hn : n = m + 1) (hw : ∀ j, -1000 ≤ nd.getD j 0 ∧ nd.getD j 0 ≤ 1000) : CmpF m (needF nd m) 102 #[.pointer (some ⟨B, 0, none⟩)] gL off L.length wr := fun q os dk hdk x y => by
  have hg := grownBy_sortO (w := wr) (g := gL) (off := off) (n := q) (os := os) dk
  have hR : Kd.R (Kd.int .i64) 3 wr w0.heap.size (fun q => q = gN) (.slice (some ⟨gN, 0, none⟩) n cN) nd := Kd.R_of_own (by rw [h.lnd]; exact h.own) (fun q hq => by simpa [Value.ownBlock] using hq.symm)
  have hR2 := Kd.R_grown hR hg (fun k hk e => h.ne1 (by injection e with e; rw [← e]; exact hk.symm))
  have hC := (Kd.R_reads' hR2).2.2
  rw [h.lnd] at hC
  have := x.isLt
  have := y.isLt
  exact Make_1.calls B (some ⟨gN, 0, none⟩) cN nd n x.val y.val _ (by omega) (by omega) hC (h.bx.kept hg (fun e => h.ne2 (by injection e))) hw
theorem MkSt.sorted {m : Nat} {w0 : World} {n B gN cN gL g6 c6 off : Nat} {L L' : List (Fin (m + 1))} {nd : List Int} {M : List (List Int)} {wr : World} (h : MkSt w0 n B gN cN gL g6 c6 off L nd M wr) (hl : L'.length = L.length) (q : Nat) : MkSt w0 n B gN cN gL g6 c6 off L' nd M ((Go.Sort.putRow encF wr gL off L'.toArray).drewN q) := by
  have e : (Go.Sort.putRow encF wr gL off L'.toArray).drewN q = sortWorld encF wr gL off q L'.toArray #[] := (sortWorld_none encF wr gL off q _).symm
  have hg := grownBy_sortO (w := wr) (g := gL) (off := off) (n := q) (os := #[]) L'.toArray
  rw [← e] at hg
  have hb3 := h.b3
  exact ⟨h.bx.kept hg (fun e => h.ne2 (by injection e)), h.own.kept hg (.inr (by simp only [Value.ownBlock]; intro e; injection e with e; exact h.ne1 e)), h.lnd, (fun j hj => by
    have := Go.Sort.holds_putRow encF wr gL off L.toArray L'.toArray h.lf (by simpa using hl) j hj
    exact this), Kd.S_grown h.tb hg (fun k hk e => hk.1 (by injection e)), h.bl.grown hg h.bl.size (fun j hj => by cases hj; exact hb3), h.ne1, h.ne2, h.ne3, h.b1, h.b2, h.b3, Nat.lt_of_lt_of_le h.gl hg.size⟩
theorem MkSt.tail {m : Nat} {w0 : World} {n B gN cN gL g6 c6 off : Nat} {x : Fin (m + 1)} {L : List (Fin (m + 1))} {nd : List Int} {M : List (List Int)} {wr : World} (h : MkSt w0 n B gN cN gL g6 c6 off (x :: L) nd M wr) : MkSt w0 n B gN cN gL g6 c6 (off + 1) L nd M wr :=
  ⟨h.bx, h.own, h.lnd, fun j hj => by
    have := h.lf (j + 1) (by simp at hj ⊢; omega)
    rw [show off + (j + 1) = off + 1 + j by omega] at this
    simpa using this, h.tb, h.bl, h.ne1, h.ne2, h.ne3, h.b1, h.b2, h.b3, h.gl⟩
theorem Holds_below {m : Nat} {w w' : World} {g off : Nat} {d : Array (Fin (m + 1))} (h : Go.Sort.Holds encF w g off d) (hb : Below w.heap.size w w') (hl : g < w.heap.size) : Go.Sort.Holds encF w' g off d := fun j hj => by
  obtain ⟨h1, h2⟩ := h j hj
  exact ⟨(hb.cell (p := ⟨g, off + j, none⟩) hl).trans h1, (hb.frozen (p := ⟨g, off + j, none⟩) hl).trans h2⟩
theorem MkSt.start {m n gL cL g6 c6 gN cN : Nat} {w0 wr w2 : World} {l : List Int} (hn : n = m + 1) (hl : l.length = n)
    (hO : wr.ownsRow w0.heap.size 3 1 (.slice (some ⟨gL, 0, none⟩) n cL) n (nums .i64 (nums0 n)))
    (hS : Kd.S (Kd.slice 3 (Kd.int .i64)) 27 wr w0.heap.size (fun q => True ∧ some q ≠ (Value.slice (some ⟨gL, 0, none⟩) n cL).ownBlock) (.slice (some ⟨g6, 0, none⟩) n c6) (mkZ n n)) (hB : Below w0.heap.size w0 wr)
    (hN : w2.ownsRow wr.heap.size 3 1 (.slice (some ⟨gN, 0, none⟩) n cN) n (nums .i64 l)) (hb : Below wr.heap.size wr w2) :
    MkSt (m := m) w0 n w2.heap.size gN cN gL g6 c6 0 (allF m) l (List.replicate (m + 1) (List.replicate (m + 1) 0)) (w2.alloc (.cells #[.slice (some ⟨gN, 0, none⟩) n cN] 27)) := by
  have hgL : gL < wr.heap.size := own_lt hO (by simp [Value.ownBlock])
  have hgN : gN < w2.heap.size := own_lt hN (by simp [Value.ownBlock])
  have hgN2 : wr.heap.size ≤ gN := own_base hN gN (by simp [Value.ownBlock])
  have hgL2 : w0.heap.size ≤ gL := own_base hO gL (by simp [Value.ownBlock])
  have hs := hB.size
  have hs2 := hb.size
  have hba := hb.alloc hs2 (.cells #[.slice (some ⟨gN, 0, none⟩) n cN] 27)
  refine ⟨Boxed.new _ _ _, own_weaken (hN.alloc _) hs, hl, ?_, ?_, hB.trans (hba.mono hs), by omega, by omega, by omega, by omega, by omega, hgL2, by simp; omega⟩
  · refine Holds_below ?_ hba hgL
    rcases hO.2 with ⟨he, _⟩ | ⟨gb, cap, cur, he, hbase, hgb, r1, r2, r3, r4⟩
    · cases he
    · cases he
      have hH : Go.Sort.Holds (Value.int .i64) wr gL 0 (nums0 n).toArray := holds_of_blockI hgb (by rw [Nat.mul_one] at r4; rw [nums0_len]; exact r4)
      intro j hj
      have hj' : j < m + 1 := by simpa [allF] using hj
      have := hH j (by simpa [nums0_len] using (show j < n by omega))
      have e1 : (nums0 n).toArray[j]! = (j : Int) := by
        rw [getElem!_pos _ j (by simpa [nums0_len] using (show j < n by omega))]
        simp [nums0]
      have e2 : ((allF m).toArray[j]!).val = j := by
        rw [getElem!_pos _ j hj]
        simp only [allF, List.getElem_toArray, List.getElem_ofFn]
      rw [e1] at this
      unfold encF
      rw [e2]
      exact this
  · have := Kd.S_below (Kd.S_mono (ok' := fun q => q ≠ gL ∧ q ≠ gN ∧ q ≠ w2.heap.size) (Kd.S_bound hS) (fun q hq => ⟨fun e => hq.1.2 (by rw [e]; simp [Value.ownBlock]), by have := hq.2.2.1; omega, by have := hq.2.2.1; omega⟩)) hba
    rw [mkZ_all, hn] at this
    rw [hn]
    exact this
theorem inSt_sq {n x : Nat} {R : List Nat} {nd : List Int} {M : List (List Int)} (h : Sq n M) : ∀ k, Sq n (inSt x R nd M k).2
  | 0 => h
  | k + 1 => by
    have ih := inSt_sq (x := x) (R := R) (nd := nd) h k
    unfold inSt
    split
    · exact ih.put _ _ _
    · exact ih.put _ _ _
theorem outSt_sq {m : Nat} {nd : List Int} : ∀ r, Sq (m + 1) (outSt m nd r).2.2
  | 0 => ⟨by simp [outSt], fun i hi => by simp [outSt, List.getD_eq_getElem?_getD, hi]⟩
  | r + 1 => by
    have ih := outSt_sq (m := m) (nd := nd) r
    unfold outSt
    split
    · exact ih
    · exact inSt_sq ih _
end Go.Proofs.Ytbnjffhcpkfnhaa.H
/- sun.Make: the walk (under way). -/
namespace Go.Proofs.Ytbnjffhcpkfnhaa.H
open Go.RowKit Go.Shelf Go.Proofs.YtbnjffhcpkfnhaaW.PrintWords Go.Proofs.YtbnjffhcpkfnhaaW.PrintLast Go.Proofs.YtbnjffhcpkfnhaaW.PrintMore
set_option linter.unusedVariables false
set_option linter.unusedSimpArgs false
set_option maxRecDepth 100000 in
set_option maxHeartbeats 8000000 in
theorem sun_Make.calls_yes (A0 : Option Addr) (c0 : Nat) (l0 : List Int) (w : World) (hr0 : Kd.C (Kd.int .i64) w A0 l0.length l0) (hc0 : l0.length ≤ c0) (hv : winsV l0 = 0) (hc : canWinB l0 = true) :
    Calls Try.prog 69 #[.slice A0 l0.length c0] w fun e w' => ∃ v0_ : Value, e = .returned (.tuple #[v0_, .bool true, .int .i64 0]) ∧ Kd.S (Kd.slice 3 (Kd.int .i64)) 27 w' w.heap.size (fun _ => True) v0_ (makeL l0) ∧ Below w.heap.size w w' := by
  obtain ⟨h1, h7, hb⟩ := winsV_ok hv
  have HV := Aside0.mk hv
  have HR0 := Aside0.mk hr0
  have hW := sun_isWins.calls A0 c0 l0 0 w hr0 hc0 (by unfold sun_isWins.f; rw [hv])
  have hK := fun W (hW : Below w.heap.size w W) => sun_canWin.calls A0 c0 l0 true W (Kd.C_below hr0 hW) hc0 (by unfold sun_canWin.f; rw [if_pos hv, hc])
  have HLN := Aside0.mk (fun (m : Nat) (e : l0.length = m + 1) (r : Nat) (hr : r ≤ m + 1) => (made_at e (canNeed_of hv hc) r hr).2)
  have HLB := Aside0.mk (show ∀ j, 0 ≤ l0.getD j 0 ∧ l0.getD j 0 ≤ 7 from fun j => by
    by_cases hj : j < l0.length
    · exact hb _ (getD_mem hj)
    · rw [List.getD_eq_getElem?_getD, List.getElem?_eq_none (by omega)]; simp)
  clear hr0 hv hc hb
  go_enter Try.func69, Try.ntmps69
  go_wp2_with (first
    | (go_at_call 99; refine hW.mono ?_; rintro e w1 ⟨rfl, n1, h1'⟩; have hb1 : Below w.heap.size w w1 := (by rw [h1']; exact pw_below_drewN (Below.refl _ _) _); clear h1' hW)
    | (go_at_call 100; refine (hK _ hb1).mono ?_; rintro e w2 ⟨rfl, hb2⟩; have HB2 := Aside0.mk (hb1.trans (hb2.mono hb1.size)); clear hb1 hb2 hK)
    | ((with_reducible refine gate_dst (N := 23) rfl ?_); refine Kd.S_make (Kd.slice 3 (Kd.int .i64)) (w0 := w) w.heap.size 27 rfl (N := 23) rfl 22 _ _ rfl (l0.length : Int) rfl rfl Try.underlying22 (.slice none 0 0) 24 info27 rfl (by decide) (by omega) [] (ok := fun _ => True) (okp := fun _ => True) (Kd.M_row (Kd.R_nil _ _ _ _ _)) (fun _ hk => hk) trivial (by omega) (by rw [Int.toNat_natCast]; omega) HB2.out HB2.out.size ?_; intro v6 w3 hS3 hB3 hg3 hat3)
    | fail)
  rw [Int.toNat_natCast] at hS3
  obtain ⟨g6, c6, e6, hg6, hgl6, _⟩ := Kd.S_form hS3 (by simp; omega)
  rw [List.length_replicate] at e6
  subst e6
  rw [← mkZ_zero] at hS3
  have HS3 := Aside0.mk hS3
  have HB3 := Aside0.mk hB3
  clear hS3 hB3 hg3 hat3 hg6 hgl6
  go_loopw [7, 26] (fun s7 s26 wr => ∃ k : Nat, k ≤ l0.length ∧ s26 = .int .i64 k ∧ Aside0 (wr.ownsRow w.heap.size 3 1 s7 (nums0 k).length (nums .i64 (nums0 k))) ∧ Aside0 (Kd.S (Kd.slice 3 (Kd.int .i64)) 27 wr w.heap.size (fun q => True ∧ some q ≠ s7.ownBlock) (.slice (some ⟨g6, 0, none⟩) l0.length c6) (mkZ l0.length k)) ∧ Aside0 (Below w.heap.size w wr)) (fun _ s26 _ => l0.length - (intOf s26).toNat)
  case atStart => exact ⟨0, Nat.zero_le _, rfl, ⟨own_nil _ _ _ _⟩, ⟨Kd.S_apart_nil HS3.out⟩, HB3⟩
  case round =>
    obtain ⟨k, hk, rfl, HO, HS, HB⟩ := hrel
    by_cases hlt : k < l0.length
    · have hltz : (k : Int) < (l0.length : Int) := by omega
      have hnl := nums0_len k
      go_wp2_with (first
        | ((with_reducible refine gate_dst (N := 33) rfl ?_); refine Kd.R_make (Kd.int .i64) (w0 := w) w.heap.size 3 rfl (N := 33) rfl 27 _ _ rfl (l0.length : Int) rfl rfl Try.underlying27 (.int .i64 0) 8 info3 rfl (by decide) (by omega) 0 (ok := fun q => wr.heap.size ≤ q) (okp := fun _ => False) (by rfl) (fun _ hk => hk.elim) (Nat.le_refl _) (by omega) (by rw [Int.toNat_natCast]; omega) HB.out HB.out.size ?_; intro v33 w4 hR4 hB4 hg4 hat4; rw [Int.toNat_natCast] at hR4; obtain ⟨g33, c33, e33, hb33, hl33, _⟩ := Kd.R_form hR4 (by simp; omega); rw [List.length_replicate] at e33; subst e33; have hlo := hR4.1 g33 rfl; have hl7 := (fun q (hq : u7.ownBlock = some q) => own_lt HO.out hq); have hl6 := Kd.S_lt HS.out g6 rfl; have hb6 := Kd.S_base HS.out g6 rfl; obtain ⟨inn6, hin6⟩ := Kd.S_own HS.out; have hne6 := own_type_ne HO.out hin6 (by decide); clear hin6; have HO4 := Aside0.mk (own_other HO.out hg4 (by cases u7.ownBlock <;> simp)); have hS4 := Kd.S_mono (ok' := fun q => (True ∧ some q ≠ u7.ownBlock) ∧ q ≠ g33) (Kd.S_step (Kd.S_bound HS.out) (fun q _ hq => hg4.block q hq (by simp))) (fun q hq => ⟨hq.1, by omega⟩); obtain ⟨⟨x6, hx6⟩, hf6⟩ := S_cell hS4 k hlt; have hr4 := Kd.own_of_R hR4; have hL := S_lay (row := List.replicate l0.length 0) (cr := c33) hS4 (by rw [List.length_replicate]; exact Kd.R_of_own (by simpa using hr4) (fun q hq => by injection hq with hq; exact hq.symm)) ⟨⟨trivial, fun e => by have := hl7 g33 e.symm; omega⟩, by omega⟩ k hlt; rw [List.length_replicate, mkZ_set hlt] at hL; have HL := Aside0.mk hL.1; have HLg := Aside0.mk hL.2; have HB4 := Aside0.mk hB4; clear hL hr4 hS4 hR4 hB4 hg4 hat4)
        | ((with_reducible refine gate_builtin (b := .append) (xs := #[.tmp 35, .tmp 37]) rfl ?_); at_builtin; refine print_append_num (w0 := w) w.heap.size rfl (.tmp 35) (.tmp 37) 27 3 .i64 8 rfl Try.underlying27 info3 (by decide) u7 (nums0 k) (k : Int) rfl (by first | rfl | (go_simp; done) | (simp; done)) ?aO ?aB ?aS ?aL ?_; (case aO => exact own_other HO4.out HLg.out hne6); (case aB => exact HB4.out.grown HLg.out HB4.out.size (fun q hq => by cases hq; exact hb6)); (case aS => exact (HB4.out.grown HLg.out HB4.out.size (fun q hq => by cases hq; exact hb6)).size); (case aL => omega); intro v1 w5 hown hB5 hg5 hat5)
        | fail)
      go_roundw
      case rel => exact ⟨k + 1, by omega, by go_num, ⟨by rw [show nums0 (k + 1) = nums0 k ++ [(k : Int)] by simp [nums0, List.range_succ]]; exact hown⟩, ⟨Kd.S_after HL.out hg5 hat5⟩, ⟨hB5⟩⟩
      case measure => simp [intOf]; omega
    · obtain rfl : k = l0.length := by omega
      obtain ⟨m, hm⟩ : ∃ m, l0.length = m + 1 := ⟨l0.length - 1, by omega⟩
      have hO1 := HO.out
      rw [nums0_len] at hO1
      obtain ⟨gL, cL, rfl⟩ : ∃ gL cL, u7 = .slice (some ⟨gL, 0, none⟩) l0.length cL := by
        rcases hO1.2 with ⟨_, hz0⟩ | ⟨gb, cap, cur, e, _⟩
        · omega
        · exact ⟨gb, cap, e⟩
      have hC := clone_own A0 c0 l0 wr (Kd.C_below HR0.out HB.out) hc0 h7
      have HO1 := Aside0.mk hO1
      have hcL := own_cap hO1
      have HM := Aside0.mk hm
      have hm7 : m + 1 ≤ 7 := by omega
      clear hO1 HO hm
      go_wp2_with fail
      refine hC.mono ?_
      rintro e w2 ⟨vN, rfl, hN, hb2⟩
      clear hC
      obtain ⟨gN, cN, rfl⟩ : ∃ gN cN, vN = .slice (some ⟨gN, 0, none⟩) l0.length cN := by
        rcases hN.2 with ⟨_, hz0⟩ | ⟨gb, cap, cur, e, _⟩
        · omega
        · exact ⟨gb, cap, e⟩
      have HS0 := Aside0.mk (MkSt.start (m := m) HM.out rfl HO1.out HS.out HB.out hN hb2)
      obtain ⟨B, hB⟩ : ∃ B, B = w2.heap.size := ⟨_, rfl⟩
      go_wp2_with fail
      obtain ⟨wA, hwA⟩ : ∃ wA, wA = w2.alloc (.cells #[.slice (some ⟨gN, 0, none⟩) l0.length cN] 27) := ⟨_, rfl⟩
      rw [← hB, ← hwA] at HS0 ⊢
      clear hN hb2 HO1 HS HB hB hwA
      go_loopw [7] (fun s7 wr => ∃ (r d : Nat) (Al : Option Addr) (cl : Nat), r + d = m + 1 ∧ d ≤ cl ∧ s7 = .slice Al d cl ∧ Aside0 (0 < d → Al = some ⟨gL, r, none⟩) ∧ Aside0 (MkSt w l0.length B gN cN gL g6 c6 r (outSt m l0 r).1 (outSt m l0 r).2.1 (outSt m l0 r).2.2 wr)) (fun s7 _ => match s7 with | .slice _ d _ => d | _ => 0)
      case atStart => exact ⟨0, m + 1, some ⟨gL, 0, none⟩, cL, by omega, by have := HM.out; omega, by rw [HM.out], ⟨fun _ => rfl⟩, HS0⟩
      case round =>
        obtain ⟨r, d, Al, cl, hrd, hdc, rfl, HA, HS⟩ := hrel
        cases d with
        | zero =>
          obtain rfl : r = m + 1 := by omega
          have HF := Aside0.mk (show makeL l0 = (outSt m l0 (m + 1)).2.2 from by unfold makeL; rw [HM.out, Nat.add_sub_cancel])
          go_wp2
          go_ret3
          rw [HF.out]
          exact ⟨_, rfl, Kd.S_mono HS.out.tb (fun _ _ => trivial), HS.out.bl⟩
        | succ d =>
          obtain rfl := HA.out (by omega)
          have hln := HLN.out m HM.out r (by omega)
          have hlow := (outSt_low (m := m) (nd := l0) hm7 HLB.out r).2
          have hsl := sortF_len (needF_swo (outSt m l0 r).2.1 m) (outSt m l0 r).1
          obtain ⟨x, rest, hxr⟩ : ∃ x rest, sortF (needF (outSt m l0 r).2.1 m) (outSt m l0 r).1 = x :: rest := by
            cases h : sortF (needF (outSt m l0 r).2.1 m) (outSt m l0 r).1 with
            | nil => rw [h] at hsl; simp at hsl; omega
            | cons x rest => exact ⟨x, rest, rfl⟩
          have HNX := Aside0.mk (show outSt m l0 (r + 1) = (rest, (inSt x.val (rest.map (·.val)) (outSt m l0 r).2.1 (outSt m l0 r).2.2 rest.length).1, (inSt x.val (rest.map (·.val)) (outSt m l0 r).2.1 (outSt m l0 r).2.2 rest.length).2) from by rw [outSt, hxr])
          have hSrt := stableO.calls m (needF (outSt m l0 r).2.1 m) 102 #[.pointer (some ⟨B, 0, none⟩)] (enters_of Try.func102 (by kernel_rfl) rfl) (outSt m l0 r).1 (by omega) gL r cl wr HS.out.lf (HS.out.cmp HM.out (fun j => by have := hlow j; omega))
          have HS1 := Aside0.mk (fun q => HS.out.sorted hsl q)
          have HSQ := Aside0.mk (outSt_sq (m := m) (nd := l0) r)
          have HLW := Aside0.mk (fun (k : Nat) (j : Nat) => inSt_low (x := x.val) (R := rest.map (·.val)) (M := (outSt m l0 r).2.2) hlow k j)
          rw [hxr] at hSrt hsl HS1
          rw [show (outSt m l0 r).1.length = d + 1 from by omega] at hSrt
          have hrl : rest.length = d := by rw [List.length_cons] at hsl; omega
          generalize (outSt m l0 r).1 = L at *
          generalize (outSt m l0 r).2.1 = nd at *
          generalize (outSt m l0 r).2.2 = M at *
          obtain ⟨xv, hxv⟩ : ∃ xv, xv = x.val := ⟨_, rfl⟩
          have hxm : xv < l0.length := by have := x.isLt; have := HM.out; omega
          have hxz : (xv : Int) < (l0.length : Int) := by omega
          obtain ⟨i0, hi0, hz0, hz1, hz2⟩ := info_parts info3
          have hcut := fun W => cut_from (P := Try.prog) 27 3 .i64 Try.underlying27 hi0 1 hz1 (some ⟨gL, r, none⟩) (d + 1) cl 1 (by omega) (by omega) W
          simp only [show (1 : Int).toNat = 1 from rfl, Nat.add_sub_cancel] at hcut
          obtain ⟨Al, hAl⟩ : ∃ A, A = (if cl = 1 then some ⟨gL, r, none⟩ else (some ⟨gL, r, none⟩ : Option Addr).map (·.add (1 * 1))) := ⟨_, rfl⟩
          rw [← hAl] at hcut
          have HA2 : Aside0 (0 < d → Al = some ⟨gL, r + 1, none⟩) := ⟨fun h => by rw [hAl, if_neg (by omega)]; rfl⟩
          have HRL := Aside0.mk hrl
          have HXV := Aside0.mk hxv
          clear hxr hlow hln hsl hAl HA HS hi0 hz0 hz1 hz2 hrl hxv
          go_wp2_with (go_at_call 101; refine hSrt.mono ?_; rintro e w1 ⟨rfl, q, hw1⟩; have hS1 := HS1.out q; rw [← hw1] at hS1; have HS2 := Aside0.mk hS1.tail; have hx0 : w1.cell? ⟨gL, r, none⟩ = some (.int .i64 (xv : Int)) := (by have := hS1.left 0 (by simp); rw [HXV.out]; simpa using this); clear hS1 HS1 hw1 hSrt)
          go_loopw [55] (fun s55 wr => ∃ k : Nat, k ≤ d ∧ s55 = .int .i64 k ∧ Aside0 (MkSt w l0.length B gN cN gL g6 c6 (r + 1) rest (inSt xv (rest.map (·.val)) nd M k).1 (inSt xv (rest.map (·.val)) nd M k).2 wr)) (fun s55 _ => d - (intOf s55).toNat)
          case atStart => exact ⟨0, Nat.zero_le _, rfl, HS2⟩
          case round =>
            obtain ⟨k, hk, rfl, HS3⟩ := hrel
            by_cases hlt : k < d
            · obtain rfl := HA2.out (by omega)
              have hSk := inSt_sq (n := l0.length) (x := xv) (R := rest.map (·.val)) (nd := nd) (HM.out ▸ HSQ.out) k
              have hyl : k < rest.length := by have := HRL.out; omega
              have hbx := HLW.out k
              rw [← HXV.out] at hbx
              have HIN := Aside0.mk (show inSt xv (rest.map (·.val)) nd M (k + 1) = if (k : Int) < (inSt xv (rest.map (·.val)) nd M k).1.getD xv 0 then ((inSt xv (rest.map (·.val)) nd M k).1, putM (inSt xv (rest.map (·.val)) nd M k).2 xv ((rest.map (·.val)).getD k 0) 1)
                else ((inSt xv (rest.map (·.val)) nd M k).1.set ((rest.map (·.val)).getD k 0) ((inSt xv (rest.map (·.val)) nd M k).1.getD ((rest.map (·.val)).getD k 0) 0 - 1), putM (inSt xv (rest.map (·.val)) nd M k).2 ((rest.map (·.val)).getD k 0) xv 1) from rfl)
              have hcy := HS3.out.left k hyl
              have hyb : (rest.map (·.val)).getD k 0 < l0.length := by
                rw [List.getD_eq_getElem?_getD, List.getElem?_eq_getElem (by simpa using hyl)]
                simp only [List.getElem_map, Option.getD_some]
                have := (rest[k]).isLt
                have := HM.out
                omega
              have hby := hbx ((rest.map (·.val)).getD k 0)
              have hbx := hbx xv
              generalize (inSt xv (rest.map (·.val)) nd M k).1 = ndk at *
              generalize (inSt xv (rest.map (·.val)) nd M k).2 = Mk at *
              generalize (rest.map (·.val)).getD k 0 = yv at *
              have hyz : (yv : Int) < (l0.length : Int) := by omega
              have hkz : (k : Int) < (d : Int) := by omega
              have cB := HS3.out.bx.cell
              obtain ⟨hnx, _, _⟩ := HS3.out.need xv hxm
              by_cases hlt2 : (k : Int) < ndk.getD xv 0
              · rw [if_pos hlt2] at HIN
                obtain ⟨ga, ca, hrow, hput⟩ := HS3.out.row hSk xv hxm
                obtain ⟨⟨u, hu⟩, hf, hS4⟩ := hput yv 1 hyb
                have HS4 := Aside0.mk hS4
                have hdt := decide_eq_true hlt2
                clear hS4 hput hSk hlt2 hyl
                generalize ndk.getD xv 0 = nx at *
                go_wp2
                go_roundw
                case rel => exact ⟨k + 1, by omega, by go_num, by rw [HIN.out]; exact HS4⟩
                case measure => simp [intOf]; omega
              · rw [if_neg hlt2] at HIN
                obtain ⟨ga, ca, hrow, hput⟩ := HS3.out.row hSk yv hyb
                obtain ⟨⟨u, hu⟩, hf, hS4⟩ := hput xv 1 hxm
                have cB4 := hS4.bx.cell
                obtain ⟨hny, hfy, hS5⟩ := hS4.need yv hyb
                have HS5 := Aside0.mk (hS5 (ndk.getD yv 0 - 1))
                have HW5 := Aside0.mk (show wrap64 (ndk.getD yv 0 - 1) = ndk.getD yv 0 - 1 from wrap_small (by have := HM.out; omega) (by omega))
                have hdt := decide_eq_false hlt2
                clear hS4 hput hSk hlt2 hyl hS5
                generalize ndk.getD xv 0 = nx at *
                generalize ndk.getD yv 0 = ny at *
                go_wp2
                go_roundw
                case rel => exact ⟨k + 1, by omega, by go_num, by rw [HIN.out]; exact HS5⟩
                case measure => simp [intOf]; omega
            · obtain rfl : k = d := by omega
              go_wp2
              go_roundw
              case rel => exact ⟨r + 1, k, Al, cl - 1, by omega, by omega, rfl, HA2, by rw [HNX.out, ← HXV.out, HRL.out]; exact HS3⟩
              case measure => simp
end Go.Proofs.Ytbnjffhcpkfnhaa.H
/- sun.Make as a call. -/
namespace Go.Proofs.Ytbnjffhcpkfnhaa.H
open Go.RowKit Go.Shelf Go.Proofs.YtbnjffhcpkfnhaaW.PrintWords Go.Proofs.YtbnjffhcpkfnhaaW.PrintLast Go.Proofs.YtbnjffhcpkfnhaaW.PrintMore
set_option linter.unusedVariables false
set_option linter.unusedSimpArgs false
def sun_Make.f (l : List Int) : Option (List (List Int) × Bool × Int) := some (if winsV l = 0 then (if canWinB l = true then (makeL l, true, 0) else ([], false, 0)) else ([], false, winsV l))
set_option maxRecDepth 100000 in
set_option maxHeartbeats 2000000 in
theorem sun_Make.calls_no (A0 : Option Addr) (c0 : Nat) (l0 : List Int) (w : World) (hr0 : Kd.C (Kd.int .i64) w A0 l0.length l0) (hc0 : l0.length ≤ c0) (hv : winsV l0 = 0) (hc : canWinB l0 = false) :
    Calls Try.prog 69 #[.slice A0 l0.length c0] w fun e w' => e = .returned (.tuple #[.slice none 0 0, .bool false, .int .i64 0]) ∧ Below w.heap.size w w' := by
  have hW := sun_isWins.calls A0 c0 l0 0 w hr0 hc0 (by unfold sun_isWins.f; rw [hv])
  have hK := fun W (hW : Below w.heap.size w W) => sun_canWin.calls A0 c0 l0 false W (Kd.C_below hr0 hW) hc0 (by unfold sun_canWin.f; rw [if_pos hv, hc])
  clear hr0 hv hc
  go_enter Try.func69, Try.ntmps69
  go_wp2_with (first
    | (go_at_call 99; refine hW.mono ?_; rintro e w1 ⟨rfl, n1, h1'⟩; have hb1 : Below w.heap.size w w1 := (by rw [h1']; exact pw_below_drewN (Below.refl _ _) _); clear h1' hW)
    | (go_at_call 100; refine (hK _ hb1).mono ?_; rintro e w2 ⟨rfl, hb2⟩; have HB2 := Aside0.mk (hb1.trans (hb2.mono hb1.size)); clear hb1 hb2 hK)
    | fail)
  go_ret3
  exact ⟨rfl, HB2.out⟩
set_option maxRecDepth 100000 in
set_option maxHeartbeats 2000000 in
theorem sun_Make.calls_bad (A0 : Option Addr) (c0 : Nat) (l0 : List Int) (w : World) (hr0 : Kd.C (Kd.int .i64) w A0 l0.length l0) (hc0 : l0.length ≤ c0) (hv : winsV l0 ≠ 0) :
    Calls Try.prog 69 #[.slice A0 l0.length c0] w fun e w' => e = .returned (.tuple #[.slice none 0 0, .bool false, .int .i64 (winsV l0)]) ∧ Below w.heap.size w w' := by
  have hW := sun_isWins.calls A0 c0 l0 (winsV l0) w hr0 hc0 rfl
  have hvb : (winsV l0 != 0) = true := bne_iff_ne.2 hv
  clear hr0
  generalize winsV l0 = v at *
  clear hv
  go_enter Try.func69, Try.ntmps69
  go_wp2_with (first
    | (go_at_call 99; refine hW.mono ?_; rintro e w1 ⟨rfl, n1, rfl⟩; clear hW)
    | fail)
  go_ret3
  exact ⟨rfl, pw_below_drewN (Below.refl _ _) _⟩
theorem sun_Make.calls (A0 : Option Addr) (c0 : Nat) (l0 : List Int) (r1 : List (List Int)) (r2 : Bool) (r3 : Int) (w : World) (hr0 : Kd.C (Kd.int .i64) w A0 l0.length l0) (hc0 : l0.length ≤ c0) (h : sun_Make.f l0 = some (r1, r2, r3)) :
    Calls Try.prog 69 #[.slice A0 l0.length c0] w fun e w' => ∃ v0_ : Value, e = .returned (.tuple #[v0_, .bool r2, .int .i64 r3]) ∧ Kd.S (Kd.slice 3 (Kd.int .i64)) 27 w' w.heap.size (fun _ => True) v0_ r1 ∧ Below w.heap.size w w' := by
  unfold sun_Make.f at h
  have h := Option.some.inj h
  by_cases hv : winsV l0 = 0
  · rw [if_pos hv] at h
    cases hc : canWinB l0 with
    | true =>
      rw [if_pos hc] at h
      obtain ⟨rfl, h2⟩ := Prod.mk.inj h
      obtain ⟨rfl, rfl⟩ := Prod.mk.inj h2
      exact sun_Make.calls_yes A0 c0 l0 w hr0 hc0 hv hc
    | false =>
      rw [if_neg (by rw [hc]; decide)] at h
      obtain ⟨rfl, h2⟩ := Prod.mk.inj h
      obtain ⟨rfl, rfl⟩ := Prod.mk.inj h2
      exact (sun_Make.calls_no A0 c0 l0 w hr0 hc0 hv hc).mono fun _ _ ⟨he, hb⟩ => ⟨_, he, Kd.S_nil _ _ _ _ _, hb⟩
  · rw [if_neg hv] at h
    obtain ⟨rfl, h2⟩ := Prod.mk.inj h
    obtain ⟨rfl, rfl⟩ := Prod.mk.inj h2
    exact (sun_Make.calls_bad A0 c0 l0 w hr0 hc0 hv).mono fun _ _ ⟨he, hb⟩ => ⟨_, he, Kd.S_nil _ _ _ _ _, hb⟩
end Go.Proofs.Ytbnjffhcpkfnhaa.H
