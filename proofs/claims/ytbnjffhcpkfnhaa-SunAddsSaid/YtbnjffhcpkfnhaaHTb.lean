/- Tables as functions of two strips; copies; tables turned and switched. -/
import Derived.Test.YtbnjffhcpkfnhaaQC3
import Derived.Test.YtbnjffhcpkfnhaaHSw
import Derived.Test.YtbnjffhcpkfnhaaHQ
namespace Go.Proofs.Ytbnjffhcpkfnhaa.H
open Go.RowKit Go.Proofs.YtbnjffhcpkfnhaaW.PrintWords Go.Proofs.YtbnjffhcpkfnhaaW.PrintLast Go.Proofs.YtbnjffhcpkfnhaaW.PrintMore
set_option linter.unusedVariables false

/-! ### tables by their entries -/
theorem row_ext {l m : List Int} (h : l.length = m.length) (he : ∀ k, k < l.length → l.getD k 0 = m.getD k 0) : l = m := by
  refine List.ext_getElem h fun k h1 h2 => ?_
  have := he k h1
  rwa [List.getD_eq_getElem?_getD, List.getElem?_eq_getElem h1, List.getD_eq_getElem?_getD, List.getElem?_eq_getElem h2] at this
theorem tab_ext {t u : List (List Int)} (h : t.length = u.length) (hr : ∀ i, i < t.length → (t.getD i []).length = (u.getD i []).length) (he : ∀ i, i < t.length → ∀ k, k < (t.getD i []).length → ent t i k = ent u i k) : t = u := by
  refine List.ext_getElem h fun i h1 h2 => ?_
  have e1 : t[i] = t.getD i [] := by rw [List.getD_eq_getElem?_getD, List.getElem?_eq_getElem h1]; rfl
  have e2 : u[i] = u.getD i [] := by rw [List.getD_eq_getElem?_getD, List.getElem?_eq_getElem h2]; rfl
  rw [e1, e2]
  exact row_ext (hr i h1) (he i h1)
theorem right_err {t : List (List Int)} (h : Right t) : errV t = 0 := by
  unfold errV
  have := h.pos
  have := h.len
  rw [if_neg (by omega), if_pos]
  rw [okV_iff]
  refine ⟨fun i hi => (bitRow_iff t i).2 ⟨h.row i hi, fun x hx => ?_, h.diag i⟩, fun i hi k hk => h.anti i k hi (by omega) (by omega)⟩
  obtain ⟨k, hk, rfl⟩ := List.getElem_of_mem hx
  have := h.bit i k
  unfold ent at this
  rwa [List.getD_eq_getElem?_getD (l := t.getD i []), List.getElem?_eq_getElem hk] at this
/-- One entry is written. -/
def putT (t : List (List Int)) (i k : Nat) (x : Int) : List (List Int) := t.set i ((t.getD i []).set k x)
theorem putT_len (t : List (List Int)) (i k : Nat) (x : Int) : (putT t i k x).length = t.length := by simp [putT]
theorem putT_row (t : List (List Int)) (i k : Nat) (x : Int) (j : Nat) : ((putT t i k x).getD j []).length = (t.getD j []).length := by
  unfold putT
  by_cases e : i = j
  · subst e
    by_cases hi : i < t.length
    · rw [List.getD_eq_getElem?_getD, List.getElem?_set, if_pos rfl, if_pos hi]; simp
    · rw [List.getD_eq_getElem?_getD, List.getElem?_eq_none (by simp; omega), List.getD_eq_getElem?_getD, List.getElem?_eq_none (by omega)]
  · rw [List.getD_eq_getElem?_getD, List.getElem?_set_ne e, ← List.getD_eq_getElem?_getD]
theorem putT_ent {t : List (List Int)} {i k : Nat} (hi : i < t.length) (hk : k < (t.getD i []).length) (x : Int) (i' k' : Nat) : ent (putT t i k x) i' k' = if i' = i ∧ k' = k then x else ent t i' k' := by
  unfold ent putT
  by_cases e : i = i'
  · subst e
    rw [List.getD_eq_getElem?_getD (l := t.set _ _), List.getElem?_set, if_pos rfl, if_pos hi, Option.getD_some, List.getD_eq_getElem?_getD, List.getElem?_set]
    by_cases e2 : k = k'
    · subst e2; rw [if_pos rfl, if_pos hk, if_pos ⟨rfl, rfl⟩]; rfl
    · rw [if_neg e2, if_neg (by omega), ← List.getD_eq_getElem?_getD]
  · rw [List.getD_eq_getElem?_getD (l := t.set _ _), List.getElem?_set_ne e, ← List.getD_eq_getElem?_getD, if_neg (by omega)]

/-! ### copies, and tables that are the same -/
theorem Ev_copy {t : List (List Int)} (h : ∀ l ∈ t, l.length ≤ 1000) (hl : t.length ≤ 1000) : Ev (fun k => QC.verditerref01_CopyTable.f k t) t := by
  have l0 : ∀ d i, i + d = t.length → Ev (fun k => QC.verditerref01_CopyTable.l0 k t (t.take i) (i : Int)) t := by
    intro d
    induction d with
    | zero =>
      intro i hi
      refine Ev.step (fun k => by simp only [QC.verditerref01_CopyTable.l0]; rw [if_neg (by omega)]) ?_
      rw [List.take_of_length_le (by omega)]
      exact Ev.now _
    | succ d ih =>
      intro i hi
      have hi' : i < t.length := by omega
      have hr : (t.getD i []).length ≤ 1000 := by
        rw [List.getD_eq_getElem?_getD, List.getElem?_eq_getElem hi']
        exact h _ (List.getElem_mem hi')
      refine Ev.step (fun k => ?_) (ih (i + 1) (by omega))
      simp only [QC.verditerref01_CopyTable.l0, Option.bind_some]
      rw [if_pos (by omega), if_pos (by omega), rdC_nat, if_pos (show ([] : List Int).length + (t.getD i []).length < 17592186044416 by rw [List.length_nil]; omega), if_pos (by rw [List.length_take]; omega), wrap_nat (n := t.length) hi' (by omega), List.nil_append]
      congr 1
      rw [List.take_add_one, List.getD_eq_getElem?_getD, List.getElem?_eq_getElem hi']
      rfl
  exact l0 t.length 0 (by omega)
theorem Ev_sameT {t : List (List Int)} (h : ∀ l ∈ t, l.length ≤ 1000) (hl : t.length ≤ 1000) : Ev (fun k => QC.verditerref01_SameTables.f k t t) true := by
  have l0 : ∀ d i, i + d = t.length → Ev (fun k => QC.verditerref01_SameTables.l0 k t t (i : Int)) true := by
    intro d
    induction d with
    | zero => intro i hi; exact Ev.step (fun k => by simp only [QC.verditerref01_SameTables.l0]; rw [if_neg (by omega)]) (Ev.now _)
    | succ d ih =>
      intro i hi
      have hi' : i < t.length := by omega
      have hr : (t.getD i []).length ≤ 1000 := by
        rw [List.getD_eq_getElem?_getD, List.getElem?_eq_getElem hi']
        exact h _ (List.getElem_mem hi')
      refine Ev.step (f := fun k => (QA.verditerref01_SameInts.f k (t.getD i []) (t.getD i [])).bind fun b => if b = true then QC.verditerref01_SameTables.l0 k t t ((i + 1 : Nat) : Int) else some false) (fun k => ?_) (Ev.bind (Ev_same (t.getD i []) (by omega)) ?_)
      · simp only [QC.verditerref01_SameTables.l0]
        rw [if_pos (by omega), if_pos (by omega), if_pos (by omega), rdC_nat, wrap_nat (n := t.length) hi' (by omega)]
      · exact Ev.congr (fun k => if_pos rfl) (ih (i + 1) (by omega))
  refine Ev.congr (fun k => ?_) (l0 t.length 0 (by omega))
  simp only [QC.verditerref01_SameTables.f]
  rw [if_pos trivial]
  rfl
theorem Right.rows {t : List (List Int)} (h : Right t) : ∀ l ∈ t, l.length ≤ 1000 := fun l hl => by
  obtain ⟨i, hi, rfl⟩ := List.getElem_of_mem hl
  have := h.row i hi
  rw [List.getD_eq_getElem?_getD, List.getElem?_eq_getElem hi, Option.getD_some] at this
  have := h.len
  omega

/-! ### switched -/
theorem swT_put (t : List (List Int)) {a b : Nat} (hab : a ≠ b) : swT t a b = putT (putT t a b (ent t b a)) b a (ent t a b) := by
  unfold swT putT
  rw [List.getD_eq_getElem?_getD (l := t.set _ _), List.getElem?_set_ne hab, ← List.getD_eq_getElem?_getD]
theorem swT_ent {t : List (List Int)} (h : Right t) {a b : Nat} (ha : a < t.length) (hb : b < t.length) (hab : a ≠ b) (i k : Nat) : ent (swT t a b) i k = if (i = a ∧ k = b) ∨ (i = b ∧ k = a) then ent t k i else ent t i k := by
  rw [swT_put t hab, putT_ent (by rw [putT_len]; exact hb) (by rw [putT_row, h.row b hb]; exact ha), putT_ent ha (by rw [h.row a ha]; exact hb)]
  by_cases h1 : i = b ∧ k = a
  · rw [if_pos h1, if_pos (.inr h1), h1.1, h1.2]
  · rw [if_neg h1]
    by_cases h2 : i = a ∧ k = b
    · rw [if_pos h2, if_pos (.inl h2), h2.1, h2.2]
    · rw [if_neg h2, if_neg (by rintro (e | e); exact h2 e; exact h1 e)]
theorem swT_len (t : List (List Int)) (a b : Nat) : (swT t a b).length = t.length := by simp [swT]
theorem swT_row (t : List (List Int)) {a b : Nat} (hab : a ≠ b) (i : Nat) : ((swT t a b).getD i []).length = (t.getD i []).length := by
  rw [swT_put t hab, putT_row, putT_row]
theorem Right.sw {t : List (List Int)} (h : Right t) {a b : Nat} (ha : a < t.length) (hb : b < t.length) (hab : a ≠ b) : Right (swT t a b) := by
  have he := swT_ent h ha hb hab
  refine ⟨by rw [swT_len]; exact h.pos, by rw [swT_len]; exact h.len, fun i hi => ?_, fun i k => ?_, fun i => ?_, fun i k hi hk hne => ?_⟩
  · rw [swT_len] at hi ⊢
    rw [swT_row t hab, h.row i hi]
  · rw [he]; split
    · exact h.bit k i
    · exact h.bit i k
  · rw [he, if_neg (by omega)]; exact h.diag i
  · rw [swT_len] at hi hk
    rw [he, he]
    have := h.anti i k hi hk hne
    have := h.anti k i hk hi (fun e => hne e.symm)
    by_cases e : (i = a ∧ k = b) ∨ (i = b ∧ k = a)
    · rw [if_pos e, if_pos (by omega)]; omega
    · rw [if_neg e, if_neg (by omega)]; omega
theorem swT_twice {t : List (List Int)} (h : Right t) {a b : Nat} (ha : a < t.length) (hb : b < t.length) (hab : a ≠ b) : swT (swT t a b) b a = t := by
  have hS := h.sw ha hb hab
  have hba : b ≠ a := fun e => hab e.symm
  refine tab_ext (by rw [swT_len, swT_len]) (fun i hi => by rw [swT_row _ hba, swT_row _ hab]) (fun i hi k hk => ?_)
  rw [swT_ent hS (by rw [swT_len]; exact hb) (by rw [swT_len]; exact ha) hba, swT_ent h ha hb hab, swT_ent h ha hb hab]
  by_cases e : (i = a ∧ k = b) ∨ (i = b ∧ k = a)
  · rw [if_pos (by omega), if_pos (by omega)]
  · rw [if_neg (by omega), if_neg (by omega)]
/-- The upsets differ by at most one. -/
theorem over_near {t u : List (List Int)} {x : Int} {z : Nat} (hd : ∀ y : Nat, y ≠ z → ent u y x.toNat = ent t y x.toNat) (h1 : -1 ≤ ent u z x.toNat - ent t z x.toNat) (h2 : ent u z x.toNat - ent t z x.toNat ≤ 1) :
    ∀ l : List Int, l.Nodup → (∀ y ∈ l, 0 ≤ y) → ((z : Int) ∉ l → over u l x = over t l x) ∧ -1 ≤ over u l x - over t l x ∧ over u l x - over t l x ≤ 1
  | [], _, _ => ⟨fun _ => rfl, by simp [over], by simp [over]⟩
  | y :: l, hn, h0 => by
    obtain ⟨i1, i2, i3⟩ := over_near hd h1 h2 l (List.nodup_cons.1 hn).2 (fun w hw => h0 w (by simp [hw]))
    have hy := h0 y (by simp)
    have c : ∀ v : List (List Int), over v (y :: l) x = ent v y.toNat x.toNat + over v l x := fun v => by simp [over]
    rw [c, c]
    by_cases e : y.toNat = z
    · have hz : (z : Int) ∉ l := fun hz => (List.nodup_cons.1 hn).1 (by have : y = (z : Int) := by omega
                                                                        rw [this]; exact hz)
      rw [i1 hz, e]
      exact ⟨fun hz2 => absurd (by have : y = (z : Int) := by omega
                                   rw [this]; simp) hz2, by omega, by omega⟩
    · rw [hd _ e]
      exact ⟨fun hz2 => by rw [i1 (fun hz => hz2 (by simp [hz]))], by omega, by omega⟩
theorem ups_near {t : List (List Int)} (h : Right t) {a b : Nat} (ha : a < t.length) (hb : b < t.length) (hab : a ≠ b) :
    ∀ l : List Int, l.Nodup → (∀ y ∈ l, 0 ≤ y) → (¬ ((a : Int) ∈ l ∧ (b : Int) ∈ l) → ups (swT t a b) l = ups t l) ∧ -1 ≤ ups (swT t a b) l - ups t l ∧ ups (swT t a b) l - ups t l ≤ 1
  | [], _, _ => ⟨fun _ => rfl, by simp [ups], by simp [ups]⟩
  | x :: l, hn, h0 => by
    obtain ⟨i1, i2, i3⟩ := ups_near h ha hb hab l (List.nodup_cons.1 hn).2 (fun w hw => h0 w (by simp [hw]))
    have hx := h0 x (by simp)
    have hxl := (List.nodup_cons.1 hn).1
    have he := swT_ent h ha hb hab
    have hbit : ∀ i k, -1 ≤ ent (swT t a b) i k - ent t i k ∧ ent (swT t a b) i k - ent t i k ≤ 1 := fun i k => by
      rw [he]; rcases h.bit i k with e | e <;> rcases h.bit k i with e2 | e2 <;> split <;> omega
    have h0' : ∀ y ∈ l, 0 ≤ y := fun w hw => h0 w (by simp [hw])
    simp only [ups]
    by_cases ea : x.toNat = a
    · have exa : x = (a : Int) := by omega
      have hnot : ¬ ((a : Int) ∈ l ∧ (b : Int) ∈ l) := fun e => hxl (by rw [exa]; exact e.1)
      obtain ⟨o1, o2, o3⟩ := over_near (t := t) (u := swT t a b) (x := x) (z := b) (fun y hy => by rw [he, if_neg (by omega)]) (hbit _ _).1 (hbit _ _).2 l (List.nodup_cons.1 hn).2 h0'
      rw [i1 hnot]
      exact ⟨fun hno => by rw [o1 (fun hbl => hno ⟨by rw [exa]; simp, by simp [hbl]⟩)], by omega, by omega⟩
    · by_cases eb : x.toNat = b
      · have exb : x = (b : Int) := by omega
        have hnot : ¬ ((a : Int) ∈ l ∧ (b : Int) ∈ l) := fun e => hxl (by rw [exb]; exact e.2)
        obtain ⟨o1, o2, o3⟩ := over_near (t := t) (u := swT t a b) (x := x) (z := a) (fun y hy => by rw [he, if_neg (by omega)]) (hbit _ _).1 (hbit _ _).2 l (List.nodup_cons.1 hn).2 h0'
        rw [i1 hnot]
        exact ⟨fun hno => by rw [o1 (fun hal => hno ⟨by simp [hal], by rw [exb]; simp⟩)], by omega, by omega⟩
      · have ho : over (swT t a b) l x = over t l x := by
          unfold over
          congr 1
          refine List.map_congr_left fun y _ => ?_
          rw [he, if_neg (by omega)]
        rw [ho]
        refine ⟨fun hno => ?_, by omega, by omega⟩
        rw [i1 (fun e => hno ⟨by simp [e.1], by simp [e.2]⟩)]
theorem least_near {t : List (List Int)} (h : Right t) {a b : Nat} (ha : a < t.length) (hb : b < t.length) (hab : a ≠ b) : (rankS (swT t a b)).2 ≤ (rankS t).2 + 1 ∧ (rankS t).2 ≤ (rankS (swT t a b)).2 + 1 := by
  obtain ⟨o1, e1, m1⟩ := least_spec h
  obtain ⟨o2, e2, m2⟩ := least_spec (h.sw ha hb hab)
  rw [swT_len] at o2 m2
  have n1 := ups_near h ha hb hab _ o1.nodup (fun y hy => (o1.mem.1 hy).1)
  have n2 := ups_near h ha hb hab _ o2.nodup (fun y hy => (o2.mem.1 hy).1)
  have := m2 _ o1
  have := m1 _ o2
  omega

theorem refSwitch_yes {t : List (List Int)} (h : Right t) {a b : Nat} (ha : a < t.length) (hb : b < t.length) (hab : a ≠ b) : Ev (fun k => QC.verditerref05_Switch.f k t (a : Int) (b : Int)) (swT t a b, 0) := by
  have hn := h.len
  refine Ev.congr (f := fun k => QC.verditerref05_Switch.j0 k t (a : Int) (b : Int) false) (fun k => ?_) ?_
  · simp only [QC.verditerref05_Switch.f, verditerref05_Validate.f, Option.bind_some, right_err h, QO.verditerref01_Within.f]
    rw [if_pos trivial, if_pos (by omega), Option.bind_some, wrap_small (by omega) (by omega), if_pos (decide_eq_true (by omega)), if_pos (by omega), Option.bind_some, decide_eq_true (by omega)]
    rfl
  · obtain ⟨K, hK⟩ := Ev_copy h.rows (by omega)
    refine ⟨K + 1, fun k hk => ?_⟩
    obtain ⟨k', rfl⟩ : ∃ k', k = k' + 1 := ⟨k - 1, by omega⟩
    simp only [QC.verditerref05_Switch.j0]
    rw [if_neg (by simp), if_neg (by omega), show QC.verditerref01_CopyTable.f k' t = some t from hK k' (by omega), Option.bind_some]
    rw [rdC_nat, rdC_nat, rd_nat, rd_nat, h.row a ha, h.row b hb]
    rw [if_pos (by omega), if_pos (by omega), if_pos (by omega), if_pos (by omega), if_pos (by omega), if_pos (by omega), Option.bind_some, rdC_nat]
    have e1 : t.set (a : Int).toNat ((t.getD a []).set (b : Int).toNat ((t.getD b []).getD a 0)) = putT t a b (ent t b a) := rfl
    rw [e1, putT_row, h.row b hb, if_pos (by omega), if_pos (by omega), if_pos (by omega), if_pos (by omega), swT_put t hab]
    rfl
theorem refSwitch_no {t : List (List Int)} {a b : Int} (hs : switchV t a b ≠ 0) : Ev (fun k => QC.verditerref05_Switch.f k t a b) ([], switchV t a b) := by
  by_cases he : errV t = 0
  · have hn := errV_len he
    have hsv : switchV t a b = if a < 0 ∨ (t.length : Int) ≤ a ∨ b < 0 ∨ (t.length : Int) ≤ b then 4 else if a = b then 1 else 0 := by unfold switchV; rw [if_pos he]
    by_cases ho : a < 0 ∨ (t.length : Int) ≤ a ∨ b < 0 ∨ (t.length : Int) ≤ b
    · rw [hsv, if_pos ho]
      refine Ev.congr (f := fun k => QC.verditerref05_Switch.j0 k t a b true) (fun k => ?_) (Ev.step (fun k => by simp only [QC.verditerref05_Switch.j0]; rw [if_pos trivial]) (Ev.now _))
      simp only [QC.verditerref05_Switch.f, verditerref05_Validate.f, Option.bind_some, he, QO.verditerref01_Within.f]
      rw [if_pos trivial, wrap_small (by omega) (by omega)]
      by_cases a0 : a ≥ 0
      · rw [if_pos a0, Option.bind_some]
        by_cases a1 : a ≤ (t.length : Int) - 1
        · rw [if_pos (decide_eq_true a1)]
          by_cases b0 : b ≥ 0
          · rw [if_pos b0, Option.bind_some, decide_eq_false (by omega)]
            rfl
          · rw [if_neg b0, Option.bind_some]
            rfl
        · rw [if_neg (by rw [decide_eq_true_eq]; exact a1)]
      · rw [if_neg a0, Option.bind_some, if_neg (by simp)]
    · rw [hsv, if_neg ho]
      by_cases hab : a = b
      · rw [if_pos hab]
        subst hab
        refine Ev.congr (f := fun k => QC.verditerref05_Switch.j0 k t a a false) (fun k => ?_) (Ev.step (fun k => by simp only [QC.verditerref05_Switch.j0]; rw [if_neg (by simp), if_pos trivial]) (Ev.now _))
        simp only [QC.verditerref05_Switch.f, verditerref05_Validate.f, Option.bind_some, he, QO.verditerref01_Within.f]
        rw [if_pos trivial, wrap_small (by omega) (by omega), if_pos (by omega), Option.bind_some, if_pos (decide_eq_true (by omega)), Option.bind_some, decide_eq_true (by omega)]
        rfl
      · rw [hsv, if_neg ho, if_neg hab] at hs
        exact absurd rfl hs
  · have hsv : switchV t a b = errV t := by unfold switchV; rw [if_neg he]
    rw [hsv]
    refine Ev.congr (fun k => ?_) (Ev.now _)
    simp only [QC.verditerref05_Switch.f, verditerref05_Validate.f, Option.bind_some]
    rw [if_neg he]
theorem switchV_yes {t : List (List Int)} {a b : Int} (hs : switchV t a b = 0) : errV t = 0 ∧ ∃ x y : Nat, a = x ∧ b = y ∧ x < t.length ∧ y < t.length ∧ x ≠ y := by
  unfold switchV at hs
  by_cases he : errV t = 0
  · rw [if_pos he] at hs
    by_cases ho : a < 0 ∨ (t.length : Int) ≤ a ∨ b < 0 ∨ (t.length : Int) ≤ b
    · rw [if_pos ho] at hs; cases hs
    · rw [if_neg ho] at hs
      by_cases hab : a = b
      · rw [if_pos hab] at hs; cases hs
      · exact ⟨he, a.toNat, b.toNat, by omega, by omega, by omega, by omega, by omega⟩
  · rw [if_neg he] at hs; exact absurd hs he
theorem switchV_of {t : List (List Int)} (h : Right t) {a b : Nat} (ha : a < t.length) (hb : b < t.length) (hab : a ≠ b) : switchV t (a : Int) (b : Int) = 0 := by
  unfold switchV
  rw [if_pos (right_err h), if_neg (by omega), if_neg (by omega)]
end Go.Proofs.Ytbnjffhcpkfnhaa.H
