/- The plain law of SunGroups: both have the same groups, and all kings stand in the first one. -/
import Derived.Test.YtbnjffhcpkfnhaaHWb
import Derived.Test.YtbnjffhcpkfnhaaHF
import Derived.Test.YtbnjffhcpkfnhaaQG4
namespace Go.Proofs.Ytbnjffhcpkfnhaa.H
open Classical Go.RowKit Go.Proofs.YtbnjffhcpkfnhaaW.PrintWords Go.Proofs.YtbnjffhcpkfnhaaW.PrintLast Go.Proofs.YtbnjffhcpkfnhaaW.PrintMore
set_option linter.unusedVariables false
set_option linter.unusedSimpArgs false
/-! ### the document's list -/
def selB (t : List (List Int)) (c : Int) (a : Nat) : Bool := decide (cntTo t a t.length = c) && decide ((grpL t a).getD 0 0 = (a : Int))
def selL (t : List (List Int)) (c : Int) (i : Nat) : List (List Int) := ((List.range i).filter (selB t c)).map (grpL t)
theorem selL_succ (t : List (List Int)) (c : Int) (i : Nat) : selL t c (i + 1) = if selB t c i = true then selL t c i ++ [grpL t i] else selL t c i := by
  unfold selL
  rw [List.range_succ, List.filter_append, List.map_append, List.filter_cons, List.filter_nil]
  cases selB t c i <;> simp
theorem selL_len (t : List (List Int)) (c : Int) (i : Nat) : (selL t c i).length ≤ i := by
  unfold selL
  rw [List.length_map]
  exact Nat.le_trans (List.length_filter_le _ _) (by simp)
def refTo (t : List (List Int)) (d : Nat) : List (List Int) := (List.range d).flatMap fun e : Nat => selL t ((t.length : Int) - (e : Int)) t.length
theorem refTo_succ (t : List (List Int)) (d : Nat) : refTo t (d + 1) = refTo t d ++ selL t ((t.length : Int) - d) t.length := by
  unfold refTo
  rw [List.range_succ, List.flatMap_append]
  simp
theorem refTo_len (t : List (List Int)) : ∀ d, (refTo t d).length ≤ d * t.length
  | 0 => by simp [refTo]
  | d + 1 => by
    have h1 := refTo_len t d
    have h2 := selL_len t ((t.length : Int) - d) t.length
    rw [refTo_succ, List.length_append, Nat.succ_mul]
    omega
theorem cntTo_bound (t : List (List Int)) (i m : Nat) : 0 ≤ cntTo t i m ∧ cntTo t i m ≤ m := by
  have := sumTo_bound (f := fun k => if rc t i k = true then (1 : Int) else 0) (b := 1) (n := m) (fun k _ => by
    show 0 ≤ (if rc t i k = true then (1 : Int) else 0) ∧ (if rc t i k = true then (1 : Int) else 0) ≤ 1
    by_cases e : rc t i k = true
    · rw [if_pos e]; omega
    · rw [if_neg e]; omega)
  unfold cntTo
  omega
theorem grp_self {t : List (List Int)} {i : Nat} (hi : i < t.length) : (i : Int) ∈ grpL t i := mem_grp.2 ⟨i, hi, rc_refl t i, rc_refl t i, rfl⟩
theorem ref_l2 {t : List (List Int)} (h : Right t) (out : List (List Int)) (ho : out.length ≤ 1000) (c : Int) {i : Nat} (hi : i < t.length) (R : List (List Int) × Int)
    (hR : Ev (fun f => QG.verditerref05_Groups.l1 f t (matB t.length (rc t)) (if selB t c i = true then out ++ [grpL t i] else out) c ((i + 1 : Nat) : Int)) R) :
    ∀ d m, m + d = t.length → Ev (fun f => QG.verditerref05_Groups.l2 f t (matB t.length (rc t)) out c (i : Int) (cntTo t i m) (m : Int)) R := by
  have hn := h.len
  intro d
  induction d with
  | zero =>
    intro m hm
    obtain rfl : m = t.length := by omega
    have hpos := List.length_pos_of_mem (grp_self hi)
    refine Ev.step (f := fun f => (QG.verditerref05_group.f f t (i : Int)).bind fun t144 => (if cntTo t i t.length = c then (if 0 < (t144.length : Int) then (if (rd t144 0) = (i : Int) then (if out.length < 5864062014805 then (QG.verditerref05_Groups.l1 f t (matB t.length (rc t)) (out ++ [t144]) c (wrap64 ((i : Int) + 1))) else (none)) else (QG.verditerref05_Groups.l1 f t (matB t.length (rc t)) out c (wrap64 ((i : Int) + 1)))) else (none)) else (QG.verditerref05_Groups.l1 f t (matB t.length (rc t)) out c (wrap64 ((i : Int) + 1))))) (fun f => ?_) (Ev.bind (Ev_group h hi) ?_)
    · simp only [QG.verditerref05_Groups.l2]
      rw [if_neg (by omega)]
    · refine Ev.congr (fun f => ?_) hR
      have e0 : rd (grpL t i) 0 = (grpL t i).getD 0 0 := rd_nat (grpL t i) 0
      rw [wrap_nat (n := t.length) hi (by omega), e0]
      unfold selB
      by_cases e1 : cntTo t i t.length = c
      · rw [if_pos e1, decide_eq_true e1, if_pos (by omega), Bool.true_and]
        by_cases e2 : (grpL t i).getD 0 0 = (i : Int)
        · rw [if_pos e2, if_pos (decide_eq_true e2), if_pos (by omega)]
        · rw [if_neg e2, if_neg (by rw [decide_eq_false e2]; simp)]
      · rw [if_neg e1, decide_eq_false e1, Bool.false_and, if_neg (by simp)]
  | succ d ih =>
    intro m hm
    have hm' : m < t.length := by omega
    have hb := cntTo_bound t i m
    refine Ev.step (fun f => ?_) (ih (m + 1) (by omega))
    simp only [QG.verditerref05_Groups.l2]
    rw [if_pos (by omega), wrap_nat (n := t.length) hm' (by omega), rdG4_nat, matB_get _ hi, rowB_len, matB_len, rdOf_nat, rowB_get _ hm']
    rw [if_pos (by omega), if_pos (by omega), if_pos (by omega), if_pos (by omega)]
    have e : cntTo t i (m + 1) = cntTo t i m + (if rc t i m = true then 1 else 0) := rfl
    rw [e]
    cases rc t i m with
    | true => rw [if_pos rfl, if_pos rfl, wrap_small (by omega) (by omega)]
    | false => rw [if_neg (by simp), if_neg (by simp), Int.add_zero]
theorem ref_l1 {t : List (List Int)} (h : Right t) (out : List (List Int)) (ho : out.length ≤ 100) (c : Int) (hc : 0 < c ∧ c ≤ 7) (R : List (List Int) × Int)
    (hR : Ev (fun f => QG.verditerref05_Groups.l0 f t (matB t.length (rc t)) (out ++ selL t c t.length) (c - 1)) R) :
    ∀ d i, i + d = t.length → Ev (fun f => QG.verditerref05_Groups.l1 f t (matB t.length (rc t)) (out ++ selL t c i) c (i : Int)) R := by
  have hn := h.len
  intro d
  induction d with
  | zero =>
    intro i hi
    obtain rfl : i = t.length := by omega
    refine Ev.step (fun f => ?_) hR
    simp only [QG.verditerref05_Groups.l1]
    rw [if_neg (by omega), wrap_small (by omega) (by omega)]
  | succ d ih =>
    intro i hi
    have hl := selL_len t c i
    have e := ih (i + 1) (by omega)
    have e2 : out ++ selL t c (i + 1) = if selB t c i = true then (out ++ selL t c i) ++ [grpL t i] else out ++ selL t c i := by
      rw [selL_succ]
      by_cases e3 : selB t c i = true
      · rw [if_pos e3, if_pos e3, List.append_assoc]
      · rw [if_neg e3, if_neg e3]
    rw [e2] at e
    refine Ev.step (fun f => ?_) (ref_l2 h (out ++ selL t c i) (by rw [List.length_append]; omega) c (show i < t.length by omega) R e t.length 0 (by omega))
    simp only [QG.verditerref05_Groups.l1]
    rw [if_pos (by omega)]
    rfl
theorem Ev_refGroups {t : List (List Int)} (h : Right t) (he : errV t = 0) : Ev (fun f => QG.verditerref05_Groups.f f t) (refTo t t.length, 0) := by
  have hn := h.len
  unfold QG.verditerref05_Groups.f
  refine Ev.congr (f := fun f => (QG.verditerref05_reach.f f t).bind fun t139 => QG.verditerref05_Groups.l0 f t t139 ([] : List (List Int)) (t.length : Int)) (fun f => by rw [show verditerref05_Validate.f t = some (errV t) from rfl, Option.bind_some, if_pos he]) ?_
  refine Ev.bind (Ev_reach h) ?_
  have l0 : ∀ c, c ≤ t.length → Ev (fun f => QG.verditerref05_Groups.l0 f t (matB t.length (rc t)) (refTo t (t.length - c)) (c : Int)) (refTo t t.length, 0) := by
    intro c
    induction c with
    | zero =>
      intro _
      refine Ev.step (fun f => ?_) (Ev.now _)
      simp only [QG.verditerref05_Groups.l0]
      rw [if_neg (by omega)]
      rfl
    | succ c ih =>
      intro hc
      have e := ih (by omega)
      have hl := refTo_len t (t.length - (c + 1))
      have hl2 : (t.length - (c + 1)) * t.length ≤ 7 * 7 := Nat.mul_le_mul (by omega) hn
      rw [show t.length - c = (t.length - (c + 1)) + 1 by omega, refTo_succ, show ((t.length : Int) - ((t.length - (c + 1) : Nat) : Int)) = ((c + 1 : Nat) : Int) by omega] at e
      refine Ev.step (fun f => ?_) (ref_l1 h (refTo t (t.length - (c + 1))) (by omega) ((c + 1 : Nat) : Int) (by omega) _ (by rw [show ((c + 1 : Nat) : Int) - 1 = (c : Int) by omega]; exact e) t.length 0 (by omega))
      simp only [QG.verditerref05_Groups.l0]
      rw [if_pos (by omega)]
      rw [show selL t ((c + 1 : Nat) : Int) 0 = [] from rfl, List.append_nil]
      rfl
  have := l0 t.length (Nat.le_refl _)
  rw [Nat.sub_self] at this
  exact this
/-! ### they are the same -/
theorem filter_only {p : Nat → Bool} {i : Nat} : ∀ {n : Nat}, (∀ a, a < n → (p a = true ↔ a = i)) → (List.range n).filter p = if i < n then [i] else []
  | 0, _ => by simp
  | n + 1, h => by
    have ih := filter_only (p := p) (i := i) (n := n) (fun a ha => h a (by omega))
    have h1 := h n (by omega)
    rw [List.range_succ, List.filter_append, ih, List.filter_cons, List.filter_nil]
    by_cases e : n = i
    · subst e
      rw [if_neg (by omega), if_pos (h1.2 rfl), if_pos (by omega)]; rfl
    · rw [if_neg (fun x => e (h1.1 x)), List.append_nil]
      by_cases e2 : i < n
      · rw [if_pos e2, if_pos (by omega)]
      · rw [if_neg e2, if_neg (by omega)]
theorem sel_seg {t : List (List Int)} (h : Right t) {L : List Int} (F : Fall t L) {s : Nat} (hs : s < t.length) : selL t ((t.length : Int) - s) t.length = segAt t L s := by
  unfold segAt
  by_cases hD : Dom t L s
  · rw [if_pos hD]
    have hself := grp_self (F.lt hs)
    have hpos := List.length_pos_of_mem hself
    have hmem : (grpL t (at_ L s)).getD 0 0 ∈ grpL t (at_ L s) := getD_mem hpos
    obtain ⟨i0, hi0, m1, m2, e0⟩ := mem_grp.1 hmem
    have key : ∀ a, a < t.length → (selB t ((t.length : Int) - s) a = true ↔ a = i0) := fun a ha => by
      unfold selB
      simp only [Bool.and_eq_true, decide_eq_true_eq]
      constructor
      · rintro ⟨h1, h2⟩
        obtain ⟨b, hb, rfl⟩ := F.onto ha
        obtain ⟨s2, h3, h4, h5⟩ := last_cut t L b
        have e1 := cnt_at h F hb h3 h4 h5
        obtain rfl : s2 = s := by omega
        have r1 := (reach_iff h F hb h3 h4 h5 hs).2 (Nat.le_refl _)
        have r2 := (reach_iff h F (a := s2) hs (Nat.le_refl _) hD (fun j h1 h2 => by omega) hb).2 h3
        rw [grp_same (F.lt hb) (F.lt hs) r1 r2, e0] at h2
        omega
      · rintro rfl
        obtain ⟨b, hb, rfl⟩ := F.onto hi0
        obtain ⟨s2, h3, h4, h5⟩ := last_cut t L b
        have r1 := (reach_iff h F hb h3 h4 h5 hs).1 m2
        have r2 := (reach_iff h F (a := s) hs (Nat.le_refl _) hD (fun j h1 h2 => by omega) hb).1 m1
        have : s2 = s := by
          apply Classical.byContradiction
          intro hne
          exact h5 s (by omega) r2 hD
        subst this
        refine ⟨cnt_at h F hb h3 h4 h5, ?_⟩
        rw [grp_same (F.lt hb) (F.lt hs) m2 m1, e0]
    unfold selL
    rw [filter_only key, if_pos hi0]
    simp only [List.map_cons, List.map_nil]
    rw [grp_same hi0 (F.lt hs) m2 m1]
  · rw [if_neg hD]
    unfold selL
    rw [List.filter_eq_nil_iff.2, List.map_nil]
    intro a ha
    have ha := List.mem_range.1 ha
    unfold selB
    simp only [Bool.and_eq_true, decide_eq_true_eq]
    rintro ⟨h1, _⟩
    obtain ⟨b, hb, rfl⟩ := F.onto ha
    obtain ⟨s2, h3, h4, h5⟩ := last_cut t L b
    have e1 := cnt_at h F hb h3 h4 h5
    obtain rfl : s2 = s := by omega
    exact hD h4
theorem Fall.of {t : List (List Int)} (h : Right t) : Fall t (fallL t) := by
  have hp := h.pos
  refine ⟨fallL_perm t hp, fun a b hab hb => ?_⟩
  have hs := sortF_sorted (fallF_swo t (t.length - 1)) (allF (t.length - 1))
  have hl := sortF_len (fallF_swo t (t.length - 1)) (allF (t.length - 1))
  rw [allF_len] at hl
  rw [List.pairwise_iff_getElem] at hs
  have hs2 := hs a b (by omega) (by omega) hab
  have ea : ∀ c (hc : c < (sortF (fallF t (t.length - 1)) (allF (t.length - 1))).length), at_ (fallL t) c = (sortF (fallF t (t.length - 1)) (allF (t.length - 1)))[c].val := fun c hc => by
    unfold at_ fallL
    rw [List.getD_eq_getElem?_getD, List.getElem?_map, List.getElem?_eq_getElem hc]
    simp [intF]
  rw [ea a (by omega), ea b (by omega)]
  have key : ∀ (m : Nat) (x y : Fin (m + 1)), ¬ fallF t m y x < 0 → (winsL t).getD y.val 0 ≤ (winsL t).getD x.val 0 := fun m x y h => by unfold fallF at h; omega
  have hs3 := key _ _ _ hs2
  have i1 := (sortF (fallF t (t.length - 1)) (allF (t.length - 1)))[a].isLt
  have i2 := (sortF (fallF t (t.length - 1)) (allF (t.length - 1)))[b].isLt
  rw [h.wins_get (by omega), h.wins_get (by omega)] at hs3
  exact hs3
theorem flatMap_congr' {f g : Nat → List (List Int)} : ∀ {n : Nat}, (∀ a, a < n → f a = g a) → (List.range n).flatMap f = (List.range n).flatMap g
  | 0, _ => rfl
  | n + 1, h => by
    rw [List.range_succ, List.flatMap_append, List.flatMap_append, flatMap_congr' (fun a ha => h a (by omega))]
    simp [h n (by omega)]
theorem groups_ref {t : List (List Int)} (h : Right t) : groupsL t = refTo t t.length := by
  unfold groupsL refTo
  rw [gSt_all h (Fall.of h)]
  exact flatMap_congr' fun s hs => (sel_seg h (Fall.of h) hs).symm
theorem groups_first {t : List (List Int)} (h : Right t) : ∃ r, groupsL t = grpL t (at_ (fallL t) 0) :: r := by
  have hp := h.pos
  obtain ⟨d, hd⟩ : ∃ d, t.length = d + 1 := ⟨t.length - 1, by omega⟩
  unfold groupsL
  rw [gSt_all h (Fall.of h), hd, List.range_succ_eq_map, List.flatMap_cons]
  rw [segAt, if_pos (Dom.zero t _)]
  exact ⟨_, rfl⟩
theorem king_first {t : List (List Int)} (h : Right t) {i : Nat} (hi : i < t.length) (hk : King t i) : (i : Int) ∈ grpL t (at_ (fallL t) 0) := by
  have F := Fall.of h
  have hp := h.pos
  refine mem_grp.2 ⟨i, hi, ?_, ?_, rfl⟩
  · obtain ⟨b, hb, rfl⟩ := F.onto hi
    exact (reach_iff h F (a := 0) (by omega) (Nat.le_refl _) (Dom.zero t _) (fun j h1 h2 => by omega) hb).2 (Nat.zero_le _)
  · rcases hk (at_ (fallL t) 0) (F.lt (by omega)) with e | e | ⟨m, hm, e1, e2⟩
    · rw [← e]; exact rc_refl t i
    · exact rc_one e
    · exact rc_trans hm (rc_one e1) (rc_one e2)
theorem Ev_hasG (l : List Int) (x : Int) (hm : x ∈ l) (hl : l.length ≤ 1000) : Ev (fun k => QG.verditerref01_Has.f k l x) true := by
  have h : ∀ d i, i + d = l.length → (∀ j, j < i → l.getD j 0 ≠ x) → Ev (fun k => QG.verditerref01_Has.l0 k l x (i : Int)) true := by
    intro d
    induction d with
    | zero =>
      intro i hi hp
      obtain ⟨j, hj, e⟩ := List.getElem_of_mem hm
      exact absurd (by rw [List.getD_eq_getElem?_getD, List.getElem?_eq_getElem hj]; exact e) (hp j (by omega))
    | succ d ih =>
      intro i hi hp
      by_cases hx : l.getD i 0 = x
      · refine Ev.step (fun k => ?_) (Ev.now _)
        simp only [QG.verditerref01_Has.l0]
        rw [if_pos (by omega), if_pos (by omega), rd_nat, if_pos hx]
      · refine Ev.step (fun k => ?_) (ih (i + 1) (by omega) (fun j hj => by
          by_cases e : j = i
          · subst e; exact hx
          · exact hp j (by omega)))
        simp only [QG.verditerref01_Has.l0]
        rw [if_pos (by omega), if_pos (by omega), rd_nat, if_neg hx, wrap_nat (n := l.length) (by omega) (by omega)]
  exact Ev.congr (fun k => rfl) (h l.length 0 (by omega) (fun j hj => absurd hj (by omega)))
theorem Ev_sameG {t : List (List Int)} (h : ∀ l ∈ t, l.length ≤ 1000) (hl : t.length ≤ 1000) : Ev (fun k => QG.verditerref01_SameTables.f k t t) true := by
  have l0 : ∀ d i, i + d = t.length → Ev (fun k => QG.verditerref01_SameTables.l0 k t t (i : Int)) true := by
    intro d
    induction d with
    | zero => intro i hi; exact Ev.step (fun k => by simp only [QG.verditerref01_SameTables.l0]; rw [if_neg (by omega)]) (Ev.now _)
    | succ d ih =>
      intro i hi
      have hi' : i < t.length := by omega
      have hr : (t.getD i []).length ≤ 1000 := by
        rw [List.getD_eq_getElem?_getD, List.getElem?_eq_getElem hi']
        exact h _ (List.getElem_mem hi')
      refine Ev.step (f := fun k => (QA.verditerref01_SameInts.f k (t.getD i []) (t.getD i [])).bind fun b => if b = true then QG.verditerref01_SameTables.l0 k t t ((i + 1 : Nat) : Int) else some false) (fun k => ?_) (Ev.bind (Ev_same (t.getD i []) (by omega)) ?_)
      · simp only [QG.verditerref01_SameTables.l0]
        rw [if_pos (by omega), if_pos (by omega), if_pos (by omega), rdG1_nat, wrap_nat (n := t.length) hi' (by omega)]
      · exact Ev.congr (fun k => if_pos rfl) (ih (i + 1) (by omega))
  refine Ev.congr (fun k => ?_) (l0 t.length 0 (by omega))
  simp only [QG.verditerref01_SameTables.f]
  rw [if_pos trivial]
  rfl
theorem refTo_rows (t : List (List Int)) (hn : t.length ≤ 7) (d : Nat) : ∀ l ∈ refTo t d, l.length ≤ 1000 := by
  intro l hl
  unfold refTo at hl
  obtain ⟨e, _, h1⟩ := List.mem_flatMap.1 hl
  unfold selL at h1
  obtain ⟨a, _, rfl⟩ := List.mem_map.1 h1
  have := grpTo_len t a t.length
  unfold grpL
  omega
theorem sunGroups_true (t : List (List Int)) (ht : t.length ≤ 9223372036854775807) : Ev (fun k => QG.verditerlaw05_sunGroups.f k t) true := by
  obtain ⟨b, hb, hs⟩ := Ev_Long t ht
  unfold QG.verditerlaw05_sunGroups.f
  refine Ev.bind hb ?_
  cases b with
  | true => exact Ev.congr (f := fun _ => some true) (fun k => by rw [if_pos rfl]; rfl) (Ev.now _)
  | false =>
    refine Ev.congr (fun k => if_neg (by simp)) ?_
    by_cases he : errV t = 0
    · have h := Right.of he
      have hn := h.len
      have hlen : (refTo t t.length).length ≤ 49 := Nat.le_trans (refTo_len t t.length) (Nat.mul_le_mul hn hn)
      refine Ev.bind (Ev_refGroups h he) ?_
      refine Ev.congr (f := fun k => (QG.verditerref01_SameTables.f k (refTo t t.length) (refTo t t.length)).bind fun t165 => if t165 = true then QG.verditerlaw05_sunGroups.j0 k t (refTo t t.length) 0 false else QG.verditerlaw05_sunGroups.j0 k t (refTo t t.length) 0 true) (fun k => ?_) (Ev.bind (Ev_sameG (refTo_rows t hn _) (by omega)) ?_)
      · rw [show QG.sun_Groups.f t = some (refTo t t.length, 0) from by simp only [QG.sun_Groups.f, sun_Validate.f, sun_groups.f, Option.bind_some, he, if_pos, groups_ref h], Option.bind_some, bne_self_eq_false]
      refine Ev.congr (fun k => if_pos rfl) ?_
      obtain ⟨r, hr⟩ := groups_first h
      rw [groups_ref h] at hr
      refine Ev.step (f := fun k => QG.verditerlaw05_sunGroups.j1 k (refTo t t.length) (kingsL t) false) (fun k => ?_) ?_
      · simp only [QG.verditerlaw05_sunGroups.j0]
        rw [if_neg (by simp), if_pos trivial, show sun_Kings.f t = some (kingsL t, 0) from by unfold sun_Kings.f; rw [if_pos he], Option.bind_some, if_pos rfl]
        rw [hr]
        rfl
      refine Ev.step (f := fun k => QG.verditerlaw05_sunGroups.l0 k (refTo t t.length) (kingsL t) ((0 : Nat) : Int)) (fun k => by simp only [QG.verditerlaw05_sunGroups.j1]; rw [if_neg (by simp)]; rfl) ?_
      have hkl : (kingsL t).length ≤ 7 := by have := kingsTo_length t t.length; unfold kingsL; omega
      have l0 : ∀ d i, i + d = (kingsL t).length → Ev (fun k => QG.verditerlaw05_sunGroups.l0 k (refTo t t.length) (kingsL t) (i : Int)) true := by
        intro d
        induction d with
        | zero =>
          intro i hi
          refine Ev.step (fun k => ?_) (Ev.now _)
          simp only [QG.verditerlaw05_sunGroups.l0]
          rw [if_neg (by omega)]
          rfl
        | succ d ih =>
          intro i hi
          obtain ⟨v, hv, hK, ex⟩ := (mem_kings h).1 (getD_mem (show i < (kingsL t).length by omega))
          refine Ev.step (f := fun k => (QG.verditerref01_Has.f k (grpL t (at_ (fallL t) 0)) ((v : Nat) : Int)).bind fun t173 => if t173 = true then QG.verditerlaw05_sunGroups.l0 k (refTo t t.length) (kingsL t) ((i + 1 : Nat) : Int) else some false) (fun k => ?_) (Ev.bind (Ev_hasG _ _ (king_first h hv hK) (by have := grpTo_len t (at_ (fallL t) 0) t.length; unfold grpL; omega)) (Ev.congr (fun k => if_pos rfl) (ih (i + 1) (by omega))))
          simp only [QG.verditerlaw05_sunGroups.l0]
          have e1 : QG.rd_L1 (refTo t t.length) 0 = grpL t (at_ (fallL t) 0) := by rw [hr]; rfl
          have e2 : 0 < ((refTo t t.length).length : Int) := by rw [hr, List.length_cons]; omega
          rw [if_pos (by omega), if_pos e2, if_pos (by omega), e1, rd_nat, ex, wrap_nat (n := (kingsL t).length) (by omega) (by omega)]
      exact l0 (kingsL t).length 0 (by omega)
    · refine Ev.bind (a := (([] : List (List Int)), errV t)) (Ev.congr (fun k => by unfold QG.verditerref05_Groups.f; rw [show verditerref05_Validate.f t = some (errV t) from rfl, Option.bind_some, if_neg he]) (Ev.now _)) ?_
      have hg : QG.sun_Groups.f t = some ([], errV t) := by simp only [QG.sun_Groups.f, sun_Validate.f, Option.bind_some]; rw [if_neg he]
      refine Ev.congr (f := fun k => (QG.verditerref01_SameTables.f k [] []).bind fun t165 => if t165 = true then QG.verditerlaw05_sunGroups.j0 k t [] (errV t) false else QG.verditerlaw05_sunGroups.j0 k t [] (errV t) true) (fun k => ?_) (Ev.bind (Ev_sameG (by simp) (by simp)) ?_)
      · rw [hg, Option.bind_some, bne_self_eq_false]
      refine Ev.congr (fun k => if_pos rfl) (Ev.step (fun k => ?_) (Ev.now _))
      simp only [QG.verditerlaw05_sunGroups.j0]
      rw [if_neg (by simp), if_neg he]
      rfl
theorem pureSunGroups {A : Option Addr} {n c : Nat} {T : List (List Int)} {W : World} (g : Kd.C (Kd.slice 3 (Kd.int .i64)) W A n T) (hf : ∀ l ∈ T, ∀ x ∈ l, (Lit.int .i64 x).wf = true) (hn : n ≤ c) :
    Calls Try.prog 29 #[.slice A n c] W fun e w' => e = .returned (.bool true) ∧ Below W.heap.size W w' := by
  obtain rfl : T.length = n := g.1
  obtain ⟨k, hk⟩ := (sunGroups_true T g.2.1).rounds
  exact QG.verditerlaw05_sunGroups.calls k A c T true W g hn hk
end Go.Proofs.Ytbnjffhcpkfnhaa.H
