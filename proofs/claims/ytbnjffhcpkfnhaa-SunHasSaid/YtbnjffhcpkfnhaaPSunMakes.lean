/- The plain laws of SunMakes and SunHas: the table that is made has the wins; the wins of each table can be won, by a table with as many rings. -/
import Derived.Test.YtbnjffhcpkfnhaaQM1
import Derived.Test.YtbnjffhcpkfnhaaHCs
import Derived.Test.YtbnjffhcpkfnhaaHMake
namespace Go.Proofs.Ytbnjffhcpkfnhaa.H
open Go.RowKit Go.Proofs.YtbnjffhcpkfnhaaW.PrintWords Go.Proofs.YtbnjffhcpkfnhaaW.PrintLast Go.Proofs.YtbnjffhcpkfnhaaW.PrintMore
set_option linter.unusedVariables false
set_option linter.unusedSimpArgs false
theorem right_errM {t : List (List Int)} (h : Right t) : errV t = 0 := by
  unfold errV
  have := h.pos
  have := h.len
  rw [if_neg (by omega), if_pos]
  rw [okV_iff]
  refine ⟨fun i hi => (bitRow_iff t i).2 ⟨h.row i hi, fun x hx => ?_, h.diag i⟩, fun i hi k hk => h.anti i k hi (by omega) (by omega)⟩
  obtain ⟨k, hk, rfl⟩ := List.getElem_of_mem hx
  have := h.bit i k
  unfold ent at this
  rwa [List.getD_eq_getElem?_getD (l := t.getD i []), List.getElem?_eq_getElem hk] at this
theorem rdM_nat (xs : List (List Int)) (i : Nat) : QM.rd_L1 xs (i : Int) = xs.getD i [] := by simp [QM.rd_L1]
theorem Ev_SumM {row : List Int} (h : ∀ k, row.getD k 0 = 0 ∨ row.getD k 0 = 1) (hl : row.length ≤ 1000) : Ev (fun k => QM.verditerref01_Sum.f k row) (sumTo (fun i => row.getD i 0) row.length) := by
  have hb : ∀ i, 0 ≤ sumTo (fun i => row.getD i 0) i ∧ sumTo (fun i => row.getD i 0) i ≤ i * 1 := fun i => sumTo_bound (fun j _ => by rcases h j with e | e <;> rw [e] <;> omega)
  have hl0 : ∀ d i, i + d = row.length → Ev (fun k => QM.verditerref01_Sum.l0 k row (sumTo (fun i => row.getD i 0) i) (i : Int)) (sumTo (fun i => row.getD i 0) row.length) := by
    intro d
    induction d with
    | zero =>
      intro i hi
      obtain rfl : i = row.length := by omega
      exact Ev.step (fun k => by simp only [QM.verditerref01_Sum.l0]; rw [if_neg (by omega)]) (Ev.now _)
    | succ d ih =>
      intro i hi
      refine Ev.step (fun k => ?_) (ih (i + 1) (by omega))
      simp only [QM.verditerref01_Sum.l0]
      rw [if_pos (by omega), if_pos (by omega), rd_nat, wrap_nat (n := row.length) (by omega) (by omega), wrap_small (by have := hb i; rcases h i with e | e <;> rw [e] <;> omega) (by have := hb i; rcases h i with e | e <;> rw [e] <;> omega)]
      rfl
  exact Ev.congr (fun k => rfl) (hl0 row.length 0 (by omega))
theorem Ev_refWinsM {t : List (List Int)} (h : Right t) : Ev (fun k => QM.verditerref05_Wins.f k t) (winsL t, 0) := by
  have he := right_errM h
  have hl0 : ∀ d i, i + d = t.length → Ev (fun k => QM.verditerref05_Wins.l0 k t ((winsL t).take i) (i : Int)) (winsL t, 0) := by
    intro d
    induction d with
    | zero =>
      intro i hi
      refine Ev.step (fun k => by simp only [QM.verditerref05_Wins.l0]; rw [if_neg (by omega)]) ?_
      rw [List.take_of_length_le (by rw [winsL_len]; omega)]
      exact Ev.now _
    | succ d ih =>
      intro i hi
      have hi' : i < t.length := by omega
      have hw : (winsL t).take (i + 1) = (winsL t).take i ++ [winOf t i] := by
        rw [List.take_succ_eq_append_getElem (by rw [winsL_len]; omega), ← h.wins_get hi', List.getD_eq_getElem?_getD, List.getElem?_eq_getElem (by rw [winsL_len]; omega)]
        rfl
      have hS := Ev_SumM (row := t.getD i []) (fun k => h.bit i k) (by have := h.row i hi'; have := h.len; omega)
      have e : sumTo (fun k => (t.getD i []).getD k 0) (t.getD i []).length = winOf t i := by rw [h.row i hi']; rfl
      rw [e] at hS
      refine Ev.step (f := fun k => (QM.verditerref01_Sum.f k (t.getD i [])).bind fun s => QM.verditerref05_Wins.l0 k t ((winsL t).take i ++ [s]) ((i + 1 : Nat) : Int)) (fun k => ?_) (Ev.bind hS ?_)
      · simp only [QM.verditerref05_Wins.l0]
        rw [if_pos (by omega), if_pos (by omega), rdM_nat, wrap_nat (n := t.length) hi' (by have := h.len; omega)]
        congr 1
        funext s
        rw [if_pos (by rw [List.length_take]; have := h.len; omega)]
      · have := ih (i + 1) (by omega)
        rw [hw] at this
        exact this
  refine Ev.congr (f := fun k => QM.verditerref05_Wins.l0 k t [] 0) (fun k => ?_) (hl0 t.length 0 (by omega))
  simp only [QM.verditerref05_Wins.f, verditerref05_Validate.f, Option.bind_some]
  rw [he, if_pos rfl]
theorem sunMakes_true (l : List Int) (hl : l.length ≤ 9223372036854775807) : Ev (fun k => QM.verditerlaw05_sunMakes.f k l) true := by
  by_cases hm : (l.length : Int) > 40
  · refine Ev.congr (f := fun _ => some true) (fun k => ?_) (Ev.now _)
    simp only [QM.verditerlaw05_sunMakes.f]
    rw [show QA.verditerlaw05_many.f l = some (decide ((l.length : Int) > 40)) from rfl, Option.bind_some, decide_eq_true hm, if_pos rfl]
    rfl
  · refine Ev.congr (f := fun k => (QN.verditerref05_CanWin.f k l).bind fun bt110 => ((QN.sun_CanWin.f l).bind fun bt112 => ((sun_Make.f l).bind fun bt114 => (if (bt112.1 != bt110.1) = true then (QM.verditerlaw05_sunMakes.j0 k l bt114.1 bt114.2.1 true) else (if bt112.2 = bt110.2 then (if (bt114.2.1 != bt110.1) = true then (QM.verditerlaw05_sunMakes.j0 k l bt114.1 bt114.2.1 true) else (QM.verditerlaw05_sunMakes.j0 k l bt114.1 bt114.2.1 (bt114.2.2 != bt110.2))) else (QM.verditerlaw05_sunMakes.j0 k l bt114.1 bt114.2.1 true)))))) (fun k => ?_) ?_
    · simp only [QM.verditerlaw05_sunMakes.f]
      rw [show QA.verditerlaw05_many.f l = some (decide ((l.length : Int) > 40)) from rfl, Option.bind_some, decide_eq_false hm, if_neg (by decide)]
    refine Ev.bind (Ev_refCanWin l (by omega)) ?_
    obtain ⟨M, hM⟩ : ∃ M, sun_Make.f l = some (M, (canV l).1, (canV l).2) ∧ ((canV l).1 = true → M = makeL l) ∧ ((canV l).1 = false → M = []) := by
      unfold sun_Make.f canV
      by_cases hv : winsV l = 0
      · cases hc : canWinB l with
        | true => exact ⟨makeL l, by simp [hv], fun _ => rfl, fun e => by simp [hv] at e⟩
        | false => exact ⟨[], by simp [hv], fun e => by simp [hv] at e, fun _ => rfl⟩
      · exact ⟨[], by simp [hv], fun e => by simp [hv] at e, fun _ => rfl⟩
    refine Ev.congr (f := fun k => QM.verditerlaw05_sunMakes.j0 k l M (canV l).1 false) (fun k => ?_) ?_
    · rw [sunCanWin_eq, Option.bind_some, hM.1, Option.bind_some]
      dsimp only
      rw [bne_self_eq_false, if_neg (by decide), if_pos rfl, if_neg (by decide), bne_self_eq_false]
    cases hc : (canV l).1 with
    | true =>
      obtain ⟨hv, hb⟩ : winsV l = 0 ∧ canWinB l = true := by
        unfold canV at hc
        by_cases hv : winsV l = 0
        · exact ⟨hv, by rw [if_pos hv] at hc; exact hc⟩
        · rw [if_neg hv] at hc; cases hc
      obtain rfl := hM.2.1 hc
      obtain ⟨hr, hw⟩ := make_right hv hb
      have h2 := Ev_refWinsM hr
      rw [hw] at h2
      refine Ev.step (f := fun k => (QM.verditerref05_Wins.f k (makeL l)).bind fun bt119 => if bt119.2 = 0 then ((QA.verditerref01_SameInts.f k bt119.1 l).bind fun t123 => if t123 = true then some true else some false) else some false) (fun k => ?_) (Ev.bind h2 (Ev.congr (fun k => if_pos rfl) (Ev.bind (Ev_same l hl) (Ev.now _))))
      simp only [QM.verditerlaw05_sunMakes.j0]
      rw [if_neg (by decide), if_pos trivial]
      rfl
    | false =>
      obtain rfl := hM.2.2 hc
      refine Ev.step (fun k => ?_) (Ev.now _)
      simp only [QM.verditerlaw05_sunMakes.j0]
      rw [if_neg (by decide), if_neg (by decide), if_pos (by rfl)]
      rfl
theorem pureSunMakes {A : Option Addr} {n c : Nat} {l : List Int} {W : World} (g : Kd.C (Kd.int .i64) W A n l) (hf : ∀ x ∈ l, (Lit.int .i64 x).wf = true) (hn : n ≤ c) :
    Calls Try.prog 30 #[.slice A n c] W fun e w' => e = .returned (.bool true) ∧ Below W.heap.size W w' := by
  obtain rfl : l.length = n := g.1
  obtain ⟨k, hk⟩ := (sunMakes_true l g.2.1).rounds
  exact QM.verditerlaw05_sunMakes.calls k A c l true W g hn hk
theorem pairs_wins {t : List (List Int)} (h : Right t) {i : Nat} (hi : i < t.length) : pairs t i = Int.tdiv ((winsL t).getD i 0 * ((winsL t).getD i 0 - 1)) 2 := by
  unfold pairs
  rw [h.wins_get hi]
theorem rings_same {t u : List (List Int)} (ht : Right t) (hu : Right u) (h : winsL u = winsL t) : ringsN u = ringsN t := by
  have hl : u.length = t.length := by rw [← winsL_len u, ← winsL_len t, h]
  unfold ringsN
  rw [hl]
  congr 1
  exact sumTo_congr fun i hi => by rw [pairs_wins ht hi, pairs_wins hu (by omega), h]
theorem sunHas_true (t : List (List Int)) (ht : t.length ≤ 9223372036854775807) : Ev (fun k => QM.verditerlaw05_sunHas.f k t) true := by
  obtain ⟨b, hb, hs⟩ := Ev_Long t ht
  unfold QM.verditerlaw05_sunHas.f
  refine Ev.bind hb ?_
  cases b with
  | true => exact Ev.congr (f := fun _ => some true) (fun k => by rw [if_pos rfl]; rfl) (Ev.now _)
  | false =>
    refine Ev.congr (fun k => if_neg (by simp)) ?_
    by_cases he : errV t = 0
    · have h := Right.of he
      have hv := winsV_wins h
      have hc := canWin_wins h
      obtain ⟨hr, hw⟩ := make_right hv hc
      refine Ev.congr (f := fun k => QM.verditerlaw05_sunHas.j0 k t (makeL (winsL t)) false) (fun k => ?_) ?_
      · rw [sunWins_yes h he, Option.bind_some, if_pos rfl, sunCanWin_eq, Option.bind_some, show sun_Make.f (winsL t) = some (makeL (winsL t), true, 0) by unfold sun_Make.f; rw [if_pos hv, if_pos hc], Option.bind_some]
        have e : canV (winsL t) = (true, 0) := by unfold canV; rw [if_pos hv, hc, hv]
        rw [e, if_pos rfl, if_pos rfl, if_pos rfl]
        rfl
      · refine Ev.step (f := fun k => (QA.sun_Rings.f k t).bind fun bt140 => (QA.sun_Rings.f k (makeL (winsL t))).bind fun bt142 => if bt140.2 = 0 then (if bt142.2 = 0 then (if bt140.1 = bt142.1 then some true else some false) else some false) else some false) (fun k => ?_) ?_
        · simp only [QM.verditerlaw05_sunHas.j0]
          rw [if_neg (by decide)]
          rfl
        refine Ev.bind (Ev_sunRings h he) (Ev.bind (Ev_sunRings hr (right_errM hr)) (Ev.congr (fun k => ?_) (Ev.now _)))
        rw [if_pos rfl, if_pos rfl, if_pos (rings_same h hr hw).symm]
    · refine Ev.congr (fun k => ?_) (Ev.now _)
      rw [sunWins_no he, Option.bind_some, if_neg he]
      rfl
theorem pureSunHas {A : Option Addr} {n c : Nat} {T : List (List Int)} {W : World} (g : Kd.C (Kd.slice 3 (Kd.int .i64)) W A n T) (hf : ∀ l ∈ T, ∀ x ∈ l, (Lit.int .i64 x).wf = true) (hn : n ≤ c) :
    Calls Try.prog 31 #[.slice A n c] W fun e w' => e = .returned (.bool true) ∧ Below W.heap.size W w' := by
  obtain rfl : T.length = n := g.1
  obtain ⟨k, hk⟩ := (sunHas_true T g.2.1).rounds
  exact QM.verditerlaw05_sunHas.calls k A c T true W g hn hk
end Go.Proofs.Ytbnjffhcpkfnhaa.H
