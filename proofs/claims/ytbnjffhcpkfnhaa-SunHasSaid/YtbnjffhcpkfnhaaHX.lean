/- The reference's Validate: it answers as the program's for every table. -/
import Derived.Test.YtbnjffhcpkfnhaaHB
import Derived.Test.YtbnjffhcpkfnhaaHE
namespace Go.Proofs.Ytbnjffhcpkfnhaa.H
open Go.RowKit Go.Shelf Go.Proofs.YtbnjffhcpkfnhaaW.PrintWords Go.Proofs.YtbnjffhcpkfnhaaW.PrintLast Go.Proofs.YtbnjffhcpkfnhaaW.PrintMore
set_option linter.unusedVariables false

def withinB (n lo hi : Int) : Bool := decide (lo ≤ n) && decide (n ≤ hi)
set_option maxHeartbeats 1000000 in
theorem within_any (n lo hi : Int) (w : World) : Calls Try.prog 78 #[.int .i64 n, .int .i64 lo, .int .i64 hi] w fun e w' => e = .returned (.bool (withinB n lo hi)) ∧ w = w' := by
  unfold withinB
  cases h : decide (lo ≤ n) with
  | true =>
    go_enter Try.func78, Try.ntmps78
    go_wp2
    go_ret
    exact ⟨by simp, rfl⟩
  | false =>
    go_enter Try.func78, Try.ntmps78
    go_wp2
    go_ret
    exact ⟨by simp, rfl⟩

/-- One entry is as it must be. -/
def entB (t : List (List Int)) (i k : Nat) : Bool := withinB (ent t i k) 0 1 && (if i = k then decide (ent t i k = 0) else decide (wrap64 (ent t i k + ent t k i) = 1))

theorem okV_ents (t : List (List Int)) : okV t = true ↔ (∀ i, i < t.length → (t.getD i []).length = t.length) ∧ ∀ i, i < t.length → ∀ k, k < t.length → entB t i k = true := by
  rw [okV_iff]
  constructor
  · rintro ⟨h1, h2⟩
    refine ⟨fun i hi => ((bitRow_iff t i).1 (h1 i hi)).1, fun i hi k hk => ?_⟩
    have hb := ent_bit (h1 i hi) k
    have hw : withinB (ent t i k) 0 1 = true := by unfold withinB; rcases hb with h | h <;> rw [h] <;> rfl
    unfold entB
    rw [hw, Bool.true_and]
    by_cases e : i = k
    · subst e
      rw [if_pos rfl]
      exact decide_eq_true ((bitRow_iff t i).1 (h1 i hi)).2.2
    · rw [if_neg e]
      refine decide_eq_true ?_
      have hb2 := ent_bit (h1 k hk) i
      have hww : wrap64 (ent t i k + ent t k i) = ent t i k + ent t k i := by unfold wrap64; omega
      rw [hww]
      rcases Nat.lt_or_gt_of_ne e with h | h
      · rw [Int.add_comm]; exact h2 k hk i h
      · exact h2 i hi k h
  · rintro ⟨h1, h2⟩
    have hE0 : ∀ i, i < t.length → ∀ k, k < t.length → (0 ≤ ent t i k ∧ ent t i k ≤ 1) := by
      intro i hi k hk
      have := h2 i hi k hk
      unfold entB withinB at this
      simp only [Bool.and_eq_true, decide_eq_true_eq] at this
      exact this.1
    have hE : ∀ i, i < t.length → ∀ k, k < t.length → (0 ≤ ent t i k ∧ ent t i k ≤ 1) ∧ (i = k → ent t i k = 0) ∧ (i ≠ k → ent t i k + ent t k i = 1) := by
      intro i hi k hk
      have h0 := hE0 k hk i hi
      have := h2 i hi k hk
      unfold entB withinB at this
      simp only [Bool.and_eq_true, decide_eq_true_eq] at this
      refine ⟨this.1, fun e => ?_, fun e => ?_⟩
      · have h := this.2; rw [if_pos e] at h; exact of_decide_eq_true h
      · have h := this.2
        rw [if_neg e] at h
        have h := of_decide_eq_true h
        have h1 := this.1
        unfold wrap64 at h
        omega
    refine ⟨fun i hi => (bitRow_iff t i).2 ⟨h1 i hi, fun x hx => ?_, (hE i hi i hi).2.1 rfl⟩, fun i hi k hk => (hE i hi k (by omega)).2.2 (by omega)⟩
    obtain ⟨j, hj, rfl⟩ := List.getElem_of_mem hx
    have := (hE i hi j (by rw [← h1 i hi]; exact hj)).1
    unfold ent at this
    rw [List.getD_eq_getElem?_getD (l := t.getD i []), List.getElem?_eq_getElem hj] at this
    simp only [Option.getD_some] at this
    omega

def verditerref05_Validate.f (l0 : List (List Int)) : Option Int := some (errV l0)

def resV (t : List (List Int)) : Int := if okV t = true then 0 else 1
theorem resV_no {t : List (List Int)} (h : ¬ okV t = true) : resV t = 1 := if_neg h
theorem resV_yes {t : List (List Int)} (h : okV t = true) : resV t = 0 := if_pos h
theorem entB_no_okV {t : List (List Int)} {i k : Nat} (hi : i < t.length) (hk : k < t.length) (h : entB t i k = false) : ¬ okV t = true := fun h' => by
  have := ((okV_ents t).1 h').2 i hi k hk
  rw [h] at this
  cases this

set_option maxRecDepth 100000 in
set_option maxHeartbeats 4000000 in
theorem refV_yes (A0 : Option Addr) (c0 : Nat) (l0 : List (List Int)) (w : World) (hr0 : Kd.C (Kd.slice 3 (Kd.int .i64)) w A0 l0.length l0) (h1 : 1 ≤ l0.length) (h7 : l0.length ≤ 7) :
    Calls Try.prog 40 #[.slice A0 l0.length c0] w fun e w' => e = .returned (.int .i64 (resV l0)) ∧ Drawn0 w w' := by
  have HR := Aside0.mk hr0
  have hW1 : ∀ W, Calls Try.prog 78 #[.int .i64 (l0.length : Int), .int .i64 1, .int .i64 7] W fun e w' => e = .returned (.bool true) ∧ W = w' := fun W => by
    have := within_any (l0.length : Int) 1 7 W
    have e : withinB (l0.length : Int) 1 7 = true := by unfold withinB; rw [decide_eq_true (by omega), decide_eq_true (by omega)]; rfl
    rwa [e] at this
  clear hr0
  go_enter Try.func40, Try.ntmps40
  go_wp2_with (go_at_call 78; refine (hW1 _).mono ?_; rintro e w' ⟨rfl, rfl⟩)
  go_loop [4] (fun s4 => ∃ i : Nat, i ≤ l0.length ∧ s4 = .int .i64 i ∧ Aside0 (∀ j, j < i → (l0.getD j []).length = l0.length)) (fun s4 => l0.length - (intOf s4).toNat)
  case atStart => exact ⟨0, Nat.zero_le _, rfl, ⟨fun j hj => absurd hj (by omega)⟩⟩
  case round =>
    obtain ⟨i, hi, rfl, HP⟩ := hrel
    by_cases hlt : i < l0.length
    · have hltz : (i : Int) < (l0.length : Int) := by omega
      obtain ⟨ad, A1, c1, rfl, hrow, hcap, _⟩ := at_rows HR.out i hlt
      by_cases hl : (l0.getD i []).length = l0.length
      · rw [hl] at hrow
        have HLi := Aside0.mk hl
        clear hl hcap
        go_wp2
        go_round
        case rel =>
          refine ⟨i + 1, by omega, by go_num, ⟨fun j hj => ?_⟩⟩
          by_cases e : j = i
          · subst e; exact HLi.out
          · exact HP.out j (by omega)
        case measure => simp [intOf]; omega
      · have HLi := Aside0.mk hl
        obtain ⟨ln, hln⟩ : ∃ ln, (l0.getD i []).length = ln := ⟨_, rfl⟩
        rw [hln] at hrow hl
        have hne : ((ln : Int) != (l0.length : Int)) = true := bne_iff_ne.2 (by omega)
        have hne2 : (ln != l0.length) = true := bne_iff_ne.2 (by omega)
        clear hl hcap hln
        go_wp2
        go_ret
        have hno : ¬ okV l0 = true := fun h => HLi.out (((okV_ents l0).1 h).1 i hlt)
        refine ⟨?_, Drawn0.refl _⟩
        rw [resV_no hno]
        rfl
    · obtain rfl : i = l0.length := by omega
      go_wp2
      go_loopg [5, 6] l0.length (fun gg s5 s6 wr => ∃ i : Nat, i ≤ l0.length ∧ l0.length - i ≤ gg ∧ s5 = .int .i64 i ∧ Aside0 (Drawn0 w wr) ∧ Aside0 (∀ i', i' < i → ∀ k, k < l0.length → entB l0 i' k = true))
      case atStart => exact ⟨0, Nat.zero_le _, by omega, rfl, ⟨Drawn0.refl _⟩, ⟨fun j hj => absurd hj (by omega)⟩⟩
      case round =>
        obtain ⟨i, hi2, hg, rfl, HD, HE⟩ := hrel
        by_cases hlt : i < l0.length
        · have hltz : (i : Int) < (l0.length : Int) := by omega
          go_wp2
          go_loopg [6] l0.length (fun gg2 s6 wq => ∃ k : Nat, k ≤ l0.length ∧ l0.length - k ≤ gg2 ∧ s6 = .int .i64 k ∧ Aside0 (Drawn0 w wq) ∧ Aside0 (∀ k', k' < k → entB l0 i k' = true))
          case atStart => exact ⟨0, Nat.zero_le _, by omega, rfl, HD, ⟨fun j hj => absurd hj (by omega)⟩⟩
          case round =>
            obtain ⟨k, hk2, hg2, rfl, HD2, HE2⟩ := hrel
            by_cases hlk : k < l0.length
            · have hlkz : (k : Int) < (l0.length : Int) := by omega
              obtain ⟨ad, A1, c1, rfl, hrow1, _, hrd1⟩ := at_rows HR.out i hlt
              obtain ⟨ad', A2, c2, e2, hrow2, _, hrd2⟩ := at_rows HR.out k hlk
              cases e2
              rw [HP.out i hlt] at hrow1 hrd1
              rw [HP.out k hlk] at hrow2 hrd2
              obtain ⟨ad1, rfl, hx⟩ := at_ints hrd1 k hlk
              obtain ⟨ad2, rfl, hy⟩ := at_ints hrd2 i hlt
              have hbq := HD2.out.below
              replace hrow1 := (hbq.cell (World.block_lt_of_cell? w _ hrow1)).trans hrow1
              replace hrow2 := (hbq.cell (World.block_lt_of_cell? w _ hrow2)).trans hrow2
              replace hx := (hbq.cell (World.block_lt_of_cell? w _ hx)).trans hx
              replace hy := (hbq.cell (World.block_lt_of_cell? w _ hy)).trans hy
              clear hbq
              have HENT : Aside0 (entB l0 i k = (withinB ((l0.getD i []).getD k 0) 0 1 && (if i = k then decide ((l0.getD i []).getD k 0 = 0) else decide (wrap64 ((l0.getD i []).getD k 0 + (l0.getD k []).getD i 0) = 1)))) := ⟨rfl⟩
              clear hrd1 hrd2
              generalize (l0.getD i []).getD k 0 = x at *
              generalize (l0.getD k []).getD i 0 = y at *
              have hW0 := within_any x 0 1
              cases hwi : withinB x 0 1 with
              | false =>
                rw [hwi] at hW0
                have hb : Aside0 (entB l0 i k = false) := ⟨by rw [HENT.out, hwi, Bool.false_and]⟩
                clear hwi HENT
                go_wp2
                go_quiet ((go_at_call 78; exact Calls.quiet_of_same ((hW0 _).mono fun _ _ ⟨he, hw⟩ => ⟨he, hw.symm⟩)))
                go_wp2
                go_ret
                exact ⟨by rw [resV_no (entB_no_okV hlt hlk hb.out)]; rfl, HD2.out.step _⟩
              | true =>
                rw [hwi] at hW0
                have hx01 : 0 ≤ x ∧ x ≤ 1 := by unfold withinB at hwi; simpa using hwi
                rw [hwi, Bool.true_and] at HENT
                clear hwi
                by_cases hik : i = k
                · subst hik
                  rw [if_pos rfl] at HENT
                  have hikz : ((i : Int) == (i : Int)) = true := beq_self_eq_true _
                  by_cases hx0 : x = 0
                  · subst hx0
                    have hb : Aside0 (entB l0 i i = true) := ⟨by rw [HENT.out]; rfl⟩
                    clear HENT
                    go_wp2
                    go_quiet ((go_at_call 78; exact Calls.quiet_of_same ((hW0 _).mono fun _ _ ⟨he, hw⟩ => ⟨he, hw.symm⟩)))
                    go_wp2
                    go_roundg (l0.length - (i + 1))
                    case measure => omega
                    case rel =>
                      refine ⟨i + 1, by omega, by omega, by go_num, ⟨HD2.out.step _⟩, ⟨fun k' hk' => ?_⟩⟩
                      by_cases e : k' = i
                      · subst e; exact hb.out
                      · exact HE2.out k' (by omega)
                  · have hb : Aside0 (entB l0 i i = false) := ⟨by rw [HENT.out]; exact decide_eq_false hx0⟩
                    have hxn : (x != 0) = true := bne_iff_ne.2 hx0
                    clear HENT
                    go_wp2
                    go_quiet ((go_at_call 78; exact Calls.quiet_of_same ((hW0 _).mono fun _ _ ⟨he, hw⟩ => ⟨he, hw.symm⟩)))
                    go_wp2
                    go_ret
                    exact ⟨by rw [resV_no (entB_no_okV hlt hlk hb.out)]; rfl, HD2.out.step _⟩
                · rw [if_neg hik] at HENT
                  have hikz : ((i : Int) == (k : Int)) = false := beq_eq_false_iff_ne.2 (by omega)
                  have hikn : (i == k) = false := beq_eq_false_iff_ne.2 (by omega)
                  have hikz2 : ((i : Int) != (k : Int)) = true := bne_iff_ne.2 (by omega)
                  have hikn2 : (i != k) = true := bne_iff_ne.2 (by omega)
                  obtain ⟨sm, hsm⟩ : ∃ sm, wrap64 (x + y) = sm := ⟨_, rfl⟩
                  have hsm2 : IntKind.i64.wrap (x + y) = sm := (i64_w _).trans hsm
                  rw [hsm] at HENT
                  clear hsm hx01
                  by_cases hs1 : sm = 1
                  · subst hs1
                    have hb : Aside0 (entB l0 i k = true) := ⟨by rw [HENT.out]; rfl⟩
                    clear HENT
                    go_wp2
                    go_quiet ((go_at_call 78; exact Calls.quiet_of_same ((hW0 _).mono fun _ _ ⟨he, hw⟩ => ⟨he, hw.symm⟩)))
                    go_wp2
                    go_roundg (l0.length - (k + 1))
                    case measure => omega
                    case rel =>
                      refine ⟨k + 1, by omega, by omega, by go_num, ⟨HD2.out.step _⟩, ⟨fun k' hk' => ?_⟩⟩
                      by_cases e : k' = k
                      · subst e; exact hb.out
                      · exact HE2.out k' (by omega)
                  · have hb : Aside0 (entB l0 i k = false) := ⟨by rw [HENT.out]; exact decide_eq_false hs1⟩
                    have hsn : (sm != 1) = true := bne_iff_ne.2 hs1
                    clear HENT
                    go_wp2
                    go_quiet ((go_at_call 78; exact Calls.quiet_of_same ((hW0 _).mono fun _ _ ⟨he, hw⟩ => ⟨he, hw.symm⟩)))
                    go_wp2
                    go_ret
                    exact ⟨by rw [resV_no (entB_no_okV hlt hlk hb.out)]; rfl, HD2.out.step _⟩
            · obtain rfl : k = l0.length := by omega
              go_wp2
              go_roundg (l0.length - (i + 1))
              case measure => omega
              case rel =>
                refine ⟨i + 1, by omega, by omega, by go_num, HD2, ⟨fun i' hi' => ?_⟩⟩
                by_cases e : i' = i
                · subst e; exact HE2.out
                · exact HE.out i' (by omega)
        · obtain rfl : i = l0.length := by omega
          go_wp2
          go_ret
          exact ⟨by rw [resV_yes ((okV_ents l0).2 ⟨HP.out, HE.out⟩)]; rfl, HD.out⟩

set_option maxHeartbeats 1000000 in
theorem refV_no (A0 : Option Addr) (c0 : Nat) (n : Nat) (w : World) (h : withinB (n : Int) 1 7 = false) :
    Calls Try.prog 40 #[.slice A0 n c0] w fun e w' => e = .returned (.int .i64 3) ∧ Drawn0 w w' := by
  have hW1 : ∀ W, Calls Try.prog 78 #[.int .i64 (n : Int), .int .i64 1, .int .i64 7] W fun e w' => e = .returned (.bool false) ∧ W = w' := fun W => by
    have := within_any (n : Int) 1 7 W
    rwa [h] at this
  clear h
  go_enter Try.func40, Try.ntmps40
  go_wp2_with (go_at_call 78; refine (hW1 _).mono ?_; rintro e w' ⟨rfl, rfl⟩)
  go_ret
  exact ⟨rfl, Drawn0.refl _⟩

theorem verditerref05_Validate.calls (A0 : Option Addr) (c0 : Nat) (l0 : List (List Int)) (r : Int) (w : World) (hr0 : Kd.C (Kd.slice 3 (Kd.int .i64)) w A0 l0.length l0) (hc0 : l0.length ≤ c0) (h : verditerref05_Validate.f l0 = some r) :
    Calls Try.prog 40 #[.slice A0 l0.length c0] w fun e w' => e = .returned (.int .i64 r) ∧ Drawn0 w w' := by
  obtain rfl := Option.some.inj h
  by_cases hl : l0.length < 1 ∨ 7 < l0.length
  · have e : errV l0 = 3 := if_pos hl
    rw [e]
    refine refV_no A0 c0 l0.length w ?_
    unfold withinB
    rcases hl with hl | hl
    · rw [decide_eq_false (by omega), Bool.false_and]
    · rw [decide_eq_false (p := (l0.length : Int) ≤ 7) (by omega), Bool.and_false]
  · have e : errV l0 = resV l0 := if_neg hl
    rw [e]
    exact refV_yes A0 c0 l0 w hr0 (by omega) (by omega)

end Go.Proofs.Ytbnjffhcpkfnhaa.H
