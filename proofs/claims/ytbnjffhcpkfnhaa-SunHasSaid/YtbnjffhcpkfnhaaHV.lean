/- sun.Validate in closed form: which tables are right. -/
import Derived.Test.YtbnjffhcpkfnhaaQV1
namespace Go.Proofs.Ytbnjffhcpkfnhaa.H
open Go.RowKit Go.Proofs.YtbnjffhcpkfnhaaW.PrintWords Go.Proofs.YtbnjffhcpkfnhaaW.PrintLast Go.Proofs.YtbnjffhcpkfnhaaW.PrintMore
set_option linter.unusedVariables false

/-- An entry of a table. -/
def ent (t : List (List Int)) (i k : Nat) : Int := (t.getD i []).getD k 0
def bitRow (t : List (List Int)) (i : Nat) : Bool := isBitsB (t.getD i []) t.length && decide (ent t i i = 0)
def okV (t : List (List Int)) : Bool := (List.range t.length).all (fun i => bitRow t i) && (List.range t.length).all (fun i => (List.range i).all fun k => decide (ent t i k + ent t k i = 1))
def errV (t : List (List Int)) : Int := if t.length < 1 ∨ 7 < t.length then 3 else if okV t = true then 0 else 1

theorem okV_iff (t : List (List Int)) : okV t = true ↔ (∀ i, i < t.length → bitRow t i = true) ∧ (∀ i, i < t.length → ∀ k, k < i → ent t i k + ent t k i = 1) := by
  unfold okV
  simp only [Bool.and_eq_true, List.all_eq_true, List.mem_range, decide_eq_true_eq]
theorem bitRow_iff (t : List (List Int)) (i : Nat) : bitRow t i = true ↔ (t.getD i []).length = t.length ∧ (∀ x ∈ t.getD i [], x = 0 ∨ x = 1) ∧ ent t i i = 0 := by
  unfold bitRow isBitsB
  simp only [Bool.and_eq_true, decide_eq_true_eq, List.all_eq_true]
  constructor
  · rintro ⟨⟨h1, h2⟩, h3⟩; exact ⟨by omega, h2, h3⟩
  · rintro ⟨h1, h2, h3⟩; exact ⟨⟨by omega, h2⟩, h3⟩
theorem ent_bit {t : List (List Int)} {i : Nat} (h : bitRow t i = true) (k : Nat) : ent t i k = 0 ∨ ent t i k = 1 := by
  obtain ⟨hl, hb, _⟩ := (bitRow_iff t i).1 h
  unfold ent
  by_cases hk : k < (t.getD i []).length
  · rw [List.getD_eq_getElem?_getD, List.getElem?_eq_getElem hk]
    exact hb _ (List.getElem_mem hk)
  · rw [List.getD_eq_getElem?_getD, List.getElem?_eq_none (by omega)]
    exact .inl rfl

theorem rd_nat (xs : List Int) (i : Nat) : rd xs (i : Int) = xs.getD i 0 := by simp [rd]
theorem rdV_nat (xs : List (List Int)) (i : Nat) : QV.rd_L1 xs (i : Int) = xs.getD i [] := by simp [QV.rd_L1]
theorem wrap_nat {i n : Nat} (h : i < n) (hn : n ≤ 9223372036854775807) : wrap64 ((i : Int) + 1) = ((i + 1 : Nat) : Int) := by unfold wrap64; omega

theorem V_l12 (t : List (List Int)) (h7 : t.length ≤ 7) (h1 : ∀ i, i < t.length → bitRow t i = true) (d : Nat) : ∀ i, i + d = t.length → (∀ i', i' < i → ∀ k, k < i' → ent t i' k + ent t k i' = 1) →
    Ev (fun k => QV.sun_Validate.l1 k t (t.length : Int) (i : Int)) (if okV t = true then 0 else 1) := by
  induction d with
  | zero =>
    intro i hi hp
    obtain rfl : i = t.length := by omega
    have hok : okV t = true := (okV_iff t).2 ⟨h1, hp⟩
    rw [if_pos hok]
    exact Ev.step (fun k => by simp only [QV.sun_Validate.l1]; rw [if_neg (by omega)]) (Ev.now _)
  | succ d ih =>
    intro i hi hp
    refine Ev.step (f := fun k => QV.sun_Validate.l2 k t (i : Int) (t.length : Int) (i : Int) (i : Int) 0) (fun k => by simp only [QV.sun_Validate.l1]; rw [if_pos (by omega)]) ?_
    have key : ∀ e m, m + e = i → (∀ k, k < m → ent t i k + ent t k i = 1) → Ev (fun k => QV.sun_Validate.l2 k t (i : Int) (t.length : Int) (i : Int) (i : Int) (m : Int)) (if okV t = true then 0 else 1) := by
      intro e
      induction e with
      | zero =>
        intro m hm hq
        obtain rfl : m = i := by omega
        refine Ev.step (f := fun k => QV.sun_Validate.l1 k t (t.length : Int) ((m + 1 : Nat) : Int)) (fun k => by simp only [QV.sun_Validate.l2]; rw [if_neg (by omega), wrap_nat (n := t.length) (by omega) (by omega)]) ?_
        refine ih (m + 1) (by omega) (fun i' hi' k hk => ?_)
        by_cases e : i' = m
        · subst e; exact hq k hk
        · exact hp i' (by omega) k hk
      | succ e ihe =>
        intro m hm hq
        obtain ⟨hli, _, _⟩ := (bitRow_iff t i).1 (h1 i (by omega))
        obtain ⟨hlm, _, _⟩ := (bitRow_iff t m).1 (h1 m (by omega))
        have e1 := ent_bit (h1 i (by omega)) m
        have e2 := ent_bit (h1 m (by omega)) i
        have hw : wrap64 ((rd (QV.rd_L1 t (i : Int)) (m : Int)) + (rd (QV.rd_L1 t (m : Int)) (i : Int))) = ent t i m + ent t m i := by
          rw [rdV_nat, rdV_nat, rd_nat, rd_nat]
          unfold ent at e1 e2 ⊢
          unfold wrap64; omega
        by_cases hs : ent t i m + ent t m i = 1
        · refine Ev.step (f := fun k => QV.sun_Validate.l2 k t (i : Int) (t.length : Int) (i : Int) (i : Int) ((m + 1 : Nat) : Int)) (fun k => ?_) (ihe (m + 1) (by omega) (fun k hk => ?_))
          · simp only [QV.sun_Validate.l2]
            rw [if_pos (by omega), if_pos (by omega), if_pos (by omega), if_pos (by omega), if_pos (by rw [rdV_nat]; omega), if_pos (by omega), if_pos (by rw [rdV_nat]; omega), hw, if_pos hs, wrap_nat (n := t.length) (by omega) (by omega)]
          · by_cases ek : k = m
            · subst ek; exact hs
            · exact hq k (by omega)
        · have hok : ¬ okV t = true := fun h => hs (((okV_iff t).1 h).2 i (by omega) m (by omega))
          rw [if_neg hok]
          refine Ev.step (fun k => ?_) (Ev.now _)
          simp only [QV.sun_Validate.l2]
          rw [if_pos (by omega), if_pos (by omega), if_pos (by omega), if_pos (by omega), if_pos (by rw [rdV_nat]; omega), if_pos (by omega), if_pos (by rw [rdV_nat]; omega), hw, if_neg hs]
    exact key i 0 (by omega) (fun k hk => by omega)

theorem V_l0 (t : List (List Int)) (h7 : t.length ≤ 7) (d : Nat) : ∀ i, i + d = t.length → (∀ i', i' < i → bitRow t i' = true) →
    Ev (fun k => QV.sun_Validate.l0 k t t (t.length : Int) (i : Int)) (if okV t = true then 0 else 1) := by
  induction d with
  | zero =>
    intro i hi hp
    obtain rfl : i = t.length := by omega
    exact Ev.step (fun k => by simp only [QV.sun_Validate.l0]; rw [if_neg (by omega)]; rfl) (V_l12 t h7 hp t.length 0 (by omega) (fun i' hi' => absurd hi' (by omega)))
  | succ d ih =>
    intro i hi hp
    by_cases hb : isBitsB (t.getD i []) t.length = true
    · have hl : (t.getD i []).length = t.length := by unfold isBitsB at hb; simp only [Bool.and_eq_true, decide_eq_true_eq] at hb; omega
      by_cases hz : ent t i i = 0
      · have hbi : bitRow t i = true := by unfold bitRow; rw [hb]; simp [hz]
        refine Ev.step (f := fun k => QV.sun_Validate.l0 k t t (t.length : Int) ((i + 1 : Nat) : Int)) (fun k => ?_) (ih (i + 1) (by omega) (fun i' hi' => ?_))
        · simp only [QV.sun_Validate.l0]
          rw [if_pos (by omega), if_pos (by omega), if_pos (by omega), rdV_nat]
          simp only [sun_isBits.f, Option.bind_some]
          rw [hb, if_pos rfl, if_pos (by omega), rd_nat, if_pos (show (t.getD i []).getD i 0 = 0 from hz), wrap_nat (n := t.length) (by omega) (by omega)]
        · by_cases e : i' = i
          · subst e; exact hbi
          · exact hp i' (by omega)
      · have hok : ¬ okV t = true := fun h => hz (((bitRow_iff t i).1 (((okV_iff t).1 h).1 i (by omega))).2.2)
        rw [if_neg hok]
        refine Ev.step (fun k => ?_) (Ev.now _)
        simp only [QV.sun_Validate.l0]
        rw [if_pos (by omega), if_pos (by omega), if_pos (by omega), rdV_nat]
        simp only [sun_isBits.f, Option.bind_some]
        rw [hb, if_pos rfl, if_pos (by omega), rd_nat, if_neg (show ¬ (t.getD i []).getD i 0 = 0 from hz)]
    · have hok : ¬ okV t = true := fun h => hb (by
        have := ((okV_iff t).1 h).1 i (by omega)
        unfold bitRow at this
        simp only [Bool.and_eq_true] at this
        exact this.1)
      rw [if_neg hok]
      refine Ev.step (fun k => ?_) (Ev.now _)
      simp only [QV.sun_Validate.l0]
      rw [if_pos (by omega), if_pos (by omega), if_pos (by omega), rdV_nat]
      simp only [sun_isBits.f, Option.bind_some]
      rw [if_neg hb]

theorem V_f (t : List (List Int)) : Ev (fun k => QV.sun_Validate.f k t) (errV t) := by
  unfold errV
  by_cases h1 : t.length < 1
  · rw [if_pos (.inl h1)]
    refine Ev.congr (f := fun k => QV.sun_Validate.j0 k t true) (fun k => by simp only [QV.sun_Validate.f]; rw [if_pos (by omega)]) ?_
    exact Ev.step (fun k => by simp only [QV.sun_Validate.j0]; rw [if_pos trivial]) (Ev.now _)
  · by_cases h7 : 7 < t.length
    · rw [if_pos (.inr h7)]
      refine Ev.congr (f := fun k => QV.sun_Validate.j0 k t true) (fun k => by simp only [QV.sun_Validate.f]; rw [if_neg (by omega), decide_eq_true (by omega)]) ?_
      exact Ev.step (fun k => by simp only [QV.sun_Validate.j0]; rw [if_pos trivial]) (Ev.now _)
    · rw [if_neg (by omega)]
      refine Ev.congr (f := fun k => QV.sun_Validate.j0 k t false) (fun k => by simp only [QV.sun_Validate.f]; rw [if_neg (by omega), decide_eq_false (by omega)]) ?_
      exact Ev.step (fun k => by simp only [QV.sun_Validate.j0]; rw [if_neg (by simp)]; rfl) (V_l0 t (by omega) t.length 0 (by omega) (fun i' hi' => absurd hi' (by omega)))

def sun_Validate.f (l0 : List (List Int)) : Option Int := some (errV l0)
theorem sun_Validate.calls (A0 : Option Addr) (c0 : Nat) (l0 : List (List Int)) (r : Int) (w : World) (hr0 : Kd.C (Kd.slice 3 (Kd.int .i64)) w A0 l0.length l0) (hc0 : l0.length ≤ c0) (h : sun_Validate.f l0 = some r) :
    Calls Try.prog 39 #[.slice A0 l0.length c0] w fun e w' => e = .returned (.int .i64 r) ∧ Drawn0 w w' := by
  obtain rfl := Option.some.inj h
  obtain ⟨k, hk⟩ := (V_f l0).rounds
  exact QV.sun_Validate.calls k A0 c0 l0 _ w hr0 hc0 hk

end Go.Proofs.Ytbnjffhcpkfnhaa.H
