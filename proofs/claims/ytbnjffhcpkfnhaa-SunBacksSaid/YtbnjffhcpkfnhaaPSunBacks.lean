/- The plain law of SunBacks: the table in which all beat those that beat them has as many rings and as few upsets. -/
import Derived.Test.YtbnjffhcpkfnhaaHTb
import Derived.Test.YtbnjffhcpkfnhaaHRg
import Derived.Test.YtbnjffhcpkfnhaaHO
import Derived.Test.YtbnjffhcpkfnhaaHN
namespace Go.Proofs.Ytbnjffhcpkfnhaa.H
open Go.RowKit Go.Shelf Go.Proofs.YtbnjffhcpkfnhaaW.PrintWords Go.Proofs.YtbnjffhcpkfnhaaW.PrintLast Go.Proofs.YtbnjffhcpkfnhaaW.PrintMore
set_option linter.unusedVariables false

def tabOf (n : Nat) (f : Nat → Nat → Int) : List (List Int) := (List.range n).map fun i => (List.range n).map fun k => f i k
theorem tabOf_len (n : Nat) (f : Nat → Nat → Int) : (tabOf n f).length = n := by simp [tabOf]
theorem tabOf_get {n : Nat} (f : Nat → Nat → Int) {i : Nat} (hi : i < n) : (tabOf n f).getD i [] = (List.range n).map fun k => f i k := by
  unfold tabOf
  rw [List.getD_eq_getElem?_getD, List.getElem?_map, List.getElem?_range hi]; rfl
theorem tabOf_row {n : Nat} (f : Nat → Nat → Int) {i : Nat} (hi : i < n) : ((tabOf n f).getD i []).length = n := by rw [tabOf_get f hi]; simp
theorem tabOf_ent {n : Nat} (f : Nat → Nat → Int) {i k : Nat} (hi : i < n) (hk : k < n) : ent (tabOf n f) i k = f i k := by
  unfold ent
  rw [tabOf_get f hi, List.getD_eq_getElem?_getD, List.getElem?_map, List.getElem?_range hk]; rfl
theorem tabOf_out {n : Nat} (f : Nat → Nat → Int) {i k : Nat} (h : ¬ (i < n ∧ k < n)) : ent (tabOf n f) i k = 0 := by
  by_cases hi : i < n
  · unfold ent
    rw [tabOf_get f hi, List.getD_eq_getElem?_getD, List.getElem?_eq_none (by simp; omega)]; rfl
  · exact ent_out (by rw [tabOf_len]; exact hi) k
theorem tabOf_eq {n : Nat} {t : List (List Int)} {f : Nat → Nat → Int} (hl : t.length = n) (hr : ∀ i, i < n → (t.getD i []).length = n) (he : ∀ i, i < n → ∀ k, k < n → ent t i k = f i k) : t = tabOf n f := by
  refine tab_ext (by rw [tabOf_len, hl]) (fun i hi => by rw [hr i (by omega), tabOf_row f (by omega)]) (fun i hi k hk => ?_)
  rw [hr i (by omega)] at hk
  rw [he i (by omega) k hk, tabOf_ent f (by omega) hk]

/-- Half turned. -/
def backTo (t : List (List Int)) (i k : Nat) : List (List Int) := tabOf t.length fun i' k' => if i' < i ∨ (i' = i ∧ k' < k) then ent t k' i' else ent t i' k'
def backT (t : List (List Int)) : List (List Int) := tabOf t.length fun i k => ent t k i
theorem back_start {t : List (List Int)} (h : Right t) : backTo t 0 0 = t :=
  (tabOf_eq rfl h.row fun i hi k hk => by rw [if_neg (by omega)]).symm
theorem back_step {t : List (List Int)} {i k : Nat} (hi : i < t.length) (hk : k < t.length) : putT (backTo t i k) i k (ent t k i) = backTo t i (k + 1) := by
  refine tabOf_eq (by rw [putT_len]; exact tabOf_len _ _) (fun j hj => by rw [putT_row]; exact tabOf_row _ hj) (fun i' hi' k' hk' => ?_)
  rw [putT_ent (by rw [show (backTo t i k).length = t.length from tabOf_len _ _]; exact hi) (by rw [show ((backTo t i k).getD i []).length = t.length from tabOf_row _ hi]; exact hk)]
  by_cases e : i' = i ∧ k' = k
  · rw [if_pos e, if_pos (by omega), e.1, e.2]
  · rw [if_neg e]
    show ent (tabOf _ _) i' k' = _
    rw [tabOf_ent _ hi' hk']
    by_cases e2 : i' < i ∨ (i' = i ∧ k' < k)
    · rw [if_pos e2, if_pos (by omega)]
    · rw [if_neg e2, if_neg (by omega)]
theorem back_row {t : List (List Int)} {i : Nat} : backTo t i t.length = backTo t (i + 1) 0 :=
  tabOf_eq (tabOf_len _ _) (fun j hj => tabOf_row _ hj) (fun i' hi' k' hk' => by
    show ent (tabOf _ _) i' k' = _
    rw [tabOf_ent _ hi' hk']
    by_cases e2 : i' < i ∨ (i' = i ∧ k' < t.length)
    · rw [if_pos e2, if_pos (by omega)]
    · rw [if_neg e2, if_neg (by omega)])
theorem back_end (t : List (List Int)) : backTo t t.length 0 = backT t :=
  tabOf_eq (tabOf_len _ _) (fun j hj => tabOf_row _ hj) (fun i' hi' k' hk' => by
    show ent (tabOf _ _) i' k' = _
    rw [tabOf_ent _ hi' hk', if_pos (by omega)])
theorem backT_ent {t : List (List Int)} {i k : Nat} (hi : i < t.length) (hk : k < t.length) : ent (backT t) i k = ent t k i := tabOf_ent _ hi hk
theorem Right.back {t : List (List Int)} (h : Right t) : Right (backT t) := by
  have hl : (backT t).length = t.length := tabOf_len _ _
  refine ⟨by rw [hl]; exact h.pos, by rw [hl]; exact h.len, fun i hi => ?_, fun i k => ?_, fun i => ?_, fun i k hi hk hne => ?_⟩
  · rw [hl] at hi ⊢; exact tabOf_row _ hi
  · by_cases e : i < t.length ∧ k < t.length
    · rw [backT_ent e.1 e.2]; exact h.bit k i
    · exact .inl (tabOf_out _ e)
  · by_cases e : i < t.length
    · rw [backT_ent e e]; exact h.diag i
    · exact tabOf_out _ (by omega)
  · rw [hl] at hi hk
    rw [backT_ent hi hk, backT_ent hk hi]
    exact h.anti k i hk hi (fun e => hne e.symm)
theorem backT_len (t : List (List Int)) : (backT t).length = t.length := tabOf_len _ _

theorem Ev_refBack {t : List (List Int)} (h : Right t) : Ev (fun k => QC.verditerref05_Back.f k t) (backT t, 0) := by
  have hn := h.len
  have hbl : ∀ i k, (backTo t i k).length = t.length := fun i k => tabOf_len _ _
  have hbr : ∀ i k j, j < t.length → ((backTo t i k).getD j []).length = t.length := fun i k j hj => tabOf_row _ hj
  have l0 : ∀ d i, i + d = t.length → Ev (fun f => QC.verditerref05_Back.l0 f t (backTo t i 0) (i : Int)) (backT t, 0) := by
    intro d
    induction d with
    | zero =>
      intro i hi
      obtain rfl : i = t.length := by omega
      exact Ev.step (fun f => by simp only [QC.verditerref05_Back.l0]; rw [if_neg (by omega), back_end]) (Ev.now _)
    | succ d ih =>
      intro i hi
      have hi' : i < t.length := by omega
      have l1 : ∀ e k, k + e = t.length → Ev (fun f => QC.verditerref05_Back.l1 f t (backTo t i k) (i : Int) (k : Int)) (backT t, 0) := by
        intro e
        induction e with
        | zero =>
          intro k hk
          obtain rfl : k = t.length := by omega
          refine Ev.step (fun f => ?_) (ih (i + 1) (by omega))
          simp only [QC.verditerref05_Back.l1]
          rw [if_neg (by omega), wrap_nat (n := t.length) hi' (by omega), back_row]
        | succ e ih2 =>
          intro k hk
          have hk' : k < t.length := by omega
          refine Ev.step (fun f => ?_) (ih2 (k + 1) (by omega))
          simp only [QC.verditerref05_Back.l1]
          rw [rdC_nat, rdC_nat, hbl, h.row k hk', hbr i k i hi', rd_nat]
          rw [if_pos (by omega), if_pos (by omega), if_pos (by omega), if_pos (by omega), if_pos (by omega), if_pos (by omega), wrap_nat (n := t.length) hk' (by omega), ← back_step hi' hk']
          rfl
      refine Ev.step (f := fun f => QC.verditerref05_Back.l1 f t (backTo t i 0) (i : Int) ((0 : Nat) : Int)) (fun f => ?_) (l1 t.length 0 (by omega))
      simp only [QC.verditerref05_Back.l0]
      rw [if_pos (by omega)]
      rfl
  unfold QC.verditerref05_Back.f
  refine Ev.congr (f := fun k => (QC.verditerref01_CopyTable.f k t).bind fun u => QC.verditerref05_Back.l0 k t u 0) (fun k => ?_) (Ev.bind (Ev_copy h.rows (by omega)) ?_)
  · simp only [verditerref05_Validate.f, Option.bind_some, right_err h]
    rw [if_pos trivial]
  · have := l0 t.length 0 (by omega)
    rw [back_start h] at this
    exact this
theorem Ev_sunBack {t : List (List Int)} (h : Right t) : Ev (fun k => QC.sun_Back.f k t) (backT t, 0) := by
  have hn := h.len
  have hbl : ∀ i k, (backTo t i k).length = t.length := fun i k => tabOf_len _ _
  have hbr : ∀ i k j, j < t.length → ((backTo t i k).getD j []).length = t.length := fun i k j hj => tabOf_row _ hj
  have l0 : ∀ d i, i + d = t.length → Ev (fun f => QC.sun_Back.l0 f t (backTo t i 0) (t.length : Int) (i : Int)) (backT t, 0) := by
    intro d
    induction d with
    | zero =>
      intro i hi
      obtain rfl : i = t.length := by omega
      exact Ev.step (fun f => by simp only [QC.sun_Back.l0]; rw [if_neg (by omega), back_end]) (Ev.now _)
    | succ d ih =>
      intro i hi
      have hi' : i < t.length := by omega
      have l1 : ∀ e k, k + e = t.length → Ev (fun f => QC.sun_Back.l1 f t (backTo t i k) (i : Int) (t.length : Int) (i : Int) (t.length : Int) (k : Int)) (backT t, 0) := by
        intro e
        induction e with
        | zero =>
          intro k hk
          obtain rfl : k = t.length := by omega
          refine Ev.step (fun f => ?_) (ih (i + 1) (by omega))
          simp only [QC.sun_Back.l1]
          rw [if_neg (by omega), wrap_nat (n := t.length) hi' (by omega), back_row]
        | succ e ih2 =>
          intro k hk
          have hk' : k < t.length := by omega
          refine Ev.step (fun f => ?_) (ih2 (k + 1) (by omega))
          simp only [QC.sun_Back.l1]
          rw [rdC_nat, rdC_nat, hbl, h.row k hk', hbr i k i hi', rd_nat]
          rw [if_pos (by omega), if_pos (by omega), if_pos (by omega), if_pos (by omega), if_pos (by omega), if_pos (by omega), if_pos (by omega), wrap_nat (n := t.length) hk' (by omega), ← back_step hi' hk']
          rfl
      refine Ev.step (f := fun f => QC.sun_Back.l1 f t (backTo t i 0) (i : Int) (t.length : Int) (i : Int) (t.length : Int) ((0 : Nat) : Int)) (fun f => ?_) (l1 t.length 0 (by omega))
      simp only [QC.sun_Back.l0]
      rw [if_pos (by omega)]
      rfl
  unfold QC.sun_Back.f
  refine Ev.congr (f := fun k => (QC.sun_clone.f k t).bind fun u => QC.sun_Back.l0 k t u (t.length : Int) 0) (fun k => ?_) (Ev.bind (Ev_clone h) ?_)
  · simp only [sun_Validate.f, Option.bind_some, right_err h]
    rw [if_pos trivial]
  · have := l0 t.length 0 (by omega)
    rw [back_start h] at this
    exact this

/-! ### as many rings, as few upsets -/
theorem back_rings {t : List (List Int)} (h : Right t) : ringsN (backT t) = ringsN t := by
  have h1 := h.rings
  have h2 := h.back.rings
  have h3 : ringSum (backT t) = ringSum t := by
    have e1 : ringSum (backT t) = S3 t.length (fun i k m => ringT3 (backT t) i k m) := by unfold ringSum S3; rw [backT_len]
    have e2 : ringSum t = S3 t.length (fun i k m => ringT3 t i m k) := by rw [S3_23]; rfl
    rw [e1, e2]
    refine S3_congr fun i hi k hk m hm => ?_
    unfold ringT3
    rw [backT_ent hi hk, backT_ent hk hm, backT_ent hm hi]
    rcases h.bit k i with a | a <;> rcases h.bit m k with b | b <;> rcases h.bit i m with c | c <;> rw [a, b, c] <;> rfl
  omega
theorem ups_back {t : List (List Int)} (h : Right t) : ∀ l : List Int, (∀ y ∈ l, 0 ≤ y ∧ y < (t.length : Int)) → ups (backT t) l = ups t l.reverse
  | [], _ => rfl
  | x :: l, hm => by
    rw [ups_reverse, ← ups_back h l (fun y hy => hm y (by simp [hy]))]
    simp only [ups]
    have hx := hm x (by simp)
    have e : over (backT t) l x = more t l x.toNat := by
      unfold over more
      congr 1
      refine List.map_congr_left fun y hy => ?_
      have := hm y (by simp [hy])
      rw [backT_ent (by omega) (by omega)]
    omega
theorem back_least {t : List (List Int)} (h : Right t) : (rankS (backT t)).2 = (rankS t).2 := by
  obtain ⟨o1, e1, m1⟩ := least_spec h
  obtain ⟨o2, e2, m2⟩ := least_spec h.back
  rw [backT_len] at o2 m2
  have a1 := m2 _ o1.reverse
  have a2 := m1 _ o2.reverse
  rw [ups_back h _ (fun y hy => o1.reverse.mem.1 hy), List.reverse_reverse] at a1
  rw [← ups_back h _ (fun y hy => o2.mem.1 hy)] at a2
  omega

/-! ### the inner law -/
theorem known_at (W : World) : Calls Try.prog 34 #[] W fun e w' => e = .returned (.bool true) ∧ Below W.heap.size W w' := verditerlaw05_known.calls true W rfl
set_option maxRecDepth 100000 in
set_option maxHeartbeats 8000000 in
theorem sunBacks_long (A : Option Addr) (c : Nat) (t : List (List Int)) (w : World) (g : Kd.C (Kd.slice 3 (Kd.int .i64)) w A t.length t) (hc : t.length ≤ c) (k : Nat) (hk : QA.verditerlaw05_Long.f k t = some true) :
    Calls Try.prog 20 #[.slice A t.length c] w fun e w' => e = .returned (.bool true) ∧ Below w.heap.size w w' := by
  have hL := QA.verditerlaw05_Long.calls k A c t true w g hc hk
  clear g
  go_enter Try.func20, Try.ntmps20
  go_wp2_with fail
  refine hL.mono ?_
  rintro e w1 ⟨rfl, n1, rfl⟩
  go_wp2_with fail
  refine (known_at _).mono ?_
  rintro e w2 ⟨rfl, hb⟩
  have hB := (pw_below_drewN (Below.refl w.heap.size w) n1).trans hb
  go_wp2
  go_ret
  exact ⟨rfl, hB⟩
set_option maxRecDepth 100000 in
set_option maxHeartbeats 8000000 in
theorem sunBacks_no (A : Option Addr) (c : Nat) (t : List (List Int)) (w : World) (g : Kd.C (Kd.slice 3 (Kd.int .i64)) w A t.length t) (hc : t.length ≤ c) (k : Nat) (hk : QA.verditerlaw05_Long.f k t = some false) (hl : t.length ≤ 40) (hr : ∀ l ∈ t, l.length ≤ 40) (he : errV t ≠ 0) :
    Calls Try.prog 20 #[.slice A t.length c] w fun e w' => e = .returned (.bool true) ∧ Below w.heap.size w w' := by
  obtain ⟨kc, hkc⟩ := (Ev_copy (t := t) (fun l h => by have := hr l h; omega) (by omega)).rounds
  obtain ⟨ks, hks⟩ := (Ev_sameT (t := []) (by simp) (by simp)).rounds
  have hrb : QC.verditerref05_Back.f 0 t = some ([], errV t) := by simp only [QC.verditerref05_Back.f, verditerref05_Validate.f, Option.bind_some]; rw [if_neg he]
  have hsb : QC.sun_Back.f 0 t = some ([], errV t) := by simp only [QC.sun_Back.f, sun_Validate.f, Option.bind_some]; rw [if_neg he]
  have hL := QA.verditerlaw05_Long.calls k A c t false w g hc hk
  have hC := fun W (hW : Below w.heap.size w W) => QC.verditerref01_CopyTable.calls kc A c t t W (Kd.C_below g hW) hc hkc
  have hR := fun W (hW : Below w.heap.size w W) => QC.verditerref05_Back.calls 0 A c t [] (errV t) W (Kd.C_below g hW) hc hrb
  obtain ⟨v, hv⟩ : ∃ v, errV t = v := ⟨_, rfl⟩
  rw [hv] at hR hsb he
  have hvb : (v != 0) = true := bne_iff_ne.2 he
  have hvb2 : (v != v) = false := bne_self_eq_false v
  clear hv g hk hkc hrb
  go_enter Try.func20, Try.ntmps20
  go_wp2_with fail
  refine hL.mono ?_
  rintro e w1 ⟨rfl, n1, h1⟩
  have hb1 : Below w.heap.size w w1 := by subst h1; exact pw_below_drewN (Below.refl _ _) _
  clear h1 hL
  go_wp2_with fail
  refine (hC w1 hb1).mono ?_
  rintro e w2 ⟨v2, rfl, hS2, hb2⟩
  obtain ⟨K2, d2, rfl, hd2, hC2⟩ := Kd.S_reads hS2
  have hB2 := hb1.trans (hb2.mono hb1.size)
  clear hS2 hb2 hb1 hC
  go_wp2_with fail
  refine (hR w2 hB2).mono ?_
  rintro e w3 ⟨v3, rfl, hS3, hb3⟩
  obtain ⟨K3, d3, rfl, hd3, hC3⟩ := Kd.S_reads hS3
  have hB3 := hB2.trans (hb3.mono hB2.size)
  have hE2 := Kd.C_below hC2 hb3
  clear hS3 hb3 hB2 hC2 hR
  go_wp2_with fail
  refine (QC.sun_Back.calls 0 K2 d2 t [] v w3 hE2 hd2 hsb).mono ?_
  rintro e w4 ⟨v4, rfl, hS4, hb4⟩
  obtain ⟨K4, d4, rfl, hd4, hC4⟩ := Kd.S_reads hS4
  have hB4 := hB3.trans (hb4.mono hB3.size)
  have hE3 := Kd.C_below hC3 hb4
  clear hS4 hb4 hB3 hC3 hE2
  go_wp2_with fail
  refine (QC.verditerref01_SameTables.calls ks K4 d4 [] K3 d3 [] true w4 hC4 hd4 hE3 hd3 hks).mono ?_
  rintro e w5 ⟨rfl, n5, rfl⟩
  go_wp2_with fail
  refine (known_at _).mono ?_
  rintro e w6 ⟨rfl, hb6⟩
  have hB6 := hB4.trans (((pw_below_drewN (Below.refl w4.heap.size w4) n5).trans hb6).mono hB4.size)
  go_wp2
  go_ret
  exact ⟨rfl, hB6⟩
set_option maxRecDepth 100000 in
set_option maxHeartbeats 8000000 in
theorem sunBacks_yes (A : Option Addr) (c : Nat) (t : List (List Int)) (w : World) (g : Kd.C (Kd.slice 3 (Kd.int .i64)) w A t.length t) (hc : t.length ≤ c) (k : Nat) (hk : QA.verditerlaw05_Long.f k t = some false) (h : Right t) :
    Calls Try.prog 20 #[.slice A t.length c] w fun e w' => e = .returned (.bool true) ∧ Below w.heap.size w w' := by
  have hn := h.len
  have hp := h.pos
  obtain ⟨kc, hkc⟩ := (Ev_copy (t := t) h.rows (by omega)).rounds
  obtain ⟨ks, hks⟩ := (Ev_sameT (t := backT t) h.back.rows (by rw [backT_len]; omega)).rounds
  obtain ⟨kt, hkt⟩ := (Ev_sameT (t := t) h.rows (by omega)).rounds
  obtain ⟨kr, hkr⟩ := (Ev_refBack h).rounds
  obtain ⟨kb, hkb⟩ := (Ev_sunBack h).rounds
  obtain ⟨k1, hk1⟩ := (Ev_sunRings h (right_err h)).rounds
  obtain ⟨k2, hk2⟩ := (Ev_sunRings h.back (right_err h.back)).rounds
  have hf1 := sunFewest_yes (right_err h)
  have hf2 := sunFewest_yes (right_err h.back)
  rw [back_rings h] at hk2
  rw [back_least h] at hf2
  have hL := QA.verditerlaw05_Long.calls k A c t false w g hc hk
  have hC := fun W (hW : Below w.heap.size w W) => QC.verditerref01_CopyTable.calls kc A c t t W (Kd.C_below g hW) hc hkc
  have hR := fun W (hW : Below w.heap.size w W) => QC.verditerref05_Back.calls kr A c t (backT t) 0 W (Kd.C_below g hW) hc hkr
  have hG := fun W (hW : Below w.heap.size w W) => QA.sun_Rings.calls k1 A c t (ringsN t) 0 W (Kd.C_below g hW) hc hk1
  have hF := fun W (hW : Below w.heap.size w W) => QA.sun_Fewest.calls A c t (rankS t).2 0 W (Kd.C_below g hW) hc hf1
  have HG := Aside0.mk g
  have hrow0 : 0 < ((backT t).getD 0 []).length := by rw [h.back.row 0 (by rw [backT_len]; omega), backT_len]; omega
  have hpb : 0 < (backT t).length := by rw [backT_len]; omega
  generalize ringsN t = rn at *
  generalize (rankS t).2 = fn at *
  generalize backT t = u at *
  have HH := Aside0.mk h
  have HP := Aside0.mk hp
  clear g hk hkc hkr hk1 hf1 hn hp h
  go_enter Try.func20, Try.ntmps20
  go_wp2_with fail
  refine hL.mono ?_
  rintro e w1 ⟨rfl, n1, h1⟩
  have hb1 : Below w.heap.size w w1 := by subst h1; exact pw_below_drewN (Below.refl _ _) _
  clear h1 hL
  go_wp2_with fail
  refine (hC w1 hb1).mono ?_
  rintro e w2 ⟨v2, rfl, hS2, hb2⟩
  obtain ⟨K2, d2, rfl, hd2, hC2⟩ := Kd.S_reads hS2
  have hB2 := hb1.trans (hb2.mono hb1.size)
  clear hS2 hb2 hb1 hC
  go_wp2_with fail
  refine (hR w2 hB2).mono ?_
  rintro e w3 ⟨v3, rfl, hS3, hb3⟩
  obtain ⟨K3, d3, rfl, hd3, hC3⟩ := Kd.S_reads hS3
  have hB3 := hB2.trans (hb3.mono hB2.size)
  have hE2 := Kd.C_below hC2 hb3
  clear hS3 hb3 hB2 hC2 hR
  go_wp2_with fail
  refine (QC.sun_Back.calls kb K2 d2 t u 0 w3 hE2 hd2 hkb).mono ?_
  rintro e w4 ⟨v4, rfl, hS4, hb4⟩
  obtain ⟨K4, d4, rfl, hd4, hC4⟩ := Kd.S_reads hS4
  have hE3 := Kd.C_below hC3 hb4
  go_wp2_with fail
  refine (QC.verditerref01_SameTables.calls ks K4 d4 u K3 d3 u true w4 hC4 hd4 hE3 hd3 hks).mono ?_
  rintro e w5 ⟨rfl, n5, h5⟩
  have hb45 : Below w4.heap.size w4 w5 := by subst h5; exact pw_below_drewN (Below.refl _ _) _
  have hb5 := hb4.trans (hb45.mono hb4.size)
  have hS5 := Kd.S_below hS4 hb45
  clear h5 hE3 hC3 hb45 hS4 hb4 hC4
  go_wp2_with fail
  refine (QA.sun_Rings.calls k2 K4 d4 u rn 0 w5 (Kd.S_reads' hS5).2.2 hd4 hk2).mono ?_
  rintro e w6 ⟨rfl, hb⟩
  have hb6 := hb5.trans (hb.mono hb5.size)
  have hS6 := Kd.S_below hS5 hb
  clear hb hb5 hS5
  go_wp2_with fail
  refine (hG w6 (hB3.trans (hb6.mono hB3.size))).mono ?_
  rintro e w7 ⟨rfl, hb⟩
  have hb7 := hb6.trans (hb.mono hb6.size)
  have hS7 := Kd.S_below hS6 hb
  clear hb hb6 hS6 hG
  go_wp2_with fail
  refine (QA.sun_Fewest.calls K4 d4 u fn 0 w7 (Kd.S_reads' hS7).2.2 hd4 hf2).mono ?_
  rintro e w8 ⟨rfl, hb⟩
  have hb8 := hb7.trans (hb.mono hb7.size)
  have hS8 := Kd.S_below hS7 hb
  clear hb hb7 hS7
  go_wp2_with fail
  refine (hF w8 (hB3.trans (hb8.mono hB3.size))).mono ?_
  rintro e w9 ⟨rfl, hb⟩
  have hb9 := hb8.trans (hb.mono hb8.size)
  have hS9 := Kd.S_below hS8 hb
  clear hb hb8 hS8 hF
  cases K4 with
  | none =>
    have hC9 := (Kd.S_reads' hS9).2.2
    obtain ⟨_, _, _, e, _⟩ := at_rows hC9 0 hpb
    cases e
  | some ad =>
    obtain ⟨f, hRf⟩ := id hS9
    obtain ⟨gr, ga, ca, rfl, _, hne, hba, hrow⟩ := S_row hRf 0 hpb hrow0
    obtain ⟨⟨x0, hx0⟩, hfz, _⟩ := S_put hS9 0 hpb hrow 0 hrow0 9
    rw [add_at, Nat.zero_add] at hrow
    have hb10 : Below w3.heap.size w3 (w9.setCell ⟨ga, 0, none⟩ (.int .i64 9)) := hb9.setCell hba _
    have hB10 := hB3.trans (hb10.mono hB3.size)
    have hT := QC.verditerref01_SameTables.calls kt K2 d2 t A c t true _ (Kd.C_below hE2 hb10) hd2 (Kd.C_below HG.out hB10) hc hkt
    generalize (u.getD 0 []).length = ul at *
    clear hRf hS9 hb9
    have hz1 : (0 : Int) < (u.length : Int) := by omega
    have hz2 : (0 : Int) < (ul : Int) := by omega
    go_wp2_with fail
    refine hT.mono ?_
    rintro e w11 ⟨rfl, n11, h11⟩
    have hb11 : Below w.heap.size w w11 := by subst h11; exact pw_below_drewN hB10 _
    clear h11 hT
    go_wp2_with fail
    refine (known_at _).mono ?_
    rintro e w12 ⟨rfl, hb12⟩
    have hB12 := hb11.trans (hb12.mono hb11.size)
    go_wp2
    go_ret
    exact ⟨rfl, hB12⟩
theorem pureSunBacks {A : Option Addr} {n c : Nat} {T : List (List Int)} {W : World} (g : Kd.C (Kd.slice 3 (Kd.int .i64)) W A n T) (hf : ∀ l ∈ T, ∀ x ∈ l, (Lit.int .i64 x).wf = true) (hn : n ≤ c) :
    Calls Try.prog 20 #[.slice A n c] W fun e w' => e = .returned (.bool true) ∧ Below W.heap.size W w' := by
  obtain rfl : T.length = n := g.1
  obtain ⟨b, hb, hs⟩ := Ev_Long T g.2.1
  obtain ⟨k, hk⟩ := hb.rounds
  cases b with
  | true => exact sunBacks_long A c T W g hn k hk
  | false =>
    by_cases he : errV T = 0
    · exact sunBacks_yes A c T W g hn k hk (Right.of he)
    · exact sunBacks_no A c T W g hn k hk (hs rfl).1 (hs rfl).2 he
end Go.Proofs.Ytbnjffhcpkfnhaa.H
