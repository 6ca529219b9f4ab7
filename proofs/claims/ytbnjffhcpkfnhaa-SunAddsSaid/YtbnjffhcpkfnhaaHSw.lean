/- sun.Switch: the table with another answer to one comparison, in new memory. -/
import Derived.Test.YtbnjffhcpkfnhaaQC3
import Derived.Test.YtbnjffhcpkfnhaaHS
import Derived.BigRegion
namespace Go.Proofs.Ytbnjffhcpkfnhaa.H
open Go.RowKit Go.Shelf Go.Proofs.YtbnjffhcpkfnhaaW.PrintWords Go.Proofs.YtbnjffhcpkfnhaaW.PrintLast Go.Proofs.YtbnjffhcpkfnhaaW.PrintMore
set_option linter.unusedVariables false

theorem rdC_nat (xs : List (List Int)) (i : Nat) : QC.rd_L1 xs (i : Int) = xs.getD i [] := by simp [QC.rd_L1]
theorem Ev_clone {t : List (List Int)} (h : Right t) : Ev (fun k => QC.sun_clone.f k t) t := by
  have hn := h.len
  have l0 : ∀ d i, i + d = t.length → Ev (fun k => QC.sun_clone.l0 k (t.take i) t (t.length : Int) (i : Int)) t := by
    intro d
    induction d with
    | zero =>
      intro i hi
      refine Ev.step (fun k => by simp only [QC.sun_clone.l0]; rw [if_neg (by omega)]) ?_
      rw [List.take_of_length_le (by omega)]
      exact Ev.now _
    | succ d ih =>
      intro i hi
      have hi' : i < t.length := by omega
      have hr := h.row i hi'
      refine Ev.step (fun k => ?_) (ih (i + 1) (by omega))
      simp only [QC.sun_clone.l0]
      rw [if_pos (by omega), if_pos (by omega), if_pos (by omega), rdC_nat, slices_Clone_int_int.f, if_pos (by omega), Option.bind_some, if_pos (by rw [List.length_take]; omega), wrap_nat (n := t.length) hi' (by omega)]
      congr 1
      rw [List.take_add_one, List.getD_eq_getElem?_getD, List.getElem?_eq_getElem hi']
      rfl
  exact l0 t.length 0 (by omega)

def swT (t : List (List Int)) (a b : Nat) : List (List Int) := (t.set a ((t.getD a []).set b (ent t b a))).set b ((t.getD b []).set a (ent t a b))
def switchV (t : List (List Int)) (a b : Int) : Int := if errV t = 0 then (if a < 0 ∨ (t.length : Int) ≤ a ∨ b < 0 ∨ (t.length : Int) ≤ b then 4 else if a = b then 1 else 0) else errV t
def sun_Switch.f (t : List (List Int)) (a b : Int) : Option (List (List Int) × Int) := some (if switchV t a b = 0 then swT t a.toNat b.toNat else [], switchV t a b)

theorem S_row {W : World} {base n cap : Nat} {ad : Addr} {t : List (List Int)} {f : Nat → Nat} (hR : (Kd.tag f (Kd.slice 3 (Kd.int .i64))).R 27 W base (fun _ => True) (.slice (some ad) n cap) t.zipIdx) (a : Nat) (ha : a < n) (hr : 0 < (t.getD a []).length) :
    ∃ g ga ca, ad = ⟨g, 0, none⟩ ∧ f ga = a ∧ ga ≠ g ∧ base ≤ ga ∧ W.cell? (ad.add a) = some (.slice (some ⟨ga, 0, none⟩) (t.getD a []).length ca) := by
  obtain ⟨g, rfl⟩ := Kd.R_head hR
  have hl := (Kd.R_reads' hR).1
  rw [List.length_zipIdx] at hl
  obtain ⟨c, hcl, hM, hcc⟩ := Kd.R_getA hR ([], 0) (a : Int) (by omega) (by omega)
  have e : t.zipIdx.getD a ([], 0) = (t.getD a [], a) := by
    rw [List.getD_eq_getElem?_getD, List.getElem?_zipIdx, List.getD_eq_getElem?_getD, List.getElem?_eq_getElem (by omega)]
    simp
  rw [Int.toNat_natCast, e] at hM
  obtain ⟨va, rfl, gea⟩ := hM
  have hva := hcc 0 _ rfl
  rw [Int.toNat_natCast] at hva
  replace gea := (show Kd.R (Kd.int .i64) 3 _ _ _ _ (t.getD a []) from gea)
  obtain ⟨ga, ca, rfl, hga, hgl, _⟩ := Kd.R_form gea hr
  have h1 := gea.1 ga rfl
  have e1 : (Kd.tag f (Kd.slice 3 (Kd.int .i64))).sz = 1 := rfl
  rw [e1, Nat.mul_one, Nat.add_zero] at hva
  exact ⟨g, ga, ca, rfl, h1.2, fun e => h1.1.2 (by rw [e]; rfl), hga, hva⟩
theorem S_put {W : World} {base n cap : Nat} {ad : Addr} {t : List (List Int)} (h : Kd.S (Kd.slice 3 (Kd.int .i64)) 27 W base (fun _ => True) (.slice (some ad) n cap) t) (a : Nat) (ha : a < n) {ga ca : Nat} (hrow : W.cell? (ad.add a) = some (.slice (some ⟨ga, 0, none⟩) (t.getD a []).length ca)) (ka : Nat) (hka : ka < (t.getD a []).length) (x : Int) :
    (∃ u, W.cell? ⟨ga, ka, none⟩ = some u) ∧ W.frozen? ⟨ga, ka, none⟩ = false ∧ Kd.S (Kd.slice 3 (Kd.int .i64)) 27 (W.setCell ⟨ga, ka, none⟩ (.int .i64 x)) base (fun _ => True) (.slice (some ad) n cap) (t.set a ((t.getD a []).set ka x)) := by
  obtain ⟨oka, ce, hcl, hM, hcc, hok, hbk⟩ := Kd.S_borrow h [] (a : Int) (by omega) (by omega)
  obtain ⟨va, rfl, gea⟩ := hM
  have hva := hcc 0 _ rfl
  have e1 : (Kd.slice 3 (Kd.int .i64)).sz = 1 := rfl
  rw [Int.toNat_natCast] at gea hva
  rw [e1, Nat.mul_one, Nat.add_zero, hrow] at hva
  replace gea := (show Kd.R (Kd.int .i64) 3 _ _ _ _ (t.getD a []) from gea)
  obtain rfl := Option.some.inj hva
  obtain ⟨xa, fa⟩ := Kd.R_celln 0 gea (ka : Int) (by omega) (by omega)
  rw [Int.toNat_natCast] at xa fa
  obtain ⟨HP1, HP2⟩ := Kd.R_putg gea (ka : Int) x
  have HSa := hbk HP2 (fun k_ e_ => by injection e_ with e_; subst e_; exact gea.1 _ rfl) (x' := (t.getD a []).set (ka : Int).toNat x) (Kd.M_row HP1)
  rw [Int.toNat_natCast, Int.toNat_natCast] at HSa
  exact ⟨⟨_, xa⟩, fa, HSa⟩
theorem S_two {W : World} {base n cap : Nat} {ad : Addr} {t : List (List Int)} (h : Kd.S (Kd.slice 3 (Kd.int .i64)) 27 W base (fun _ => True) (.slice (some ad) n cap) t) (a b : Nat) (hab : a ≠ b) (ha : a < n) (hb : b < n) (x y : Int) (ka kb : Nat) (hka : ka < (t.getD a []).length) (hkb : kb < (t.getD b []).length) :
    ∃ g ga ca gb cb, ad = ⟨g, 0, none⟩ ∧ ga ≠ gb ∧ ga ≠ g ∧ gb ≠ g ∧ base ≤ ga ∧ base ≤ gb ∧ W.cell? ⟨g, a, none⟩ = some (.slice (some ⟨ga, 0, none⟩) (t.getD a []).length ca) ∧ W.cell? ⟨g, b, none⟩ = some (.slice (some ⟨gb, 0, none⟩) (t.getD b []).length cb) ∧
      (∃ u, W.cell? ⟨ga, ka, none⟩ = some u) ∧ (∃ u, W.cell? ⟨gb, kb, none⟩ = some u) ∧ W.frozen? ⟨ga, ka, none⟩ = false ∧ W.frozen? ⟨gb, kb, none⟩ = false ∧
      Kd.S (Kd.slice 3 (Kd.int .i64)) 27 ((W.setCell ⟨ga, ka, none⟩ (.int .i64 x)).setCell ⟨gb, kb, none⟩ (.int .i64 y)) base (fun _ => True) (.slice (some ad) n cap) ((t.set a ((t.getD a []).set ka x)).set b ((t.getD b []).set kb y)) := by
  have hn : t.length = n := (Kd.S_reads' h).1.symm
  obtain ⟨f, hR⟩ := h
  obtain ⟨g, ga, ca, rfl, fa, hga, hba, rowa⟩ := S_row hR a ha (by omega)
  obtain ⟨g', gb, cb, e, fb, hgb, hbb, rowb⟩ := S_row hR b hb (by omega)
  cases e
  have hne : ga ≠ gb := fun e => hab (by rw [← fa, ← fb, e])
  have h : Kd.S (Kd.slice 3 (Kd.int .i64)) 27 W base (fun _ => True) (.slice (some ⟨g, 0, none⟩) n cap) t := ⟨f, hR⟩
  obtain ⟨ua, za, Ha⟩ := S_put h a ha rowa ka hka x
  obtain ⟨ub, zb, _⟩ := S_put h b hb rowb kb hkb y
  have eb : (t.set a ((t.getD a []).set ka x)).getD b [] = t.getD b [] := by
    rw [List.getD_eq_getElem?_getD, List.getElem?_set_ne hab, ← List.getD_eq_getElem?_getD]
  have rowb' : (W.setCell ⟨ga, ka, none⟩ (.int .i64 x)).cell? (Addr.add ⟨g, 0, none⟩ b) = some (.slice (some ⟨gb, 0, none⟩) (t.getD b []).length cb) := by
    rw [add_at, Nat.zero_add] at rowb ⊢
    exact (World.cell?_setCell_other (w := W) (a := ⟨ga, ka, none⟩) (b := ⟨g, b, none⟩) (v := .int .i64 x) (by intro e; injection e with e; exact hga e)).trans rowb
  obtain ⟨_, _, Hb⟩ := S_put Ha b hb (by rw [eb]; exact rowb') kb (by rw [eb]; exact hkb) y
  rw [eb] at Hb
  have ra : W.cell? ⟨g, a, none⟩ = some (.slice (some ⟨ga, 0, none⟩) (t.getD a []).length ca) := by rw [add_at, Nat.zero_add] at rowa; exact rowa
  have rb : W.cell? ⟨g, b, none⟩ = some (.slice (some ⟨gb, 0, none⟩) (t.getD b []).length cb) := by rw [add_at, Nat.zero_add] at rowb; exact rowb
  exact ⟨g, ga, ca, gb, cb, rfl, hne, hga, hgb, hba, hbb, ra, rb, ua, ub, za, zb, Hb⟩

set_option maxRecDepth 100000 in
set_option maxHeartbeats 8000000 in
theorem sun_Switch.calls_yes (A0 : Option Addr) (c0 : Nat) (l0 : List (List Int)) (a b : Nat) (w : World) (hr0 : Kd.C (Kd.slice 3 (Kd.int .i64)) w A0 l0.length l0) (hc0 : l0.length ≤ c0) (he : errV l0 = 0) (ha : a < l0.length) (hb : b < l0.length) (hab : a ≠ b) :
    Calls Try.prog 51 #[.slice A0 l0.length c0, .int .i64 a, .int .i64 b] w fun e w' => ∃ v0_ : Value, e = .returned (.tuple #[v0_, .int .i64 0]) ∧ Kd.S (Kd.slice 3 (Kd.int .i64)) 27 w' w.heap.size (fun _ => True) v0_ (swT l0 a b) ∧ Below w.heap.size w w' := by
  have h := Right.of he
  have HRt := Aside0.mk h
  have HR0 := Aside0.mk hr0
  obtain ⟨kc, hkc⟩ := (Ev_clone h).rounds
  have HV := fun W (hW : Below w.heap.size w W) => sun_Validate.calls A0 c0 l0 0 W (Kd.C_below hr0 hW) hc0 (by unfold sun_Validate.f; rw [he])
  have HCl := fun W (hW : Below w.heap.size w W) => QC.sun_clone.calls kc A0 c0 l0 l0 W (Kd.C_below hr0 hW) hc0 hkc
  have haz : (a : Int) < (l0.length : Int) := by omega
  have hbz : (b : Int) < (l0.length : Int) := by omega
  have habz : ((a : Int) == (b : Int)) = false := beq_eq_false_iff_ne.2 (by omega)
  have habz2 : (a == b) = false := beq_eq_false_iff_ne.2 hab
  obtain ⟨R, hR⟩ : ∃ R, R = swT l0 a b := ⟨_, rfl⟩
  have HSW := Aside0.mk hR
  rw [← hR]
  clear h he hkc hr0 hR
  go_enter Try.func51, Try.ntmps51
  go_wp2_with fail
  refine (HV _ (Below.refl _ _)).mono ?_
  rintro e w1 ⟨rfl, n1, h1⟩
  have hb1 : Below w.heap.size w w1 := by subst h1; exact pw_below_drewN (Below.refl _ _) _
  clear h1 HV
  go_wp2_with fail
  refine (HCl _ hb1).mono ?_
  rintro e w2 ⟨v, rfl, hS, hb2⟩
  have HB2 := Aside0.mk (hb1.trans (hb2.mono hb1.size))
  have hS2 := Kd.S_lower hS hb1.size
  obtain ⟨K, d, rfl, hd, hC2⟩ := Kd.S_reads hS
  clear HCl hS hb2 hb1
  cases K with
  | none =>
    obtain ⟨_, _, _, e, _⟩ := at_rows hC2 a ha
    cases e
  | some ad =>
    clear hC2
    have ra := HRt.out.row a ha
    have rb := HRt.out.row b hb
    obtain ⟨g, ga, ca, gb, cb, rfl, hne, hga, hgb, hba, hbb, rowa, rowb, ⟨ua, cua⟩, ⟨ub, cub⟩, fa, fb, HS⟩ := S_two hS2 a b hab ha hb (ent l0 b a) (ent l0 a b) b a (by omega) (by omega)
    obtain ⟨adT, Aa, ca', rfl, hrowa, hca', hrda⟩ := at_rows HR0.out a ha
    obtain ⟨adT', Ab, cb', e', hrowb, hcb', hrdb⟩ := at_rows HR0.out b hb
    cases e'
    rw [ra] at rowa hrowa hrda
    rw [rb] at rowb hrowb hrdb
    obtain ⟨ada, rfl, hxa⟩ := at_ints hrda b hb
    obtain ⟨adb, rfl, hxb⟩ := at_ints hrdb a ha
    have hB := HB2.out
    replace hrowa := (hB.cell (World.block_lt_of_cell? w _ hrowa)).trans hrowa
    replace hrowb := (hB.cell (World.block_lt_of_cell? w _ hrowb)).trans hrowb
    replace hxa := (hB.cell (World.block_lt_of_cell? w _ hxa)).trans hxa
    replace hxb := (hB.cell (World.block_lt_of_cell? w _ hxb)).trans hxb
    have HS2 := Aside0.mk HS
    have hne2 : gb ≠ ga := fun e => hne e.symm
    rw [show (l0.set a ((l0.getD a []).set b (ent l0 b a))).set b ((l0.getD b []).set a (ent l0 a b)) = R from HSW.out.symm] at HS2
    unfold ent at HS2
    clear HSW
    clear hS2 HS hB hrda hrdb ra rb hca' hcb'
    generalize (l0.getD a []).getD b 0 = x at *
    generalize (l0.getD b []).getD a 0 = y at *
    go_wp2
    go_region
    go_wp2
    go_ret2
    exact ⟨_, rfl, Kd.S_drew HS2.out, below_drew ((HB2.out.setCell hba _).setCell hbb _)⟩
theorem sun_Switch.calls_no (A0 : Option Addr) (c0 : Nat) (l0 : List (List Int)) (a b : Int) (w : World) (hr0 : Kd.C (Kd.slice 3 (Kd.int .i64)) w A0 l0.length l0) (hc0 : l0.length ≤ c0) (he : switchV l0 a b ≠ 0) :
    Calls Try.prog 51 #[.slice A0 l0.length c0, .int .i64 a, .int .i64 b] w fun e w' => e = .returned (.tuple #[.slice none 0 0, .int .i64 (switchV l0 a b)]) ∧ Below w.heap.size w w' := by
  have HV := fun W (hW : Below w.heap.size w W) => sun_Validate.calls A0 c0 l0 (errV l0) W (Kd.C_below hr0 hW) hc0 rfl
  clear hr0
  by_cases h0 : errV l0 = 0
  · have hsv : switchV l0 a b = if a < 0 ∨ (l0.length : Int) ≤ a ∨ b < 0 ∨ (l0.length : Int) ≤ b then 4 else if a = b then 1 else 0 := by unfold switchV; rw [if_pos h0]
    rw [h0] at HV
    by_cases ho : a < 0 ∨ (l0.length : Int) ≤ a ∨ b < 0 ∨ (l0.length : Int) ≤ b
    · rw [if_pos ho] at hsv
      rw [hsv]
      have hd : (decide (a < 0) || decide ((l0.length : Int) ≤ a) || decide (b < 0) || decide ((l0.length : Int) ≤ b)) = true := by
        simp only [Bool.or_eq_true, decide_eq_true_eq]
        rcases ho with h | h | h | h
        · exact .inl (.inl (.inl h))
        · exact .inl (.inl (.inr h))
        · exact .inl (.inr h)
        · exact .inr h
      clear hsv he h0
      go_enter Try.func51, Try.ntmps51
      go_wp2_with fail
      refine (HV _ (Below.refl _ _)).mono ?_
      rintro e w1 ⟨rfl, n1, rfl⟩
      clear HV
      by_cases h1 : a < 0
      · have h1b : decide (a < 0) = true := decide_eq_true h1
        clear ho hd
        go_wp2
        go_ret2
        exact ⟨rfl, pw_below_drewN (Below.refl _ _) _⟩
      · by_cases h2 : (l0.length : Int) ≤ a
        · have h1b : decide (a < 0) = false := decide_eq_false h1
          have h2b : decide ((l0.length : Int) ≤ a) = true := decide_eq_true h2
          clear ho hd
          go_wp2
          go_ret2
          exact ⟨rfl, pw_below_drewN (Below.refl _ _) _⟩
        · by_cases h3 : b < 0
          · have h1b : decide (a < 0) = false := decide_eq_false h1
            have h2b : decide ((l0.length : Int) ≤ a) = false := decide_eq_false h2
            have h3b : decide (b < 0) = true := decide_eq_true h3
            clear ho hd
            go_wp2
            go_ret2
            exact ⟨rfl, pw_below_drewN (Below.refl _ _) _⟩
          · have h4 : (l0.length : Int) ≤ b := by omega
            have h1b : decide (a < 0) = false := decide_eq_false h1
            have h2b : decide ((l0.length : Int) ≤ a) = false := decide_eq_false h2
            have h3b : decide (b < 0) = false := decide_eq_false h3
            have h4b : decide ((l0.length : Int) ≤ b) = true := decide_eq_true h4
            clear ho hd
            go_wp2
            go_ret2
            exact ⟨rfl, pw_below_drewN (Below.refl _ _) _⟩
    · rw [if_neg ho] at hsv
      by_cases hab : a = b
      · rw [if_pos hab] at hsv
        rw [hsv]
        subst hab
        have h1b : decide (a < 0) = false := decide_eq_false (by omega)
        have h2b : decide ((l0.length : Int) ≤ a) = false := decide_eq_false (by omega)
        have h3b : (a == a) = true := beq_self_eq_true a
        have h3 : ¬ a < 0 := by omega
        have h4 : ¬ (l0.length : Int) ≤ a := by omega
        clear hsv he h0 ho
        go_enter Try.func51, Try.ntmps51
        go_wp2_with fail
        refine (HV _ (Below.refl _ _)).mono ?_
        rintro e w1 ⟨rfl, n1, rfl⟩
        clear HV
        go_wp2
        go_ret2
        exact ⟨rfl, pw_below_drewN (Below.refl _ _) _⟩
      · rw [if_neg hab] at hsv
        exact absurd hsv he
  · have hsv : switchV l0 a b = errV l0 := by unfold switchV; rw [if_neg h0]
    rw [hsv]
    generalize errV l0 = v at *
    have hvb : (v != 0) = true := bne_iff_ne.2 h0
    clear hsv he
    go_enter Try.func51, Try.ntmps51
    go_wp2_with fail
    refine (HV _ (Below.refl _ _)).mono ?_
    rintro e w1 ⟨rfl, n1, rfl⟩
    clear HV
    go_wp2
    go_ret2
    exact ⟨rfl, pw_below_drewN (Below.refl _ _) _⟩
theorem sun_Switch.calls (A0 : Option Addr) (c0 : Nat) (l0 : List (List Int)) (a1 : Int) (a2 : Int) (r1 : List (List Int)) (r2 : Int) (w : World) (hr0 : Kd.C (Kd.slice 3 (Kd.int .i64)) w A0 l0.length l0) (hc0 : l0.length ≤ c0) (h : sun_Switch.f l0 a1 a2 = some (r1, r2)) :
    Calls Try.prog 51 #[.slice A0 l0.length c0, .int .i64 a1, .int .i64 a2] w fun e w' => ∃ v0_ : Value, e = .returned (.tuple #[v0_, .int .i64 r2]) ∧ Kd.S (Kd.slice 3 (Kd.int .i64)) 27 w' w.heap.size (fun _ => True) v0_ r1 ∧ Below w.heap.size w w' := by
  unfold sun_Switch.f at h
  obtain ⟨h1, h2⟩ := Prod.mk.inj (Option.some.inj h)
  by_cases hv : switchV l0 a1 a2 = 0
  · rw [if_pos hv] at h1
    have hv2 := hv
    unfold switchV at hv2
    by_cases he : errV l0 = 0
    · rw [if_pos he] at hv2
      by_cases ho : a1 < 0 ∨ (l0.length : Int) ≤ a1 ∨ a2 < 0 ∨ (l0.length : Int) ≤ a2
      · rw [if_pos ho] at hv2; cases hv2
      · rw [if_neg ho] at hv2
        by_cases hab : a1 = a2
        · rw [if_pos hab] at hv2; cases hv2
        · obtain ⟨a, rfl⟩ := Int.eq_ofNat_of_zero_le (show 0 ≤ a1 by omega)
          obtain ⟨b, rfl⟩ := Int.eq_ofNat_of_zero_le (show 0 ≤ a2 by omega)
          rw [Int.toNat_natCast, Int.toNat_natCast] at h1
          subst h1
          rw [hv] at h2
          subst h2
          exact sun_Switch.calls_yes A0 c0 l0 a b w hr0 hc0 he (by omega) (by omega) (fun e => hab (by rw [e]))
    · rw [if_neg he] at hv2; exact absurd hv2 he
  · rw [if_neg hv] at h1
    subst h1
    subst h2
    exact (sun_Switch.calls_no A0 c0 l0 a1 a2 w hr0 hc0 hv).mono fun _ _ ⟨he, hb⟩ => ⟨_, he, Kd.S_nil _ _ _ _ _, hb⟩
end Go.Proofs.Ytbnjffhcpkfnhaa.H
