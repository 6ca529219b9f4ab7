/- sun.Row: each strip is put before the first one that it beats. -/
import Derived.Test.YtbnjffhcpkfnhaaHIn
import Derived.Test.YtbnjffhcpkfnhaaHS
namespace Go.Proofs.Ytbnjffhcpkfnhaa.H
open Go.RowKit Go.Shelf Go.Proofs.YtbnjffhcpkfnhaaW.PrintWords Go.Proofs.YtbnjffhcpkfnhaaW.PrintLast Go.Proofs.YtbnjffhcpkfnhaaW.PrintMore
set_option linter.unusedVariables false

def hitsB (t : List (List Int)) (i : Nat) (p : Int) : Bool := decide (ent t i p.toNat = 1)
def placeR (t : List (List Int)) (i : Nat) (l : List Int) : Nat := if idxF (hitsB t i) l < 0 then l.length else (idxF (hitsB t i) l).toNat
def rowTo (t : List (List Int)) : Nat → List Int
  | 0 => []
  | i + 1 => insL (rowTo t i) (placeR t i (rowTo t i)) i
theorem idxF_range (p : Int → Bool) (l : List Int) : idxF p l < l.length := by
  unfold idxF
  split
  · rename_i i h
    obtain ⟨hi, _⟩ := List.findIdx?_eq_some_iff_getElem.1 h
    omega
  · omega
theorem placeR_le (t : List (List Int)) (i : Nat) (l : List Int) : placeR t i l ≤ l.length := by
  have := idxF_range (hitsB t i) l
  unfold placeR
  split <;> omega
theorem rowTo_len (t : List (List Int)) : ∀ i, (rowTo t i).length = i
  | 0 => rfl
  | i + 1 => by rw [rowTo, insL_len _ _ _ (placeR_le _ _ _), rowTo_len t i]
theorem rowTo_mem (t : List (List Int)) : ∀ i x, x ∈ rowTo t i → 0 ≤ x ∧ x < (i : Int)
  | 0, x, h => by cases h
  | i + 1, x, h => by
    unfold rowTo insL at h
    rcases List.mem_append.1 h with h | h
    · have := rowTo_mem t i x (List.mem_of_mem_take h); omega
    · rcases List.mem_cons.1 h with h | h
      · omega
      · have := rowTo_mem t i x (List.mem_of_mem_drop h); omega
def rowL (t : List (List Int)) : List Int := rowTo t t.length
def sun_Row.f (t : List (List Int)) : Option (List Int × Int) := some (if errV t = 0 then (rowL t, 0) else ([], errV t))
/-- The test that is handed to IndexFunc. -/
theorem Row_1.calls (B D : Nat) (A0 : Option Addr) (c0 : Nat) (t : List (List Int)) (i : Nat) (x : Int) (w : World) (h : Right t) (hi : i < t.length) (hx : 0 ≤ x ∧ x < (t.length : Int)) (hr : Kd.C (Kd.slice 3 (Kd.int .i64)) w A0 t.length t) (bT : Boxed w B 22 (.slice A0 t.length c0)) (bI : Boxed w D 3 (.int .i64 i)) :
    Calls Try.prog 93 #[.int .i64 x, .pointer (some ⟨B, 0, none⟩), .pointer (some ⟨D, 0, none⟩)] w fun e w' => e = .returned (.bool (hitsB t i x)) ∧ w' = w := by
  obtain ⟨y, rfl⟩ := Int.eq_ofNat_of_zero_le hx.1
  have hy : y < t.length := by omega
  have hyz : (y : Int) < (t.length : Int) := by omega
  have hiz : (i : Int) < (t.length : Int) := by omega
  obtain ⟨ad, A1, c1, rfl, hrow, _, hrd⟩ := at_rows hr i hi
  rw [h.row i hi] at hrow hrd
  obtain ⟨ad1, rfl, hc⟩ := at_ints hrd y hy
  have cT := bT.cell
  have cI := bI.cell
  have hb := h.bit i y
  have HH : Aside0 (hitsB t i (y : Int) = decide (ent t i y = 1)) := ⟨by unfold hitsB; rw [Int.toNat_natCast]⟩
  unfold ent at hb HH
  rw [HH.out]
  generalize (t.getD i []).getD y 0 = b at *
  clear hrd hr bT bI h HH
  rcases hb with rfl | rfl
  · go_enter Try.func93, Try.ntmps93
    go_wp2
    repeat (go_quiet (fail); try go_wp2)
    go_ret
    exact ⟨rfl, rfl⟩
  · go_enter Try.func93, Try.ntmps93
    go_wp2
    repeat (go_quiet (fail); try go_wp2)
    go_ret
    exact ⟨rfl, rfl⟩

set_option maxRecDepth 100000 in
set_option maxHeartbeats 8000000 in
theorem sun_Row.calls_yes (A0 : Option Addr) (c0 : Nat) (l0 : List (List Int)) (w : World) (hr0 : Kd.C (Kd.slice 3 (Kd.int .i64)) w A0 l0.length l0) (hc0 : l0.length ≤ c0) (he : errV l0 = 0) :
    Calls Try.prog 64 #[.slice A0 l0.length c0] w fun e w' => ∃ v0_ : Value, e = .returned (.tuple #[v0_, .int .i64 0]) ∧ Kd.R (Kd.int .i64) 3 w' w.heap.size (fun _ => True) v0_ (rowL l0) ∧ Below w.heap.size w w' := by
  have HRt := Aside0.mk (Right.of he)
  have HR0 := Aside0.mk hr0
  have h7 : l0.length ≤ 7 := errV_len he
  have HV := fun W (hW : Below w.heap.size w W) => sun_Validate.calls A0 c0 l0 0 W (Kd.C_below hr0 hW) hc0 (by unfold sun_Validate.f; rw [he])
  have eg : ∀ args w, (callFunc 93 args).run Try.prog w = .ok (.enter 93 args) w := fun args w => by kernel_rfl
  have EG := Aside0.mk eg
  clear he hr0 eg
  go_enter Try.func64, Try.ntmps64
  go_wp2_with fail
  have hb1 : Below w.heap.size w (w.alloc (.cells #[.slice A0 l0.length c0] 22)) := (Below.refl _ w).alloc (Nat.le_refl _) _
  have bT := Boxed.new w 22 (.slice A0 l0.length c0)
  have hsz : (w.alloc (.cells #[.slice A0 l0.length c0] 22)).heap.size = w.heap.size + 1 := World.size_alloc _ _
  refine (HV _ hb1).mono ?_
  rintro e w1 ⟨rfl, n1, h1⟩
  have hbw1 : Below (w.heap.size + 1) (w.alloc (.cells #[.slice A0 l0.length c0] 22)) w1 := by subst h1; exact pw_below_drewN (Below.refl _ _) _
  have hB1 : Below w.heap.size w w1 := by subst h1; exact pw_below_drewN hb1 _
  have bT1 : Boxed w1 w.heap.size 22 (.slice A0 l0.length c0) := by subst h1; exact bT
  have hs1 : w1.heap.size = w.heap.size + 1 := by subst h1; exact hsz
  have HB1 := Aside0.mk hB1
  have HBT := Aside0.mk bT1
  have HS1 := Aside0.mk hs1
  have cT := bT1.cell
  clear HV h1 hb1 bT hsz hbw1 hB1 bT1 hs1
  go_wp2
  go_loopw [5, 15] (fun s5 s15 wr => ∃ i : Nat, i ≤ l0.length ∧ s15 = .int .i64 i ∧ Aside0 (wr.ownsRow (w.heap.size + 1) 3 1 s5 (rowTo l0 i).length (nums .i64 (rowTo l0 i))) ∧ Aside0 (Below (w.heap.size + 1) w1 wr)) (fun _ s15 _ => l0.length - (intOf s15).toNat)
  case atStart => exact ⟨0, Nat.zero_le _, rfl, ⟨own_nil _ _ _ _⟩, ⟨Below.refl _ _⟩⟩
  case round =>
    obtain ⟨i, hi, rfl, HO, HB⟩ := hrel
    by_cases hlt : i < l0.length
    · have hltz : (i : Int) < (l0.length : Int) := by omega
      go_wp2_with fail
      have hRl := rowTo_len l0 i
      have hmem := rowTo_mem l0 i
      obtain ⟨A5, c5, hu5, hc5, hC5⟩ := Kd.R_reads (Kd.R_of_own (ok := fun _ => True) HO.out (fun _ _ => trivial))
      have hgrow : w1.heap.size ≤ wr.heap.size := HB.out.size
      have hs1 := HS1.out
      have hBT : Boxed wr w.heap.size 22 (.slice A0 l0.length c0) := (HB.out.block _ (by omega)).trans HBT.out
      have hBw : Below w.heap.size w wr := HB1.out.trans (HB.out.mono (by omega))
      have bI := Boxed.new wr 3 (.int .i64 (i : Int))
      have bT2 := hBT.alloc (.cells #[.int .i64 (i : Int)] 3)
      have hBa : Below wr.heap.size wr (wr.alloc (.cells #[.int .i64 (i : Int)] 3)) := (Below.refl _ _).alloc (Nat.le_refl _) _
      have hO2 := pw_own_below HO.out hBa
      obtain ⟨W, hW⟩ : ∃ W, W = wr.alloc (.cells #[.int .i64 (i : Int)] 3) := ⟨_, rfl⟩
      rw [← hW] at bI bT2 hBa hO2
      have hCt : Kd.C (Kd.slice 3 (Kd.int .i64)) W A0 l0.length l0 := Kd.C_below HR0.out (hBw.trans (hBa.mono hBw.size))
      have hI := slices_IndexFunc.calls (hitsB l0 i) 93 #[.pointer (some ⟨w.heap.size, 0, none⟩), .pointer (some ⟨wr.heap.size, 0, none⟩)] EG.out A5 c5 (rowTo l0 i) W (Kd.C_below hC5 hBa)
        (fun x q hx => (Row_1.calls w.heap.size wr.heap.size A0 c0 l0 i x (W.drewN q) HRt.out hlt (by have := hmem x hx; omega) (Kd.C_below hCt (pw_below_drewN (Below.refl _ _) q)) bT2 bI).mono fun _ _ ⟨h1, h2⟩ => ⟨h1, 0, by rw [h2]; rfl⟩)
      have HP := Aside0.mk (show placeR l0 i (rowTo l0 i) = if idxF (hitsB l0 i) (rowTo l0 i) < 0 then (rowTo l0 i).length else (idxF (hitsB l0 i) (rowTo l0 i)).toNat from rfl)
      have hk := idxF_range (hitsB l0 i) (rowTo l0 i)
      have hpl := placeR_le l0 i (rowTo l0 i)
      have HN := Aside0.mk (show rowTo l0 (i + 1) = insL (rowTo l0 i) (placeR l0 i (rowTo l0 i)) i from rfl)
      have HO2 := Aside0.mk hO2
      have HBa := Aside0.mk hBa
      have HBI := Aside0.mk bI
      clear hO2 hBT bT2 hC5 hCt hmem
      generalize rowTo l0 i = l at *
      generalize placeR l0 i l = pl at *
      generalize idxF (hitsB l0 i) l = k at *
      subst hu5
      rw [← hW]
      refine hI.mono ?_
      rintro e W2 ⟨rfl, q, hq⟩
      have hBq : Below W.heap.size W W2 := by rw [hq]; exact pw_below_drewN (Below.refl _ _) _
      have hO3 := Aside0.mk (pw_own_below HO2.out hBq)
      have bI2 : Boxed W2 wr.heap.size 3 (.int .i64 (i : Int)) := (hBq.block _ HBI.out.lt).trans HBI.out
      have cI := bI2.cell
      have hszW : W.heap.size = wr.heap.size + 1 := by rw [hW]; exact World.size_alloc _ _
      have hsz2 : W.heap.size ≤ W2.heap.size := hBq.size
      have HB2 := Aside0.mk (HB.out.trans ((HBa.out.trans (hBq.mono HBa.out.size)).mono (by omega)))
      have HINS := Aside0.mk (fun (args : Array Value) (k' : Int) (hk' : k' = (pl : Int)) (ha : args = #[.slice A5 i c5, .int .i64 k', .slice (some ⟨W2.heap.size, 0, none⟩) 1 1]) => show Calls Try.prog 94 args (W2.alloc (.cells #[.int .i64 (i : Int)] 3)) (fun e w' => ∃ v', e = .returned v' ∧ w'.ownsRow (w.heap.size + 1) 3 1 v' (insL l pl i).length (nums .i64 (insL l pl i)) ∧ Below (w.heap.size + 1) W2 w') from by
        subst hk' ha
        have := insert_one (w.heap.size + 1) (.slice A5 l.length c5) l pl (i : Int) W2 hO3.out (by omega) hpl (by omega)
        rwa [hRl] at this)
      clear hI hq hBq HBI HO HO2 HBa bI2
      by_cases hk0 : k < 0
      · have hp : pl = l.length := by rw [HP.out, if_pos hk0]
        subst hp
        have hkb : decide (k < 0) = true := decide_eq_true hk0
        clear hk
        go_wp2_with fail
        refine (HINS.out _ _ (by simp only [hRl]) rfl).mono ?_
        rintro e W3 ⟨v', rfl, hO4, hB4⟩
        have hB5 := Aside0.mk (HB2.out.trans hB4)
        have hO5 := Aside0.mk hO4
        clear hO4 hB4 HINS HP
        go_wp2
        go_roundw
        case rel => exact ⟨i + 1, by omega, by go_num, ⟨by rw [HN.out]; exact hO5.out⟩, hB5⟩
        case measure => simp [intOf]; omega
      · have hp : pl = k.toNat := by rw [HP.out, if_neg hk0]
        subst hp
        have hkb : decide (k < 0) = false := decide_eq_false hk0
        go_wp2_with fail
        refine (HINS.out _ _ (Int.toNat_of_nonneg (by omega)).symm rfl).mono ?_
        rintro e W3 ⟨v', rfl, hO4, hB4⟩
        have hB5 := Aside0.mk (HB2.out.trans hB4)
        have hO5 := Aside0.mk hO4
        clear hO4 hB4 HINS HP
        go_wp2
        go_roundw
        case rel => exact ⟨i + 1, by omega, by go_num, ⟨by rw [HN.out]; exact hO5.out⟩, hB5⟩
        case measure => simp [intOf]; omega
    · obtain rfl : i = l0.length := by omega
      go_wp2
      go_ret2
      exact ⟨_, rfl, Kd.R_lower (Kd.R_of_own HO.out (fun _ _ => trivial)) (Nat.le_succ _), HB1.out.trans (HB.out.mono (by have := HS1.out; omega))⟩

theorem sun_Row.calls_no (A0 : Option Addr) (c0 : Nat) (l0 : List (List Int)) (w : World) (hr0 : Kd.C (Kd.slice 3 (Kd.int .i64)) w A0 l0.length l0) (hc0 : l0.length ≤ c0) (he : errV l0 ≠ 0) :
    Calls Try.prog 64 #[.slice A0 l0.length c0] w fun e w' => ∃ v0_ : Value, e = .returned (.tuple #[v0_, .int .i64 (errV l0)]) ∧ Kd.R (Kd.int .i64) 3 w' w.heap.size (fun _ => True) v0_ [] ∧ Below w.heap.size w w' := by
  have hV := fun W (hW : Below w.heap.size w W) => sun_Validate.calls A0 c0 l0 (errV l0) W (Kd.C_below hr0 hW) hc0 rfl
  have hne : (errV l0 != 0) = true := bne_iff_ne.2 he
  clear he hr0
  generalize errV l0 = e0 at *
  go_enter Try.func64, Try.ntmps64
  go_wp2_with (go_at_call 39; refine (hV _ ((Below.refl _ w).alloc (Nat.le_refl _) _)).mono ?_; rintro e w' ⟨rfl, ⟨nd, rfl⟩⟩)
  go_ret2
  exact ⟨_, rfl, Kd.R_nil _ _ _ _ _, pw_below_drewN ((Below.refl _ w).alloc (Nat.le_refl _) _) _⟩

theorem sun_Row.calls (A0 : Option Addr) (c0 : Nat) (l0 : List (List Int)) (r0 : List Int) (r1 : Int) (w : World) (hr0 : Kd.C (Kd.slice 3 (Kd.int .i64)) w A0 l0.length l0) (hc0 : l0.length ≤ c0) (h : sun_Row.f l0 = some (r0, r1)) :
    Calls Try.prog 64 #[.slice A0 l0.length c0] w fun e w' => ∃ v0_ : Value, e = .returned (.tuple #[v0_, .int .i64 r1]) ∧ Kd.R (Kd.int .i64) 3 w' w.heap.size (fun _ => True) v0_ r0 ∧ Below w.heap.size w w' := by
  unfold sun_Row.f at h
  by_cases he : errV l0 = 0
  · rw [if_pos he] at h
    obtain ⟨rfl, rfl⟩ := Prod.mk.inj (Option.some.inj h)
    exact sun_Row.calls_yes A0 c0 l0 w hr0 hc0 he
  · rw [if_neg he] at h
    obtain ⟨rfl, rfl⟩ := Prod.mk.inj (Option.some.inj h)
    exact sun_Row.calls_no A0 c0 l0 w hr0 hc0 he
end Go.Proofs.Ytbnjffhcpkfnhaa.H
