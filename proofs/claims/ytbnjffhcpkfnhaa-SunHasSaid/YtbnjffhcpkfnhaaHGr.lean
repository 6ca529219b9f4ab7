/- sun.groups: by falling wins, one ends where the wins so far are those over all others and among themselves. -/
import Derived.Test.YtbnjffhcpkfnhaaHSt
import Derived.Test.YtbnjffhcpkfnhaaHM
import Derived.Test.YtbnjffhcpkfnhaaHRg
import Derived.Test.YtbnjffhcpkfnhaaHQ
namespace Go.Proofs.Ytbnjffhcpkfnhaa.H
open Go.RowKit Go.Shelf Go.Proofs.YtbnjffhcpkfnhaaW.PrintWords Go.Proofs.YtbnjffhcpkfnhaaW.PrintLast Go.Proofs.YtbnjffhcpkfnhaaW.PrintMore
set_option linter.unusedVariables false
set_option linter.unusedSimpArgs false
def fallF (t : List (List Int)) (m : Nat) (a b : Fin (m + 1)) : Int := (winsL t).getD b.val 0 - (winsL t).getD a.val 0
theorem fallF_swo (t : List (List Int)) (m : Nat) : Go.Sort.SWO (ltOf (fallF t m)) where
  irrefl := fun x => by unfold ltOf fallF; exact decide_eq_false (by omega)
  trans := fun x y z h1 h2 => by
    unfold ltOf fallF at *
    have := of_decide_eq_true h1
    have := of_decide_eq_true h2
    exact decide_eq_true (by omega)
  ntrans := fun x y z h1 h2 => by
    unfold ltOf fallF at *
    have := of_decide_eq_false h1
    have := of_decide_eq_false h2
    exact decide_eq_false (by omega)
def allF (m : Nat) : List (Fin (m + 1)) := List.ofFn fun i => i
theorem allF_map (m : Nat) : (allF m).map intF = nums0 (m + 1) := by
  apply List.ext_getElem
  · simp [allF, nums0]
  · intro i h1 h2
    simp only [allF, nums0, List.getElem_map, List.getElem_ofFn, List.getElem_range, intF]
    rfl
theorem allF_len (m : Nat) : (allF m).length = m + 1 := by simp [allF]
/-- The strips by falling wins. -/
def fallL (t : List (List Int)) : List Int := (sortF (fallF t (t.length - 1)) (allF (t.length - 1))).map intF
theorem groups_1.calls (B : Nat) (A : Option Addr) (c : Nat) (ws : List Int) (n : Nat) (a b : Nat) (w : World) (ha : a < n) (hb : b < n) (hr : Kd.C (Kd.int .i64) w A n ws) (bW : Boxed w B 27 (.slice A n c)) (hw : ∀ j, 0 ≤ ws.getD j 0 ∧ ws.getD j 0 ≤ 7) :
    Calls Try.prog 116 #[.int .i64 a, .int .i64 b, .pointer (some ⟨B, 0, none⟩)] w fun e w' => e = .returned (.int .i64 (ws.getD b 0 - ws.getD a 0)) ∧ ∃ q, w' = w.drewN q := by
  have haz : (a : Int) < (n : Int) := by omega
  have hbz : (b : Int) < (n : Int) := by omega
  obtain ⟨ad, rfl, h1⟩ := at_ints hr a ha
  obtain ⟨ad', e', h2⟩ := at_ints hr b hb
  cases e'
  have cW := bW.cell
  have b1 := hw a
  have b2 := hw b
  have HW : Aside0 (wrap64 (ws.getD b 0 - ws.getD a 0) = ws.getD b 0 - ws.getD a 0) := ⟨wrap_small (by omega) (by omega)⟩
  clear hr bW hw
  generalize ws.getD a 0 = x at *
  generalize ws.getD b 0 = y at *
  go_enter Try.func116, Try.ntmps116
  go_wp2
  repeat (go_quiet (fail); try go_wp2)
  go_ret
  exact ⟨rfl, _, rfl⟩
theorem fallL_len (t : List (List Int)) (h : 1 ≤ t.length) : (fallL t).length = t.length := by
  unfold fallL
  rw [List.length_map, sortF_len (fallF_swo t _), allF_len]
  omega
theorem fallL_perm (t : List (List Int)) (h : 1 ≤ t.length) : Order t.length (fallL t) := by
  have := (sortF_perm (fallF_swo t (t.length - 1)) (allF (t.length - 1))).map intF
  have e2 : nums0 (t.length - 1 + 1) = nums0 t.length := by rw [show t.length - 1 + 1 = t.length by omega]
  rw [allF_map, e2] at this
  exact this
/-- Where a group ends: the wins of the first k strips. -/
def cutW (s k n : Int) : Prop := s = wrap64 (wrap64 (Int.tdiv (wrap64 ((k + 1) * k)) 2) + wrap64 ((k + 1) * (n - (k + 1))))
instance (s k n : Int) : Decidable (cutW s k n) := inferInstanceAs (Decidable (s = _))
def gSt (t : List (List Int)) (L : List Int) : Nat → List (List Int) × List Int × Int
  | 0 => ([], [], 0)
  | k + 1 => if cutW (wrap64 ((gSt t L k).2.2 + (winsL t).getD (L.getD k 0).toNat 0)) k t.length then ((gSt t L k).1 ++ [ascL ((gSt t L k).2.1 ++ [L.getD k 0])], [], wrap64 ((gSt t L k).2.2 + (winsL t).getD (L.getD k 0).toNat 0))
    else ((gSt t L k).1, (gSt t L k).2.1 ++ [L.getD k 0], wrap64 ((gSt t L k).2.2 + (winsL t).getD (L.getD k 0).toNat 0))
theorem gSt_len (t : List (List Int)) (L : List Int) : ∀ k, (gSt t L k).1.length ≤ k ∧ (gSt t L k).2.1.length ≤ k
  | 0 => ⟨Nat.le_refl _, Nat.le_refl _⟩
  | k + 1 => by
    have := gSt_len t L k
    unfold gSt
    split
    · simp; omega
    · simp; omega
def groupsL (t : List (List Int)) : List (List Int) := (gSt t (fallL t) t.length).1

theorem own_lt {w : World} {base e size n k : Nat} {v : Value} {xs : List Value} (h : w.ownsRow base e size v n xs) (hk : v.ownBlock = some k) : k < w.heap.size := by
  rcases h.2 with ⟨rfl, _⟩ | ⟨g, cap, cur, rfl, _, hg, _⟩
  · simp [Value.ownBlock] at hk
  · have : g = k := by simpa [Value.ownBlock] using hk
    subst this
    exact (Array.getElem?_eq_some_iff.1 hg).1
theorem Ints_of_own {w : World} {base : Nat} {v : Value} {zs : List Int} (h : w.ownsRow base 3 1 v zs.length (nums .i64 zs)) : Ints w.heap.size w v zs := by
  rcases h.2 with ⟨rfl, hz⟩ | ⟨g, cap, cur, rfl, hb, hg, r⟩
  · exact .inl ⟨rfl, List.eq_nil_of_length_eq_zero hz⟩
  · refine .inr ⟨g, 0, cap, rfl, (Array.getElem?_eq_some_iff.1 hg).1, fun j hj => ?_⟩
    have hC : Kd.C (Kd.int .i64) w (some ⟨g, 0, none⟩) zs.length zs := (Kd.R_reads' (Kd.R_of_own (ok := fun _ => True) h (fun _ _ => trivial))).2.2
    obtain ⟨ad, e, hx⟩ := at_ints hC j hj
    cases e
    rw [List.getD_eq_getElem?_getD] at hx
    rcases j with _ | j
    · simpa [Addr.add] using hx
    · simpa [Addr.add] using hx

set_option maxRecDepth 100000 in
set_option maxHeartbeats 4000000 in
theorem sun_groups.calls_yes (A0 : Option Addr) (c0 : Nat) (l0 : List (List Int)) (w : World) (hr0 : Kd.C (Kd.slice 3 (Kd.int .i64)) w A0 l0.length l0) (hc0 : l0.length ≤ c0) (h : Right l0) :
    Calls Try.prog 97 #[.slice A0 l0.length c0] w fun e w' => ∃ v0_ : Value, e = .returned v0_ ∧ Kd.S (Kd.slice 3 (Kd.int .i64)) 27 w' w.heap.size (fun _ => True) v0_ (groupsL l0) ∧ Below w.heap.size w w' := by
  have h7 := h.len
  have hp := h.pos
  have hW := sun_wins.calls A0 c0 l0 (winsL l0) w hr0 hc0 (by unfold sun_wins.f; rw [if_pos h.small])
  have HRt := Aside0.mk h
  have hwl := winsL_len l0
  have hwb := Aside0.mk (show ∀ j, 0 ≤ (winsL l0).getD j 0 ∧ (winsL l0).getD j 0 ≤ 7 from fun j => by
    by_cases hj : j < l0.length
    · rw [h.wins_get hj]; exact h.win_bound j
    · rw [List.getD_eq_getElem?_getD, List.getElem?_eq_none (by rw [winsL_len]; omega)]; simp)
  clear h hr0
  go_enter Try.func97, Try.ntmps97
  go_wp2_with (go_at_call 76; refine hW.mono ?_; rintro e w1 ⟨v0, rfl, hR1, hB1⟩; obtain ⟨Aw, cw, rfl, hcw, hCw⟩ := Kd.R_reads hR1; clear hR1 hW)
  rw [hwl] at hCw
  have bW := Boxed.new w1 27 (.slice Aw l0.length cw)
  obtain ⟨wA, hwA⟩ : ∃ wA, wA = w1.alloc (.cells #[.slice Aw l0.length cw] 27) := ⟨_, rfl⟩
  rw [← hwA] at bW ⊢
  have hBA : Below w.heap.size w wA := by rw [hwA]; exact hB1.alloc hB1.size _
  have hCA : Kd.C (Kd.int .i64) wA Aw l0.length (winsL l0) := by rw [hwA]; exact Kd.C_below hCw ((Below.refl _ w1).alloc (Nat.le_refl _) _)
  have hsA : wA.heap.size = w1.heap.size + 1 := by rw [hwA]; exact World.size_alloc _ _
  have HBW := Aside0.mk bW
  have HCA := Aside0.mk hCA
  have HBA := Aside0.mk hBA
  have HSA := Aside0.mk hsA
  clear hwA hB1 hCw bW hCA hBA hsA
  go_loopw [5, 19] (fun s5 s19 wr => ∃ i : Nat, i ≤ l0.length ∧ s19 = .int .i64 i ∧ Aside0 (wr.ownsRow wA.heap.size 3 1 s5 (nums0 i).length (nums .i64 (nums0 i))) ∧ Aside0 (Below wA.heap.size wA wr)) (fun _ s19 _ => l0.length - (intOf s19).toNat)
  case atStart => exact ⟨0, Nat.zero_le _, rfl, ⟨own_nil _ _ _ _⟩, ⟨Below.refl _ _⟩⟩
  case round =>
    obtain ⟨i, hi, rfl, HO, HB⟩ := hrel
    by_cases hlt : i < l0.length
    · have hltz : (i : Int) < (l0.length : Int) := by omega
      have hnl := nums0_len i
      go_wp2_with ((with_reducible refine gate_builtin (b := .append) (xs := #[.tmp 22, .tmp 24]) rfl ?_); at_builtin; refine print_append_num (w0 := wA) wA.heap.size rfl (.tmp 22) (.tmp 24) 27 3 .i64 8 rfl Try.underlying27 info3 (by decide) u5 (nums0 i) (i : Int) rfl rfl ?aO ?aB ?aS ?aL ?_; (case aO => exact HO.out); (case aB => exact HB.out); (case aS => exact HB.out.size); (case aL => omega); intro v1 w2 hown hB2 hg hat)
      go_roundw
      case rel => exact ⟨i + 1, by omega, by go_num, ⟨by rw [show nums0 (i + 1) = nums0 i ++ [(i : Int)] by simp [nums0, List.range_succ]]; exact hown⟩, ⟨hB2⟩⟩
      case measure => simp [intOf]; omega
    · obtain rfl : i = l0.length := by omega
      have hO1 := HO.out
      rw [nums0_len] at hO1
      obtain ⟨A5, c5, rfl⟩ := own_slice hO1
      have em : l0.length - 1 + 1 = l0.length := by omega
      have hOA : wr.ownsRow wA.heap.size 3 1 (.slice A5 l0.length c5) (allF (l0.length - 1)).length (nums .i64 ((allF (l0.length - 1)).map intF)) := by
        rw [allF_map, allF_len, em]; exact hO1
      have hcmp : ∀ W, Below wA.heap.size wr W → ∀ x y : Fin (l0.length - 1 + 1), Calls Try.prog 116 (#[.int .i64 x.val, .int .i64 y.val] ++ #[.pointer (some ⟨w1.heap.size, 0, none⟩)]) W fun e w' => e = .returned (.int .i64 (fallF l0 (l0.length - 1) x y)) ∧ ∃ q, w' = W.drewN q := fun W hW x y =>
        groups_1.calls w1.heap.size Aw cw (winsL l0) l0.length x.val y.val W (by have := x.isLt; omega) (by have := y.isLt; omega) (Kd.C_below HCA.out (HB.out.trans hW)) (((HB.out.trans hW).block _ HBW.out.lt).trans HBW.out) hwb.out
      have hC := stable.calls (l0.length - 1) (fallF l0 (l0.length - 1)) (fallF_swo l0 _) 116 #[.pointer (some ⟨w1.heap.size, 0, none⟩)] (enters_of Try.func116 (by kernel_rfl) rfl) (allF (l0.length - 1)) (by intro e; have := congrArg List.length e; rw [allF_len] at this; simp at this) (by rw [allF_len]; omega) wA.heap.size (.slice A5 l0.length c5) wr HB.out.size hOA hcmp
      have hfl := fallL_len l0 hp
      have HFP := Aside0.mk (fallL_perm l0 hp)
      clear hO1 hOA hcmp HO em
      go_wp2_with (go_at_call 101; refine hC.mono ?_; rintro e wS ⟨rfl, hOS, hBS⟩)
      have hBw := HB.out.trans hBS
      have hOS2 : wS.ownsRow wA.heap.size 3 1 (.slice A5 l0.length c5) (fallL l0).length (nums .i64 (fallL l0)) := by
        have hOS' : wS.ownsRow wA.heap.size 3 1 (.slice A5 l0.length c5) (allF (l0.length - 1)).length (nums .i64 (fallL l0)) := hOS
        rw [allF_len, show l0.length - 1 + 1 = l0.length by omega] at hOS'
        rw [hfl]; exact hOS'
      have HL : Aside0 (Kd.C (Kd.int .i64) wS A5 (fallL l0).length (fallL l0)) := ⟨(Kd.R_reads' (Kd.R_of_own (ok := fun _ => True) hOS2 (fun _ _ => trivial))).2.2⟩
      have HBw := Aside0.mk hBw
      clear hBw hOS hOS2 hBS hC HB
      have HGL := Aside0.mk (show groupsL l0 = (gSt l0 (fallL l0) l0.length).1 from rfl)
      generalize fallL l0 = L at *
      go_loopw [7, 8, 9, 32] (fun s7 s8 s9 s32 wr => ∃ (k : Nat) (Wf : World), k ≤ l0.length ∧ s32 = .int .i64 k ∧ s9 = .int .i64 (gSt l0 L k).2.2 ∧ Aside0 (Kd.S (Kd.slice 3 (Kd.int .i64)) 27 Wf wS.heap.size (fun _ => True) s7 (gSt l0 L k).1) ∧ Aside0 (Below wS.heap.size wS Wf) ∧ Aside0 (wr.ownsRow Wf.heap.size 3 1 s8 (gSt l0 L k).2.1.length (nums .i64 (gSt l0 L k).2.1)) ∧ Aside0 (Below Wf.heap.size Wf wr)) (fun _ _ _ s32 _ => l0.length - (intOf s32).toNat)
      case atStart => exact ⟨0, wS, Nat.zero_le _, rfl, rfl, ⟨Kd.S_nil _ _ _ _ _⟩, ⟨Below.refl _ _⟩, ⟨own_nil _ _ _ _⟩, ⟨Below.refl _ _⟩⟩
      case round =>
        obtain ⟨k, Wf, hk, rfl, rfl, HS, HB1, HG, HB2⟩ := hrel
        by_cases hlt2 : k < l0.length
        · have hltz : (k : Int) < (l0.length : Int) := by omega
          obtain ⟨ad5, rfl, hx5⟩ := at_ints HL.out k (by omega)
          have hBr := HB1.out.trans (HB2.out.mono HB1.out.size)
          have hx5' := (hBr.cell (World.block_lt_of_cell? wS _ hx5)).trans hx5
          have hxm := HFP.out.mem.1 (getD_mem (show k < L.length by omega))
          obtain ⟨x, hxe⟩ := Int.eq_ofNat_of_zero_le hxm.1
          rw [hxe] at hx5'
          have hxl : x < l0.length := by omega
          have hxz : (x : Int) < (l0.length : Int) := by omega
          obtain ⟨adw, e', hxw⟩ := at_ints HCA.out x hxl
          subst e'
          have hBA2 := HBw.out.trans (hBr.mono HBw.out.size)
          have hxw' := (hBA2.cell (World.block_lt_of_cell? wA _ hxw)).trans hxw
          have bW2 : Boxed wr w1.heap.size 27 (.slice (some adw) l0.length cw) := (hBA2.block _ HBW.out.lt).trans HBW.out
          have cW := bW2.cell
          have hgl := (gSt_len l0 L k)
          have HST := Aside0.mk (show gSt l0 L (k + 1) = if cutW (wrap64 ((gSt l0 L k).2.2 + (winsL l0).getD x 0)) k l0.length then ((gSt l0 L k).1 ++ [ascL ((gSt l0 L k).2.1 ++ [(x : Int)])], [], wrap64 ((gSt l0 L k).2.2 + (winsL l0).getD x 0)) else ((gSt l0 L k).1, (gSt l0 L k).2.1 ++ [(x : Int)], wrap64 ((gSt l0 L k).2.2 + (winsL l0).getD x 0)) from by rw [gSt, hxe, Int.toNat_natCast])
          generalize (gSt l0 L k).1 = out at *
          generalize (gSt l0 L k).2.1 = grp at *
          generalize (gSt l0 L k).2.2 = sum at *
          generalize (winsL l0).getD x 0 = wx at *
          have HXW := Aside0.mk hxw
          clear hx5 hxw bW2
          have hln : (grp ++ [(x : Int)]).length = grp.length + 1 := by simp
          have hV := fun a len cap W => (callsIn_wide (n := 5)).1 (values_in Fence.wide 5 trivial rfl a len cap W)
          by_cases hcut : cutW (wrap64 (sum + wx)) k l0.length
          · have hcb : (wrap64 (sum + wx) == wrap64 (wrap64 (Int.tdiv (wrap64 (((k : Int) + 1) * k)) 2) + wrap64 (((k : Int) + 1) * ((l0.length : Int) - ((k : Int) + 1))))) = true := beq_iff_eq.2 hcut
            rw [if_pos hcut] at HST
            clear hcut
            go_wp2_with (first
              | ((with_reducible refine gate_builtin (b := .append) (xs := #[.tmp 37, .tmp 39]) rfl ?_); at_builtin; refine print_append_num (w0 := Wf) Wf.heap.size rfl (.tmp 37) (.tmp 39) 27 3 .i64 8 rfl Try.underlying27 info3 (by decide) u8 grp (x : Int) rfl rfl ?aO ?aB ?aS ?aL ?_; (case aO => exact HG.out); (case aB => exact HB2.out); (case aS => exact HB2.out.size); (case aL => omega); intro v1 w2 hown hB3 hg hat; have hBA3 := HBw.out.trans ((HB1.out.trans (hB3.mono HB1.out.size)).mono HBw.out.size); obtain ⟨Av, cv, rfl⟩ := own_slice hown; rw [hln] at hown; have cW3 := (show Boxed w2 w1.heap.size 27 (.slice (some adw) l0.length cw) from (hBA3.block _ HBW.out.lt).trans HBW.out).cell; have hxw3 := (hBA3.cell (World.block_lt_of_cell? wA _ HXW.out)).trans HXW.out; have HO3 := Aside0.mk hown; have HB3 := Aside0.mk hB3; have HBA3 := Aside0.mk hBA3; clear hown hB3 hBA3 hg hat)
              | (go_at_call 118; refine (hV _ _ _ _).mono ?_; rintro e w' ⟨rfl, rfl⟩; have hszz : (grp ++ [(x : Int)]).length ≤ 1000 := by simp; omega)
              | (go_at_call 117; refine (sorted.calls w2.heap.size (.slice Av (grp.length + 1) cv) (grp ++ [(x : Int)]) hszz (w2.alloc (.cells #[.slice Av (grp.length + 1) cv] 27)) (by simp) (Boxed.new w2 27 _).cell (Ints_of_own (pw_own_below (by rw [hln]; exact HO3.out) ((Below.refl _ w2).alloc (Nat.le_refl _) _)))).mono ?_; rintro e w3 ⟨v3, rfl, hO4, hB4⟩; obtain ⟨A3, c3, rfl⟩ := own_slice hO4; have HO4 := Aside0.mk hO4; have HB4 := Aside0.mk (HB3.out.trans (((Below.refl Wf.heap.size w2).alloc HB3.out.size _).trans (hB4.mono (by have := HB3.out.size; simp; omega)))); have hbs4 := hB4.size; clear hO4 hB4)
              | ((with_reducible refine gate_builtin (b := .append) (xs := #[.tmp 62, .tmp 66]) rfl ?_); at_builtin
                 refine Kd.S_append (Kd.slice 3 (Kd.int .i64)) (w0 := wS) wS.heap.size rfl (.tmp 62) (.tmp 66) 22 27 (.slice none 0 0) 24 rfl Try.underlying22 info27 rfl (by decide) (by omega) u7 out (ascL (grp ++ [(x : Int)])) [.slice A3 (ascL (grp ++ [(x : Int)])).length c3] (fun _ => True) (fun k_ => (w2.alloc (.cells #[.slice Av (grp.length + 1) cv] 27)).heap.size ≤ k_) rfl rfl ?aP ?aK ?aF ?aO ?aB ?aS ?aL ?_
                 (case aP => exact Kd.M_row (Kd.R_lower (Kd.R_of_own HO4.out (fun k_ hk_ => own_base HO4.out k_ hk_)) (by have h1 := HB3.out.size; have h2 := HB1.out.size; simp; omega)))
                 (case aK => intro k_ hk_; refine ⟨trivial, fun e_ => ?_⟩; obtain ⟨inn, hin⟩ := Kd.S_own HS.out; have h1 := own_lt hin e_.symm; have h2 := HB3.out.size; simp at hk_; omega)
                 (case aF => exact fun _ _ => trivial)
                 (case aO => exact Kd.S_below (Kd.S_mono (Kd.S_bound HS.out) (fun k_ hk_ => ⟨trivial, by have h2 := HB3.out.size; simp; omega⟩)) HB4.out)
                 (case aB => exact HB1.out.trans (HB4.out.mono HB1.out.size))
                 (case aS => exact Nat.le_trans HB1.out.size HB4.out.size)
                 (case aL => omega)
                 intro v5 w5 hS5 hB5 hg5 hat5
                 have HS5 := Aside0.mk hS5
                 have HB5 := Aside0.mk hB5
                 clear hS5 hB5 hg5 hat5)
              | fail)
            go_roundw
            case rel => exact ⟨k + 1, w5, by omega, by go_num, by rw [HST.out], by rw [HST.out]; exact HS5, HB5, by rw [HST.out]; exact ⟨own_nil _ _ _ _⟩, ⟨Below.refl _ _⟩⟩
            case measure => simp [intOf]; omega
          · have hcb : (wrap64 (sum + wx) == wrap64 (wrap64 (Int.tdiv (wrap64 (((k : Int) + 1) * k)) 2) + wrap64 (((k : Int) + 1) * ((l0.length : Int) - ((k : Int) + 1))))) = false := beq_eq_false_iff_ne.2 hcut
            rw [if_neg hcut] at HST
            clear hcut
            go_wp2_with ((with_reducible refine gate_builtin (b := .append) (xs := #[.tmp 37, .tmp 39]) rfl ?_); at_builtin; refine print_append_num (w0 := Wf) Wf.heap.size rfl (.tmp 37) (.tmp 39) 27 3 .i64 8 rfl Try.underlying27 info3 (by decide) u8 grp (x : Int) rfl rfl ?aO ?aB ?aS ?aL ?_; (case aO => exact HG.out); (case aB => exact HB2.out); (case aS => exact HB2.out.size); (case aL => omega); intro v1 w2 hown hB3 hg hat; have hBA3 := HBw.out.trans ((HB1.out.trans (hB3.mono HB1.out.size)).mono HBw.out.size); obtain ⟨Av, cv, rfl⟩ := own_slice hown; rw [hln] at hown; have cW3 := (show Boxed w2 w1.heap.size 27 (.slice (some adw) l0.length cw) from (hBA3.block _ HBW.out.lt).trans HBW.out).cell; have hxw3 := (hBA3.cell (World.block_lt_of_cell? wA _ HXW.out)).trans HXW.out; have HO3 := Aside0.mk hown; have HB3 := Aside0.mk hB3; have HBA3 := Aside0.mk hBA3; clear hown hB3 hBA3 hg hat)
            go_roundw
            case rel =>
              refine ⟨k + 1, Wf, by omega, by go_num, by rw [HST.out], by rw [HST.out]; exact HS, HB1, ?_, HB3⟩
              rw [HST.out]
              show Aside0 (w2.ownsRow Wf.heap.size 3 1 (.slice Av (grp.length + 1) cv) (grp ++ [(x : Int)]).length (nums .i64 (grp ++ [(x : Int)])))
              rw [hln]
              exact HO3
            case measure => simp [intOf]; omega
        · obtain rfl : k = l0.length := by omega
          go_wp2
          go_ret
          rw [HGL.out]
          have hs1 := HB2.out.size
          have hs2 := HB1.out.size
          have hs3 := HBw.out.size
          have hs4 := HBA.out.size
          exact ⟨_, rfl, Kd.S_lower (Kd.S_below HS.out HB2.out) (by omega), HBA.out.trans ((HBw.out.trans ((HB1.out.trans (HB2.out.mono hs2)).mono hs3)).mono hs4)⟩

def sun_groups.f (l0 : List (List Int)) : Option (List (List Int)) := if errV l0 = 0 then some (groupsL l0) else none
theorem sun_groups.calls (A0 : Option Addr) (c0 : Nat) (l0 : List (List Int)) (r : List (List Int)) (w : World) (hr0 : Kd.C (Kd.slice 3 (Kd.int .i64)) w A0 l0.length l0) (hc0 : l0.length ≤ c0) (h : sun_groups.f l0 = some r) :
    Calls Try.prog 97 #[.slice A0 l0.length c0] w fun e w' => ∃ v0_ : Value, e = .returned v0_ ∧ Kd.S (Kd.slice 3 (Kd.int .i64)) 27 w' w.heap.size (fun _ => True) v0_ r ∧ Below w.heap.size w w' := by
  unfold sun_groups.f at h
  by_cases he : errV l0 = 0
  · rw [if_pos he] at h
    obtain rfl := Option.some.inj h
    exact sun_groups.calls_yes A0 c0 l0 w hr0 hc0 (Right.of he)
  · rw [if_neg he] at h; cases h
end Go.Proofs.Ytbnjffhcpkfnhaa.H
