/- slices.Sorted(slices.Values(l)) at a list that was handed in. -/
import Derived.Test.YtbnjffhcpkfnhaaHSo
namespace Go.Proofs.Ytbnjffhcpkfnhaa.H
open Go.RowKit Go.Shelf Go.Proofs.YtbnjffhcpkfnhaaW.PrintWords Go.Proofs.YtbnjffhcpkfnhaaW.PrintLast Go.Proofs.YtbnjffhcpkfnhaaW.PrintMore
set_option linter.unusedVariables false
set_option linter.unusedSimpArgs false
attribute [local go_sem] Oper.semAt_some
theorem upto_getD (zs : List Int) : upto (fun j => zs.getD j 0) zs.length = zs := by
  rw [show (fun j => zs.getD j 0) = fun j => zs[j]?.getD 0 from funext fun j => List.getD_eq_getElem?_getD]
  exact upto_all zs
set_option maxRecDepth 100000 in
set_option maxHeartbeats 2000000 in
theorem values1C (F : Fence) (n : Nat) (h7 : F.fn 126) (hro : F.round = none) (hn : 1 ≤ n) (l Bs cap : Nat) (A : Option Addr) (zs : List Int) (hl : zs.length ≤ 1000) (w0 : World) (hr : Kd.C (Kd.int .i64) w0 A zs.length zs) (J Jx : List Int → World → Prop)
    (hY : ∀ pre x W, J pre W → pre.length < zs.length → YieldAt F (n - 1) Try.prog l #[.int .i64 x] W fun e W' =>
      (e = .returned (.bool true) ∧ J (pre ++ [x]) W' ∧ Below w0.heap.size W W') ∨ (e = .returned (.bool false) ∧ Jx (pre ++ [x]) W'))
    (W : World) (hb0 : Below w0.heap.size w0 W) (hBs : W.cell? ⟨Bs, 0, none⟩ = some (.slice A zs.length cap)) (h0 : J [] W) :
    CallsIn F n Try.prog 126 #[.func (.yield l) #[] #[], .pointer (some ⟨Bs, 0, none⟩)] W fun e W' => (∃ v, e = .returned v) ∧
      ((∃ ys, ys = upto (fun j => zs.getD j 0) zs.length ∧ J ys W') ∨ (∃ pre, (∃ k, k ≤ zs.length ∧ pre = upto (fun j => zs.getD j 0) k) ∧ Jx pre W')) := by
  have HR := Aside0.mk hr
  have HB0 := Aside0.mk hb0
  clear hr hb0
  refine callsIn_of_wp Try.func126 rfl h7 ?_ hro
  simp only [Try.ntmps126, List.size_toArray, List.length_cons, List.length_nil, Nat.reduceAdd, Nat.reduceSub, Array.replicate_succ, Array.replicate_zero, List.push_toArray, List.append_toArray, List.nil_append, List.cons_append]
  gi_wp2
  gi_loopw [7] (fun i wr => ∃ k : Nat, k ≤ zs.length ∧ i = .int .i64 k ∧ J (upto (fun j => zs.getD j 0) k) wr ∧ Below w0.heap.size W wr)
    (fun i _ => zs.length - (intOf i).toNat)
  case atStart => exact ⟨0, Nat.zero_le _, rfl, h0, Below.refl _ _⟩
  case round =>
    obtain ⟨k, hk, rfl, hJs, hnx⟩ := hrel
    by_cases hlt : k < zs.length
    · obtain ⟨fn, tmps, assign, body, hy, hR⟩ := hY _ (zs.getD k 0) wr hJs (by rw [upto_length]; exact hlt)
      have hltz : (k : Int) < (zs.length : Int) := by omega
      obtain ⟨ad, rfl, hx⟩ := at_ints HR.out k hlt
      have hcx := ((HB0.out.trans hnx).cell (World.block_lt_of_cell? w0 _ hx)).trans hx
      clear hx
      generalize hxx : zs.getD k 0 = x at *
      have HX := Aside0.mk hxx
      clear hxx
      gi_wp2
      refine hR.mono ?_
      rintro e W3 (⟨rfl, hJ3, hk3⟩ | ⟨rfl, hJx3⟩)
      · gi_wp2
        go_roundw
        case rel => exact ⟨k + 1, by omega, by simp, by rw [upto_succ, HX.out]; exact hJ3, hnx.trans hk3⟩
        case measure => simp [intOf]; omega
      · gi_wp2
        refine bodyPost_ret (results_none rfl _ _ _) rfl ?_
        exact ⟨⟨_, rfl⟩, .inr ⟨_, ⟨k + 1, by omega, by rw [upto_succ, HX.out]⟩, hJx3⟩⟩
    · obtain rfl : k = zs.length := by omega
      gi_wp2
      go_end0
      exact ⟨⟨_, rfl⟩, .inl ⟨_, rfl, hJs⟩⟩
theorem values_stopsC (F : Fence) (n : Nat) (h7 : F.fn 126) (hro : F.round = none) (hn : 1 ≤ n) (Bs cap : Nat) (A : Option Addr) (zs : List Int) (hl : zs.length ≤ 1000) (w0 w : World) (hr : Kd.C (Kd.int .i64) w0 A zs.length zs) (hb0 : Below w0.heap.size w0 w)
    (hc : w.cell? ⟨Bs, 0, none⟩ = some (.slice A zs.length cap)) :
    SeqStopsK F n Try.prog 126 #[.pointer (some ⟨Bs, 0, none⟩)] encI (Below w0.heap.size) (fun ys => ys = zs) (fun pre => ∃ k, k ≤ zs.length ∧ pre = upto (fun j => zs.getD j 0) k) zs.length w := fun l J Jx W hW _ _ hY h0 => by
  refine (values1C F n h7 hro hn l Bs cap A zs hl w0 hr J Jx hY W (hb0.trans (hW.mono hb0.size)) ((hW.cell (World.block_lt_of_cell? w _ hc)).trans hc) h0).mono ?_
  rintro e W' ⟨he, ⟨ys, rfl, hj⟩ | ⟨pre, hp, hj⟩⟩
  · exact ⟨he, .inl ⟨_, upto_getD zs, hj⟩⟩
  · exact ⟨he, .inr ⟨pre, hp, hj⟩⟩

set_option maxRecDepth 100000 in
set_option maxHeartbeats 2000000 in
/-- The same for a list that was handed in: the box of it lies in new memory. -/
theorem sortedC.calls (A : Option Addr) (cap : Nat) (zs : List Int) (hz : zs.length ≤ 1000) (w0 : World) (hr : Kd.C (Kd.int .i64) w0 A zs.length zs) (Bs : Nat) (w : World) (hb0 : Below w0.heap.size w0 w) (hc : w.cell? ⟨Bs, 0, none⟩ = some (.slice A zs.length cap)) :
    Calls Try.prog 117 #[.func (.func 126) #[] #[.pointer (some ⟨Bs, 0, none⟩)]] w fun e w' => ∃ v : Value, e = .returned v ∧ w'.ownsRow w.heap.size 3 1 v (ascL zs).length (nums .i64 (ascL zs)) ∧ Below w.heap.size w w' := by
  have hseq := values_stopsC Fence.wide 3 trivial rfl (by omega) Bs cap A zs hz w0 w hr hb0 hc
  have hC := (callsIn_wide (n := 5)).1 (collect.calls Fence.wide 5 trivial trivial rfl (by omega) 126 _ trivial (enters_of Try.func126 (by kernel_rfl) rfl) _ _ _ w0.heap.size (by unfold maxLen; omega) (by omega) _ hb0.size hseq)
  have hS1 := fun (blk off cap : Nat) (ss : List Int) (W : World) => AnyM.slices_Sort_int srt_lays blk off cap ss W
  have hS0 := fun (p : Option Addr) (cap : Nat) (W : World) => AnyM.slices_Sort_int_none srt_lays p cap W
  change ∀ (blk off cap : Nat) (ss : List Int) (W : World), _ → _ → _ → Calls Try.prog 125 _ _ _ at hS1
  change ∀ (p : Option Addr) (cap : Nat) (W : World), Calls Try.prog 125 _ _ _ at hS0
  clear hseq hc hr hb0
  go_enter Try.func117, Try.ntmps117
  go_wp2_with (go_at_call 106; refine hC.mono ?_; rintro e W ⟨v, ss, rfl, rfl, hrow, hb⟩)
  rcases hrow.2 with ⟨rfl, hz0⟩ | ⟨gb, cap, cur, rfl, hbase, hgb, r1, r2, r3, r4⟩
  · have hss : ss = [] := List.eq_nil_of_length_eq_zero hz0
    subst hss
    go_wp2_with (go_at_call 125; refine (hS0 none 0 W).mono ?_; rintro e w' ⟨rfl, rfl⟩)
    go_ret
    exact ⟨.slice none 0 0, rfl, by rw [show ascL [] = [] from by simp [ascL]]; exact own_nil _ _ _ _, hb⟩
  · have hH : Go.Sort.Holds (Value.int .i64) W gb 0 ss.toArray := holds_of_blockI hgb (by simpa using r4)
    have hgl : gb < W.heap.size := (Array.getElem?_eq_some_iff.1 hgb).1
    have cS := hS1 gb 0 cap ss W hH hgl (by omega)
    clear hS1 hS0 hC
    go_wp2_with (go_at_call 125; refine cS.mono ?_; rintro e w' ⟨rfl, nn, os, rfl⟩)
    go_ret
    have hl : (ascL ss).length = ss.length := ascL_len ss
    refine ⟨_, rfl, ?_, hb.grown (grownBy_sortedI _) hb.size (fun j hj => by cases hj; exact hbase)⟩
    have := ownsRow_sortedI (n := nn) (os := os) (ts := ascL ss) hl hbase hgb r1 r2 r3
    rw [hl]
    exact this
end Go.Proofs.Ytbnjffhcpkfnhaa.H
