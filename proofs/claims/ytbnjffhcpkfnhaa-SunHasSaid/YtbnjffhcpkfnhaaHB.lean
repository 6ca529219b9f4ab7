/- The iterator over the strips that a strip beats, at every loop body; slices.AppendSeq and slices.Collect at an iterator that reads memory; sun.wins. -/
import Derived.RangeFuncNested
import Derived.RangeFuncBox
import Derived.RangeFuncBound
import Derived.RangeFuncCalls
import Derived.RangeFuncLeaves
import Derived.Shelf.Abstract
import Derived.WalkKit
import Derived.OwnWalkIn
import Derived.TacticsInMore
import Derived.LoopNIn
import Derived.LoopIn
import Derived.Maps.AppendAt
import Derived.Test.YtbnjffhcpkfnhaaHA
namespace Go.Proofs.Ytbnjffhcpkfnhaa.H
open Go.RowKit Go.Shelf Go.Proofs.YtbnjffhcpkfnhaaW.PrintWords Go.Proofs.YtbnjffhcpkfnhaaW.PrintLast Go.Proofs.YtbnjffhcpkfnhaaW.PrintMore
set_option linter.unusedVariables false
attribute [local go_sem] Oper.semAt_some

theorem at_rows {w : World} {A : Option Addr} {n : Nat} {xs : List (List Int)} (h : Kd.C (Kd.slice 3 (Kd.int .i64)) w A n xs) (i : Nat) (h1 : i < n) : ∃ ad A0 c0, A = some ad ∧ w.cell? (ad.add i) = some (.slice A0 (xs.getD i []).length c0) ∧ (xs.getD i []).length ≤ c0 ∧ Kd.C (Kd.int .i64) w A0 (xs.getD i []).length (xs.getD i []) := by
  obtain ⟨ad, c, e, _, hK, hc0⟩ := Kd.C_get h ([] : List Int) (i : Int) (by omega) (by omega)
  rw [Int.toNat_natCast] at hK hc0
  have hc : ∀ j u, c[j]? = some u → w.cell? (ad.add (i * 1 + j)) = some u := hc0
  obtain ⟨A0, c0, rfl, l0, g0⟩ := hK
  exact ⟨ad, A0, c0, e, by have hq := hc 0 _ rfl; rwa [Nat.mul_one, Nat.add_zero] at hq, l0, g0⟩

theorem at_ints {w : World} {A : Option Addr} {n : Nat} {xs : List Int} (h : Kd.C (Kd.int .i64) w A n xs) (i : Nat) (h1 : i < n) : ∃ ad, A = some ad ∧ w.cell? (ad.add i) = some (.int .i64 (xs.getD i 0)) := by
  obtain ⟨ad, e, hc⟩ := Kd.at_int h (i : Int) (by omega) (by omega)
  rw [Int.toNat_natCast] at hc
  exact ⟨ad, e, by simpa [rd] using hc⟩

/-- The places of the ones among the first k. -/
def onesTo (row : List Int) (k : Nat) : List Int := ((List.range k).filter fun j => decide (row.getD j 0 = 1)).map Int.ofNat
def ones (row : List Int) : List Int := onesTo row row.length
theorem onesTo_hit {row : List Int} {k : Nat} (h : row.getD k 0 = 1) : onesTo row (k + 1) = onesTo row k ++ [(k : Int)] := by
  unfold onesTo
  rw [List.range_succ, List.filter_append, List.map_append, List.filter_cons, if_pos (by simpa using h)]
  rfl
theorem onesTo_miss {row : List Int} {k : Nat} (h : row.getD k 0 ≠ 1) : onesTo row (k + 1) = onesTo row k := by
  unfold onesTo
  rw [List.range_succ, List.filter_append, List.map_append, List.filter_cons, if_neg (by simpa using h)]
  simp
theorem onesTo_length (row : List Int) (k : Nat) : (onesTo row k).length ≤ k := by
  unfold onesTo
  rw [List.length_map]
  exact Nat.le_trans (List.length_filter_le _ _) (by simp)
theorem onesTo_prefix (row : List Int) {k m : Nat} (h : k ≤ m) : onesTo row k <+: onesTo row m := by
  induction m with
  | zero => obtain rfl : k = 0 := by omega
            exact List.prefix_refl _
  | succ m ih =>
    by_cases e : k = m + 1
    · subst e; exact List.prefix_refl _
    · refine (ih (by omega)).trans ?_
      by_cases h1 : row.getD m 0 = 1
      · rw [onesTo_hit h1]; exact List.prefix_append _ _
      · rw [onesTo_miss h1]; exact List.prefix_refl _

set_option maxRecDepth 100000 in
set_option maxHeartbeats 2000000 in
theorem beaten_1.stops (F : Fence) (n : Nat) (h109 : F.fn 109) (hro : F.round = none) (hn : 1 ≤ n) (l B1 B2 : Nat) (A : Option Addr) (c : Nat) (t : List (List Int)) (k : Nat) (w0 : World) (hr : Kd.C (Kd.slice 3 (Kd.int .i64)) w0 A t.length t) (hk : k < t.length) (J Jx : List Int → World → Prop)
    (hY : ∀ pre x W, 0 ≤ x ∧ x < ((t.getD k []).length : Int) → J pre W → pre.length < (t.getD k []).length → YieldAt F (n - 1) Try.prog l #[.int .i64 x] W fun e W' =>
      (e = .returned (.bool true) ∧ J (pre ++ [x]) W' ∧ Below w0.heap.size W W') ∨ (e = .returned (.bool false) ∧ Jx (pre ++ [x]) W'))
    (W : World) (hb0 : Below w0.heap.size w0 W) (hB1 : W.cell? ⟨B1, 0, none⟩ = some (.slice A t.length c)) (hB2 : W.cell? ⟨B2, 0, none⟩ = some (.int .i64 k)) (h0 : J [] W) :
    CallsIn F n Try.prog 109 #[.func (.yield l) #[] #[], .pointer (some ⟨B1, 0, none⟩), .pointer (some ⟨B2, 0, none⟩)] W fun e W' => (∃ v, e = .returned v) ∧
      ((∃ ys, ys = ones (t.getD k []) ∧ J ys W') ∨ (∃ pre, (∃ m, m ≤ (t.getD k []).length ∧ pre = onesTo (t.getD k []) m) ∧ Jx pre W')) := by
  obtain ⟨ad, A0, c0, rfl, hrow, _, hin⟩ := at_rows hr k hk
  have hrow' := (hb0.cell (World.block_lt_of_cell? w0 _ hrow)).trans hrow
  have hkz : (k : Int) < (t.length : Int) := by omega
  have HL := Aside0.mk hin
  have hm : (t.getD k []).length ≤ 9223372036854775807 := hin.2.1
  clear hin hr hrow hk
  generalize t.getD k [] = row at *
  refine callsIn_of_wp Try.func109 rfl h109 ?_ hro
  simp only [Try.ntmps109, List.size_toArray, List.length_cons, List.length_nil, Nat.reduceAdd, Nat.reduceSub, Array.replicate_succ, Array.replicate_zero, List.push_toArray, List.append_toArray, List.nil_append, List.cons_append]
  gi_wp2
  gi_loopw [11] (fun i wr => ∃ m : Nat, m ≤ row.length ∧ i = .int .i64 m ∧ J (onesTo row m) wr ∧ Below w0.heap.size w0 wr)
    (fun i _ => row.length - (intOf i).toNat)
  case atStart => exact ⟨0, Nat.zero_le _, rfl, h0, hb0⟩
  case round =>
    obtain ⟨m, hmr, rfl, hJs, hnx⟩ := hrel
    by_cases hlt : m < row.length
    · obtain ⟨ad2, rfl, hx⟩ := at_ints HL.out m hlt
      have hx' := (hnx.cell (World.block_lt_of_cell? w0 _ hx)).trans hx
      clear hx
      have hltz : (m : Int) < (row.length : Int) := by omega
      obtain ⟨x, hxx⟩ : ∃ x, row.getD m 0 = x := ⟨_, rfl⟩
      have HX := Aside0.mk hxx
      rw [hxx] at hx'
      clear hxx
      by_cases h1 : x = 1
      · subst h1
        obtain ⟨fn, tmps, assign, body, hy, hR⟩ := hY _ (m : Int) wr ⟨by omega, by omega⟩ hJs (by have := onesTo_length row m; omega)
        gi_wp2
        refine hR.mono ?_
        rintro e W3 (⟨rfl, hJ3, hk3⟩ | ⟨rfl, hJx3⟩)
        · gi_wp2
          go_roundw
          case rel => exact ⟨m + 1, by omega, by simp, by rw [onesTo_hit HX.out]; exact hJ3, hnx.trans hk3⟩
          case measure => simp [intOf]; omega
        · gi_wp2
          refine bodyPost_ret (results_none rfl _ _ _) rfl ?_
          exact ⟨⟨_, rfl⟩, .inr ⟨_, ⟨m + 1, by omega, (onesTo_hit HX.out).symm⟩, hJx3⟩⟩
      · have hne : (x == 1) = false := beq_eq_false_iff_ne.2 h1
        have H1 := Aside0.mk h1
        clear h1
        gi_wp2
        refine ⟨fun _ h => (by cases h), ?_⟩
        gi_wp2
        go_roundw
        case rel => exact ⟨m + 1, by omega, by simp, by rw [onesTo_miss (by rw [HX.out]; exact H1.out)]; exact hJs, hnx⟩
        case measure => simp [intOf]; omega
    · obtain rfl : m = row.length := by omega
      gi_wp2
      go_end0
      exact ⟨⟨_, rfl⟩, .inl ⟨_, rfl, hJs⟩⟩

set_option maxHeartbeats 1000000 in
theorem beaten.calls (F : Fence) (n : Nat) (h79 : F.fn 79) (hro : F.round = none) (A : Option Addr) (len c : Nat) (k : Int) (w : World) :
    CallsIn F n Try.prog 79 #[.slice A len c, .int .i64 k] w fun e w' => e = .returned (.func (.func 109) #[] #[.pointer (some ⟨w.heap.size, 0, none⟩), .pointer (some ⟨w.heap.size + 1, 0, none⟩)]) ∧
      w' = (w.alloc (.cells #[.slice A len c] 22)).alloc (.cells #[.int .i64 k] 3) := by
  refine callsIn_of_wp Try.func79 rfl h79 ?_ hro
  simp only [Try.ntmps79, List.size_toArray, List.length_cons, List.length_nil, Nat.reduceAdd, Nat.reduceSub, Array.replicate_succ, Array.replicate_zero, List.push_toArray, List.append_toArray, List.nil_append, List.cons_append]
  gi_wp2
  go_ret
  exact ⟨rfl, rfl⟩

abbrev encI (x : Int) : Array Value := #[.int .i64 x]

/-- The iterator's contract, in every world behind its making. -/
theorem beaten.stops (F : Fence) (n : Nat) (h109 : F.fn 109) (hro : F.round = none) (hn : 1 ≤ n) (B1 B2 : Nat) (A : Option Addr) (c : Nat) (t : List (List Int)) (k : Nat) (w0 w : World) (hr : Kd.C (Kd.slice 3 (Kd.int .i64)) w0 A t.length t) (hk : k < t.length)
    (hb0 : Below w0.heap.size w0 w) (hB1 : w.cell? ⟨B1, 0, none⟩ = some (.slice A t.length c)) (hB2 : w.cell? ⟨B2, 0, none⟩ = some (.int .i64 k)) :
    SeqStopsK F n Try.prog 109 #[.pointer (some ⟨B1, 0, none⟩), .pointer (some ⟨B2, 0, none⟩)] encI (Below w0.heap.size) (fun ys => ys = ones (t.getD k [])) (fun pre => ∃ m, m ≤ (t.getD k []).length ∧ pre = onesTo (t.getD k []) m) (t.getD k []).length w := fun l J Jx W hW _ _ hY h0 =>
  beaten_1.stops F n h109 hro hn l B1 B2 A c t k w0 hr hk J Jx (fun pre x W _ => hY pre x W) W (hb0.trans (hW.mono hb0.size)) ((hW.cell (World.block_lt_of_cell? w _ hB1)).trans hB1) ((hW.cell (World.block_lt_of_cell? w _ hB2)).trans hB2) h0

/-- A number below n. -/
abbrev Ix (n : Nat) := { x : Int // 0 ≤ x ∧ x < (n : Int) }
abbrev encX {n : Nat} (x : Ix n) : Array Value := #[.int .i64 x.1]
/-- The same for a body that must know that what it is handed is a strip. -/
theorem beaten.stopsX (F : Fence) (n : Nat) (h109 : F.fn 109) (hro : F.round = none) (hn : 1 ≤ n) (B1 B2 : Nat) (A : Option Addr) (c : Nat) (t : List (List Int)) (k : Nat) (w0 w : World) (hr : Kd.C (Kd.slice 3 (Kd.int .i64)) w0 A t.length t) (hk : k < t.length)
    (hb0 : Below w0.heap.size w0 w) (hB1 : w.cell? ⟨B1, 0, none⟩ = some (.slice A t.length c)) (hB2 : w.cell? ⟨B2, 0, none⟩ = some (.int .i64 k)) (m : Nat) (hm : (t.getD k []).length ≤ m) :
    SeqStopsK F n Try.prog 109 #[.pointer (some ⟨B1, 0, none⟩), .pointer (some ⟨B2, 0, none⟩)] (encX (n := m)) (Below w0.heap.size) (fun ys => ys.map (·.1) = ones (t.getD k [])) (fun pre => ∃ m, m ≤ (t.getD k []).length ∧ pre.map (·.1) = onesTo (t.getD k []) m) (t.getD k []).length w := fun l J Jx W hW _ _ hY h0 => by
  refine (beaten_1.stops F n h109 hro hn l B1 B2 A c t k w0 hr hk (fun pre W => ∃ pre' : List (Ix m), pre'.map (·.1) = pre ∧ J pre' W) (fun pre W => ∃ pre' : List (Ix m), pre'.map (·.1) = pre ∧ Jx pre' W) ?_ W (hb0.trans (hW.mono hb0.size)) ((hW.cell (World.block_lt_of_cell? w _ hB1)).trans hB1) ((hW.cell (World.block_lt_of_cell? w _ hB2)).trans hB2) ⟨[], rfl, h0⟩).mono ?_
  · rintro pre x W1 ⟨hx0, hx1⟩ ⟨pre', rfl, hj⟩ hlt
    obtain ⟨fn, tmps, assign, body, hy, hR⟩ := hY pre' ⟨x, hx0, by omega⟩ W1 hj (by simpa using hlt)
    refine ⟨fn, tmps, assign, body, hy, hR.mono ?_⟩
    rintro e W' (⟨he, hj', hk'⟩ | ⟨he, hj'⟩)
    · exact .inl ⟨he, ⟨_, by simp, hj'⟩, hk'⟩
    · exact .inr ⟨he, _, by simp, hj'⟩
  · rintro e W' ⟨hv, ⟨ys, rfl, pre', hp, hj⟩ | ⟨pre, ⟨q, hq, rfl⟩, pre', hp, hj⟩⟩
    · exact ⟨hv, .inl ⟨pre', hp, hj⟩⟩
    · exact ⟨hv, .inr ⟨pre', ⟨q, hq, hp⟩, hj⟩⟩

theorem info3 : (Try.prog.info? 3).map (fun i => (i.zero, i.size, i.bytes)) = some (some (.int .i64 0), 1, 8) := by kernel_rfl
theorem info27 : (Try.prog.info? 27).map (fun i => (i.zero, i.size, i.bytes)) = some (some (.slice none 0 0), 1, 24) := by kernel_rfl

set_option maxRecDepth 100000 in
set_option maxHeartbeats 2000000 in
/-- slices.AppendSeq(nil, seq), whatever the iterator: what has come, in new memory. -/
theorem appendSeq.calls (F : Fence) (n : Nat) (h123 : F.fn 123) (hro : F.round = none) (hn : 2 ≤ n) (g : Nat) (lb : Array Value) (hFg : F.fn g) (eg : ∀ args w, (callFunc g args).run Try.prog w = .ok (.enter g args) w)
    (S Sp : List Int → Prop) (N n₀ : Nat) (hN : N ≤ maxLen) (hNb : N * 8 ≤ 140737488355328) (w : World) (hn₀ : n₀ ≤ w.heap.size) (hseq : SeqStopsK F (n - 1) Try.prog g lb encI (Below n₀) S Sp N w) :
    CallsIn F n Try.prog 123 #[.slice none 0 0, .func (.func g) #[] lb] w fun e w' => ∃ (v : Value) (ss : List Int), e = .returned v ∧ S ss ∧ w'.ownsRow w.heap.size 3 1 v ss.length (ss.map (Value.int .i64)) ∧ Below w.heap.size w w' := by
  have h1 : 1 ≤ n := by omega
  obtain ⟨i0, hi, hz0, hz1, hz2⟩ := info_parts info3
  refine callsIn_of_wp_marks Try.func123 rfl h123 ?_ hro
  simp only [Try.ntmps123, List.size_toArray, List.length_cons, List.length_nil, Nat.reduceAdd, Nat.reduceSub, Array.replicate_succ, Array.replicate_zero, List.push_toArray, List.append_toArray, List.nil_append, List.cons_append]
  gi_wp2
  have bO := Boxed.new w 27 (.slice none 0 0)
  have hB0 : Below w.heap.size w (w.alloc (.cells #[.slice none 0 0] 27)) := (Below.refl _ w).alloc (Nat.le_refl _) _
  refine wpIn_rangeFunc_ownG hro h1 (gf := g) (lb := lb) rfl hFg eg hseq belowK_t (belowK_b (by simp; omega)) hB0 (fun _ => rfl)
    (fun pre W => (∃ v, Boxed W w.heap.size 27 v ∧ W.ownsRow w.heap.size 3 1 v pre.length (pre.map (Value.int .i64)) ∧ True) ∧ Below w.heap.size w W)
    (fun _ _ _ => False)
    (OwnFrom.and (Own.from (holdsRow_own w.heap.size w.heap.size 27 3 1 (fun pre : List Int => pre.length) (fun pre => pre.map (Value.int .i64)) (fun pre v => True)) _) (ownFrom_below (Nat.le_refl _) (by simp)))
    (fun _ _ _ _ _ hs _ _ => hs)
    ⟨⟨_, bO, World.ownsRow_nil _ _ _ _, trivial⟩, hB0⟩
    (fun x => { tmps := #[.slice none 0 0, .func (.func g) #[] lb, .pointer (some ⟨w.heap.size, 0, none⟩), undef, .slice none 0 0, .int .i64 x, .func (.func g) #[] lb, .int .i64 x, undef, undef, undef, undef, undef], defers := [] }) ?assign ?body ?done ?stop
  case assign =>
    intro l x W K hK
    gi_wp2
    exact hK
  case body =>
    rintro l pre x W ⟨⟨v, hv, hrow, _⟩, hB⟩ hlt
    have hc := hv.cell
    gi_wp2_with (gi_at_builtin; refine wpListIn_append_own _ rfl _ _ 27 rfl w.heap.size 3 i0 (.int .i64 0) 1 8 Try.underlying27 hi hz0 hz1 hz2 rfl (by decide) _ _ _ rfl (hrow.alloc _) ⟨W.heap.size, 0, none⟩ 1 1 [.int .i64 x] rfl rfl (cell_one_new _ _ _) (by simp [Value.oneCell']) (by omega) (by omega) (by have := hB.size; simp; omega) ?_; intro v' w1 hown' hgrow _; obtain ⟨g', cap', rfl⟩ := ownsRow_succ hown'; obtain ⟨hv1, hv2, hr2, hk2, hb2⟩ := hv.appended (by decide) hrow hB.size (Nat.le_refl _) hown' hgrow; have hc1 := hv1.cell; have hf1 := hv1.frozen)
    exact ⟨hk2.from _, hb2.mono hn₀, ⟨_, hv2, by simpa using hr2, trivial⟩, hB.trans hb2⟩
  case done =>
    rintro D ys W hD hS ⟨⟨v, hv, hrow, _⟩, hB⟩ hK
    have hc := hv.cell
    gi_wp2
    refine ⟨by simp, .inl ⟨_, _, rfl, run_takeDeferred hK, ?_⟩⟩
    exact ⟨_, results_tmp rfl _ _ _, v, ys, rfl, hS, ownsRow_putObj hrow _ hK rfl, hB.trans (belowK_b (w := w) (Nat.le_refl _) W D _ _ (by simp at hD; omega) hK rfl rfl)⟩
  case stop =>
    rintro D c pre W _ _ h _
    exact h.elim

set_option maxHeartbeats 1000000 in
theorem collect.calls (F : Fence) (n : Nat) (h106 : F.fn 106) (h123 : F.fn 123) (hro : F.round = none) (hn : 3 ≤ n) (g : Nat) (lb : Array Value) (hFg : F.fn g) (eg : ∀ args w, (callFunc g args).run Try.prog w = .ok (.enter g args) w)
    (S Sp : List Int → Prop) (N n₀ : Nat) (hN : N ≤ maxLen) (hNb : N * 8 ≤ 140737488355328) (w : World) (hn₀ : n₀ ≤ w.heap.size) (hseq : SeqStopsK F (n - 1 - 1) Try.prog g lb encI (Below n₀) S Sp N w) :
    CallsIn F n Try.prog 106 #[.func (.func g) #[] lb] w fun e w' => ∃ (v : Value) (ss : List Int), e = .returned v ∧ S ss ∧ w'.ownsRow w.heap.size 3 1 v ss.length (ss.map (Value.int .i64)) ∧ Below w.heap.size w w' := by
  have h1 : 1 ≤ n := by omega
  have hC := appendSeq.calls F (n - 1) h123 hro (by omega) g lb hFg eg S Sp N n₀ hN hNb w hn₀ hseq
  refine callsIn_of_wp Try.func106 rfl h106 ?_ hro
  simp only [Try.ntmps106, List.size_toArray, List.length_cons, List.length_nil, Nat.reduceAdd, Nat.reduceSub, Array.replicate_succ, Array.replicate_zero, List.push_toArray, List.append_toArray, List.nil_append, List.cons_append]
  clear hseq
  gi_wp2_with (gi_at_call 123; refine hC.mono ?_; rintro e w' ⟨v, ss, rfl, hS, hrow, hb⟩)
  go_ret
  exact ⟨v, ss, rfl, hS, hrow, hb⟩

end Go.Proofs.Ytbnjffhcpkfnhaa.H
