/- What a law's shop and list are, opened with all their cells. -/
import Derived.Test.YtpmjmhdofjbcbaaFK
import Derived.Deep.SlicePairs
import Derived.Lib.SmallJoins
import Derived.ChangeSlices
import Derived.SizedLaws
namespace Go.Proofs.Ytpmjmhdofjbcbaa.H
open Go.RowKit Go.Shelf Go.Deep Go.ChangeShapes Go.WideShapes Go.Proofs.Ytpmjmhdofjbcbaa.QA Go.Proofs.YtpmjmhdofjbcbaaW.PrintWords Go.Proofs.YtpmjmhdofjbcbaaW.PrintLast Go.Proofs.YtpmjmhdofjbcbaaW.PrintMore
set_option linter.unusedVariables false
set_option linter.unusedSimpArgs false
theorem bytes43 : Try.prog.bytesOf 43 = 16 := by kernel_rfl
theorem bytesI : Try.prog.bytesOf 3 = 8 := by kernel_rfl
theorem cells22 : Try.prog.cellsOf 22 = 1 := by kernel_rfl
theorem cells24 : Try.prog.cellsOf 24 = 2 := by kernel_rfl
/-- A row of feuds as it is handed in: Zs all its cells, l what it reads as. -/
structure FArg (w : World) (A : Option Addr) (n c : Nat) (zs l : List S43) : Prop where
  all : Kd.C k43 w A c zs
  le : n ≤ c
  size : c * 16 ≤ 140737488355328
  reads : Kd.C k43 w A n l
  fits : ∀ f ∈ l, WfF f
/-- A list as it is handed in. -/
structure IArg (w : World) (A : Option Addr) (n c : Nat) (zs l : List Int) : Prop where
  all : Kd.C (Kd.int .i64) w A c zs
  le : n ≤ c
  size : c * 8 ≤ 140737488355328
  reads : Kd.C (Kd.int .i64) w A n l
  fits : ∀ x ∈ l, (Lit.int .i64 x).wf = true
theorem C_int_cells {w : World} {A : Option Addr} {c : Nat} {zs : List Int} (hl : zs.length = c) (hm : c ≤ 9223372036854775807) (h : 0 < c → ∃ ad, A = some ad ∧ ∀ j, j < c → w.cell? (ad.add j) = some (.int .i64 (zs.getD j 0))) : Kd.C (Kd.int .i64) w A c zs :=
  Kd.C_of_reads (d := 0) ⟨hl, hm, h⟩
theorem C_int_take {w : World} {A : Option Addr} {n c : Nat} {zs : List Int} (h : Kd.C (Kd.int .i64) w A c zs) (hn : n ≤ c) : Kd.C (Kd.int .i64) w A n (zs.take n) := by
  have hl : zs.length = c := h.1
  refine C_int_cells (by rw [List.length_take]; omega) (by have := h.2.1; omega) (fun h0 => ?_)
  obtain ⟨ad, e, _⟩ := at_intsF h 0 (by omega)
  refine ⟨ad, e, fun j hj => ?_⟩
  obtain ⟨ad', e', hc⟩ := at_intsF h j (by omega)
  have : ad' = ad := by rw [e] at e'; exact (Option.some.inj e').symm
  subst this
  rw [hc, List.getD_eq_getElem?_getD, List.getD_eq_getElem?_getD, List.getElem?_take, if_pos hj]
theorem C_feuds {w : World} {a : Addr} {m : Nat} (hm : m ≤ 9223372036854775807) (F : Nat → S43) (h : ∀ i, i < m → w.cell? (a.add (i * 2)) = some (.int .i64 (F i).f0) ∧ w.cell? (a.add (i * 2 + 1)) = some (.int .i64 (F i).f1)) : Kd.C k43 w (some a) m ((List.range m).map F) := by
  refine ⟨by simp, hm, fun _ => ⟨a, rfl, fun j p hp => ?_⟩⟩
  have hj : j < m := by
    rcases Nat.lt_or_ge j m with q | q
    · exact q
    · rw [List.getElem?_eq_none (by simp; omega)] at hp; cases hp
  rw [List.getElem?_map, List.getElem?_range hj] at hp
  have e : F j = p := by simpa using hp
  subst e
  obtain ⟨c0, c1⟩ := h j hj
  refine ⟨_, rfl, k43_mk w (F j), fun i u hu => ?_⟩
  rw [ksz43]
  match i, hu with
  | 0, hu => simp at hu; subst hu; exact c0
  | 1, hu => simp at hu; subst hu; exact c1
  | i + 2, hu => simp at hu
section
variable {H : Type} {enc : TypeId × Value → H} {W : World} {base : Nat} {held : Bool}
theorem open_feuds {v : Value} {d : DataW H} {ps : List MemPlace} {fuel : Nat} (hf : DataW.trod enc Try.prog W base (fun _ => true) held fuel 22 [v] = some (d, ps))
    (hw : ∀ n ∈ d.weights Try.prog 22, n ≤ reachBytes) : ∃ a len cap zs l, v = .slice a len cap ∧ FArg W a len cap zs l := by
  rcases open_slice_pairs Try.underlying22 Try.underlying43 cells43 rfl rfl cells3 cells3 hf with ⟨hcs, _⟩ | ⟨a, len, cap, m, n, V0, V1, D0, D1, P0, P1, hcs, _, hl, hm, hmm, hx, hc⟩
  · simp only [List.cons.injEq, and_true] at hcs
    subst hcs
    exact ⟨_, _, _, [], [], rfl, ⟨rfl, by omega, fun h => absurd h (by omega)⟩, Nat.le_refl _, by omega, ⟨rfl, by omega, fun h => absurd h (by omega)⟩, by simp⟩
  · simp only [List.cons.injEq, and_true] at hcs
    subst hcs
    simp only [if_true] at hmm
    subst hmm
    simp only [Prod.mk.injEq] at hx
    obtain ⟨rfl, rfl⟩ := hx
    have hreach : reachBytes = 140737488351232 := rfl
    have hmax : maxLen = 9223372036854775807 := rfl
    have each : ∀ i, i < m → ∃ f : S43, V0 i = .int .i64 f.f0 ∧ V1 i = .int .i64 f.f1 ∧ WfF f := by
      intro i hi
      obtain ⟨_, _, h0, h1⟩ := hc i hi
      obtain ⟨x0, e0, _, w0⟩ := DataW.trod_int Try.underlying3 h0
      obtain ⟨x1, e1, _, w1⟩ := DataW.trod_int Try.underlying3 h1
      simp only [List.cons.injEq, and_true] at e0 e1
      exact ⟨⟨x0, x1⟩, e0, e1, w0, w1⟩
    obtain ⟨F, hF⟩ := choose_lt each
    have hcell : ∀ i, i < m → W.cell? (a.add (i * 2)) = some (.int .i64 (F i).f0) ∧ W.cell? (a.add (i * 2 + 1)) = some (.int .i64 (F i).f1) := fun i hi => by
      obtain ⟨c0, c1, _, _⟩ := hc i hi
      obtain ⟨e0, e1, _⟩ := hF i hi
      rw [c0, c1, e0, e1]
      exact ⟨rfl, rfl⟩
    refine ⟨some a, len, m, (List.range m).map F, (List.range len).map F, rfl, C_feuds (by omega) F hcell, hl, ?_, C_feuds (by omega) F (fun i hi => hcell i (by omega)), fun f hf => ?_⟩
    · have := hw (m * 16) (by
        simp only [DataW.weights, Try.underlying22, List.mem_cons]
        left
        rw [bytes43]
        congr 1
        simp only [List.length_map, List.length_range]
        omega)
      omega
    · obtain ⟨i, hi, rfl⟩ := List.mem_map.1 hf
      exact (hF i (by have := List.mem_range.1 hi; omega)).2.2
set_option maxRecDepth 100000 in
theorem open_shop {r : Reach} {b0 : Nat} {v : Value} {d : DataW H} {ps : List MemPlace} (hv : Value.okWide Try.prog W r b0 24 v) (h : DataW.Trod enc Try.prog W base (fun _ => true) held 24 v d ps)
    (hw : ∀ n ∈ d.weights Try.prog 24, n ≤ reachBytes) : ∃ p a len cap zs l, v = .agg #[.int .i64 p, .slice a len cap] ∧ (Lit.int .i64 p).wf = true ∧ FArg W a len cap zs l := by
  obtain ⟨v0, v1, y0, y1, n, rfl, rfl, _, h0, h1⟩ := Go.Joins.open_agg2 Try.underlying24 (by kernel_rfl) cells24 hv h
  obtain ⟨x0, e0, _, w0⟩ := DataW.trod_int Try.underlying3 h0
  simp only [List.cons.injEq, and_true] at e0
  subst e0
  obtain ⟨a, len, cap, zs, l, rfl, hF⟩ := open_feuds (d := y1.1) (ps := y1.2) h1 (fun m hm => hw m (by
    simp [DataW.weights, Try.underlying24, DataW.weightsEach, hm]))
  exact ⟨x0, a, len, cap, zs, l, rfl, w0, hF⟩
theorem open_list {a : Option Addr} {len cap : Nat} {d : DataW H} {ps : List MemPlace} {fuel : Nat} (hf : DataW.trod enc Try.prog W base (fun _ => true) held fuel 30 [.slice a len cap] = some (d, ps))
    (hw : ∀ n ∈ d.weights Try.prog 30, n ≤ reachBytes) : ∃ zs l, IArg W a len cap zs l := by
  rcases open_ints Try.underlying30 Try.underlying3 cells3 hf with ⟨hcs, _⟩ | ⟨x, l, c, zs, hcs, _, hl, hm, hz, hx, hcell, hwz⟩
  · simp at hcs
    obtain ⟨rfl, rfl, rfl⟩ := hcs
    exact ⟨[], [], ⟨⟨rfl, by omega, fun h => absurd h (by omega)⟩, Nat.le_refl _, by omega, ⟨rfl, by omega, fun h => absurd h (by omega)⟩, by simp⟩⟩
  · simp at hcs
    obtain ⟨rfl, rfl, rfl⟩ := hcs
    simp only [Prod.mk.injEq] at hx
    obtain ⟨rfl, rfl⟩ := hx
    have hreach : reachBytes = 140737488351232 := rfl
    have hmax : maxLen = 9223372036854775807 := rfl
    simp only [if_true] at hz
    have hC : Kd.C (Kd.int .i64) W (some x) cap zs := C_int_cells hz (by omega) (fun _ => ⟨x, rfl, fun j hj => hcell j (by omega)⟩)
    refine ⟨zs, zs.take len, ⟨hC, hl, ?_, C_int_take hC hl, fun y hy => hwz y (List.mem_of_mem_take hy)⟩⟩
    have := hw (zs.length * 8) (by
      simp only [DataW.weights, Try.underlying30, List.mem_cons]
      left
      rw [bytesI]
      congr 1
      simp only [lits, List.length_map, List.length_take, List.length_drop]
      omega)
    omega
end
end Go.Proofs.Ytpmjmhdofjbcbaa.H
