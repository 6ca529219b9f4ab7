/- What a law's table and list are, opened with all their cells. -/
import Derived.Test.YtbnjffhcpkfnhaaHT
import Derived.Deep.Matrix
import Derived.SizedLaws
namespace Go.Proofs.Ytbnjffhcpkfnhaa.H
open Go.RowKit Go.Shelf Go.Deep Go.ChangeShapes Go.WideShapes Go.Proofs.YtbnjffhcpkfnhaaW.PrintWords Go.Proofs.YtbnjffhcpkfnhaaW.PrintLast Go.Proofs.YtbnjffhcpkfnhaaW.PrintMore
set_option linter.unusedVariables false

theorem weights_all {H : Type} {P : Program} {e : TypeId} : ∀ {l : List (DataW H)} {d : DataW H}, d ∈ l → ∀ n ∈ d.weights P e, n ∈ DataW.weightsAll P e l
  | x :: l, d, hd, n, hn => by
    simp only [DataW.weightsAll, List.mem_append]
    rcases List.mem_cons.1 hd with rfl | h
    · exact .inl hn
    · exact .inr (weights_all h n hn)

theorem cells27 : Try.prog.cellsOf 27 = 1 := by kernel_rfl
theorem cells3 : Try.prog.cellsOf 3 = 1 := by kernel_rfl
theorem bytes27 : Try.prog.bytesOf 27 = 24 := by kernel_rfl
theorem bytes3 : Try.prog.bytesOf 3 = 8 := by kernel_rfl

/-- A table as it is handed in: Zs all its rows' cells, T what it reads as. -/
structure TArg (w : World) (A : Option Addr) (n c : Nat) (Zs T : List (List Int)) : Prop where
  tab : TabC w A c Zs
  le : n ≤ c
  size : c * 24 ≤ 140737488355328
  reads : Kd.C (Kd.slice 3 (Kd.int .i64)) w A n T
  fits : ∀ l ∈ T, ∀ x ∈ l, (Lit.int .i64 x).wf = true
/-- A list as it is handed in. -/
structure IArg (w : World) (A : Option Addr) (n c : Nat) (zs l : List Int) : Prop where
  all : Kd.C (Kd.int .i64) w A c zs
  le : n ≤ c
  size : c * 8 ≤ 140737488355328
  reads : Kd.C (Kd.int .i64) w A n l
  fits : ∀ x ∈ l, (Lit.int .i64 x).wf = true

theorem C_int_cells {w : World} {A : Option Addr} {c : Nat} {zs : List Int} (hl : zs.length = c) (hm : c ≤ 9223372036854775807) (h : 0 < c → ∃ ad, A = some ad ∧ ∀ j, j < c → w.cell? (ad.add j) = some (.int .i64 (zs.getD j 0))) : Kd.C (Kd.int .i64) w A c zs :=
  Kd.C_of_reads (d := 0) ⟨hl, hm, h⟩
theorem C_int_take {w : World} {A : Option Addr} {n c : Nat} {zs : List Int} (h : Kd.C (Kd.int .i64) w A c zs) (hn : n ≤ c) : Kd.C (Kd.int .i64) w A n (zs.take n) := by
  have hl : zs.length = c := h.1
  refine C_int_cells (by rw [List.length_take]; omega) (by have := h.2.1; omega) (fun h0 => ?_)
  obtain ⟨ad, e, _⟩ := at_ints h 0 (by omega)
  refine ⟨ad, e, fun j hj => ?_⟩
  obtain ⟨ad', e', hc⟩ := at_ints h j (by omega)
  have : ad' = ad := by rw [e] at e'; exact (Option.some.inj e').symm
  subst this
  rw [hc, List.getD_eq_getElem?_getD, List.getD_eq_getElem?_getD, List.getElem?_take, if_pos hj]

section
variable {H : Type} {enc : TypeId × Value → H} {W : World} {base : Nat} {held : Bool}
theorem open_table {a : Option Addr} {len cap : Nat} {d : DataW H} {ps : List MemPlace} {fuel : Nat} (hf : DataW.trod enc Try.prog W base (fun _ => true) held fuel 22 [.slice a len cap] = some (d, ps))
    (hw : ∀ n ∈ d.weights Try.prog 22, n ≤ reachBytes) : ∃ Zs T, TArg W a len cap Zs T := by
  rcases open_int_rows Try.underlying22 Try.underlying27 Try.underlying3 cells27 cells3 hf with ⟨hcs, _⟩ | ⟨a, len', cap', A, L, C, Z, hcs, _, hl, hm, hx, hrows⟩
  · simp at hcs
    obtain ⟨rfl, rfl, rfl⟩ := hcs
    refine ⟨[], [], ⟨⟨rfl, fun r hr => absurd hr (by omega)⟩, Nat.le_refl _, by omega, ⟨rfl, by omega, fun h => absurd h (by omega)⟩, by simp⟩⟩
  · simp at hcs
    obtain ⟨rfl, rfl, rfl⟩ := hcs
    simp only [Prod.mk.injEq] at hx
    obtain ⟨rfl, rfl⟩ := hx
    have hreach : reachBytes = 140737488351232 := rfl
    have hmax : maxLen = 9223372036854775807 := rfl
    simp only [DataW.weights, Try.underlying22, List.length_map, List.length_range, bytes27, List.mem_cons, List.mem_append] at hw
    have hcap : cap * 24 ≤ 140737488355328 := by
      have := hw _ (.inl rfl)
      rw [show len + (cap - len) = cap by omega] at this
      omega
    have hrow : ∀ r, r < cap → (Z r).length * 8 ≤ 140737488355328 := by
      intro r hr
      obtain ⟨_, h2, h3, h4, _, h6, _⟩ := hrows r hr
      cases hA : A r with
      | none => rw [h4, h6 hA]; omega
      | some a' =>
        have hmem : ∀ n, n ∈ (intRow (H := H) .i64 (A r) (L r) (Z r)).weights Try.prog 27 → n ≤ reachBytes := by
          intro n hn
          by_cases hr2 : r < len
          · exact hw n (.inr (.inl (weights_all (List.mem_map.2 ⟨r, List.mem_range.2 hr2, rfl⟩) n hn)))
          · refine hw n (.inr (.inr (weights_all (List.mem_map.2 ⟨r - len, List.mem_range.2 (by omega), ?_⟩) n hn)))
            rw [show len + (r - len) = r by omega]
        have := hmem ((Z r).length * 8) (by
          rw [hA]
          simp only [intRow, DataW.weights, Try.underlying27, List.mem_cons]
          left
          rw [bytes3]
          congr 1
          simp only [lits, List.length_map, List.length_take, List.length_drop]
          omega)
        omega
    have hC : ∀ r, r < cap → Kd.C (Kd.int .i64) W (A r) (C r) (Z r) := by
      intro r hr
      obtain ⟨_, h2, h3, h4, _, h6, h7⟩ := hrows r hr
      refine C_int_cells h4 (by omega) (fun h0 => ?_)
      cases hA : A r with
      | none => have := h6 hA; omega
      | some a' => exact ⟨a', rfl, (h7 a' hA).2⟩
    have hgz : ∀ r, r < cap → ((List.range cap).map Z).getD r [] = Z r := by
      intro r hr
      rw [List.getD_eq_getElem?_getD, List.getElem?_map, List.getElem?_range hr]; rfl
    refine ⟨(List.range cap).map Z, (List.range len).map fun r => (Z r).take (L r), ⟨⟨by simp, fun r hr => ?_⟩, hl, hcap, ⟨by simp, by omega, fun h0 => ⟨a, rfl, fun j p hp => ?_⟩⟩, ?_⟩⟩
    · obtain ⟨h1, h2, h3, h4, _, h6, h7⟩ := hrows r hr
      rw [hgz r hr, h4]
      exact ⟨a, A r, L r, rfl, h2, h1, hC r hr, by have := hrow r hr; omega⟩
    · obtain ⟨hj, hp'⟩ : j < len ∧ (Z j).take (L j) = p := by
        by_cases hj : j < len
        · rw [List.getElem?_map, List.getElem?_range hj] at hp
          exact ⟨hj, by simpa using hp⟩
        · rw [List.getElem?_eq_none (by simp; omega)] at hp
          cases hp
      subst hp'
      obtain ⟨h1, h2, h3, h4, _, h6, h7⟩ := hrows j (by omega)
      have hll : ((Z j).take (L j)).length = L j := by rw [List.length_take]; omega
      refine ⟨[.slice (A j) (L j) (C j)], rfl, ⟨A j, C j, by rw [hll], by rw [hll]; exact h2, by rw [hll]; exact C_int_take (hC j (by omega)) h2⟩, fun i u hu => ?_⟩
      cases i with
      | zero =>
        simp at hu; subst hu
        have e1 : (Kd.slice 3 (Kd.int .i64)).sz = 1 := rfl
        rw [e1, Nat.mul_one, Nat.add_zero]
        exact h1
      | succ i => simp at hu
    · intro l hl2 x hx2
      obtain ⟨r, hr, rfl⟩ := List.mem_map.1 hl2
      obtain ⟨_, _, _, _, h5, _⟩ := hrows r (by have := List.mem_range.1 hr; omega)
      exact h5 x (List.mem_of_mem_take hx2)
theorem open_list {a : Option Addr} {len cap : Nat} {d : DataW H} {ps : List MemPlace} {fuel : Nat} (hf : DataW.trod enc Try.prog W base (fun _ => true) held fuel 27 [.slice a len cap] = some (d, ps))
    (hw : ∀ n ∈ d.weights Try.prog 27, n ≤ reachBytes) : ∃ zs l, IArg W a len cap zs l := by
  rcases open_ints Try.underlying27 Try.underlying3 cells3 hf with ⟨hcs, _⟩ | ⟨x, l, c, zs, hcs, _, hl, hm, hz, hx, hcell, hwz⟩
  · simp at hcs
    obtain ⟨rfl, rfl, rfl⟩ := hcs
    exact ⟨[], [], ⟨⟨rfl, by omega, fun h => absurd h (by omega)⟩, Nat.le_refl _, by omega, ⟨rfl, by omega, fun h => absurd h (by omega)⟩, by simp⟩⟩
  · simp at hcs
    obtain ⟨rfl, rfl, rfl⟩ := hcs
    simp only [Prod.mk.injEq] at hx
    obtain ⟨rfl, rfl⟩ := hx
    have hreach : reachBytes = 140737488351232 := rfl
    have hmax : maxLen = 9223372036854775807 := rfl
    simp only [if_true] at hz
    have hC : Kd.C (Kd.int .i64) W (some x) cap zs := C_int_cells hz (by omega) (fun _ => ⟨x, rfl, fun j hj => hcell j (by omega)⟩)
    refine ⟨zs, zs.take len, ⟨hC, hl, ?_, C_int_take hC hl, fun y hy => hwz y (List.mem_of_mem_take hy)⟩⟩
    have := hw (zs.length * 8) (by
      simp only [DataW.weights, Try.underlying27, List.mem_cons]
      left
      rw [bytes3]
      congr 1
      simp only [lits, List.length_map, List.length_take, List.length_drop]
      omega)
    omega
end
end Go.Proofs.Ytbnjffhcpkfnhaa.H
