/- slices.Compact at an own row of feuds. -/
import Derived.Test.YtpmjmhdofjbcbaaFR
import Derived.Lib.SlicesCompact
import Derived.Lib.SliceRun
import Derived.Deep.QuietTactic
import Derived.BigQuiet
import Derived.Deep.RegionHeld3
namespace Go.Proofs.Ytpmjmhdofjbcbaa.H
open Go.Shelf Go.RowKit Go.Proofs.Ytpmjmhdofjbcbaa.QA Go.Proofs.YtpmjmhdofjbcbaaW.PrintWords Go.Proofs.YtpmjmhdofjbcbaaW.PrintLast Go.Proofs.YtpmjmhdofjbcbaaW.PrintMore
set_option linter.unusedVariables false
set_option linter.unusedSimpArgs false
theorem rowF_cells {w : World} {g cap : Nat} {l : List S43} (h : RowF w g cap l) {j : Nat} (hj : j < l.length) : w.cell? ⟨g, j * 2, none⟩ = some (.int .i64 (l.getD j z43).f0) ∧ w.cell? ⟨g, j * 2 + 1, none⟩ = some (.int .i64 (l.getD j z43).f1) := by
  obtain ⟨cur, hh, _, _, _, hc⟩ := h
  obtain ⟨c0, c1⟩ := hc j (l.getD j z43) (by rw [List.getD_eq_getElem?_getD, List.getElem?_eq_getElem hj]; rfl)
  exact ⟨(blk_cell hh _).trans c0, (blk_cell hh _).trans c1⟩
theorem ite_eq (x y : S43) (w : World) (a b : Bool) : (if x.f0 = y.f0 then if x.f1 = y.f1 then (Result.ok (Value.bool a) w : Result Value) else Result.ok (Value.bool b) w else Result.ok (Value.bool b) w) = Result.ok (Value.bool (bif decide (x = y) then a else b)) w := by
  by_cases h : x = y
  · subst h; simp
  · have : ¬ (x.f0 = y.f0 ∧ x.f1 = y.f1) := fun e => h (by cases x; cases y; simp at e; rw [e.1, e.2])
    rw [decide_eq_false h]
    by_cases h0 : x.f0 = y.f0
    · rw [if_pos h0, if_neg (fun h1 => this ⟨h0, h1⟩)]; rfl
    · rw [if_neg h0]; rfl
theorem eqlF (x y : S43) (w : World) : Sem.run Try.prog (binOp .eql 43 (.agg #[.int .i64 x.f0, .int .i64 x.f1]) (.agg #[.int .i64 y.f0, .int .i64 y.f1])) w = .ok (.bool (decide (x = y))) w := by
  go_simp
  exact (ite_eq x y w true false).trans (by by_cases h : x = y <;> simp [h])
theorem neqF (x y : S43) (w : World) : Sem.run Try.prog (binOp .neq 43 (.agg #[.int .i64 x.f0, .int .i64 x.f1]) (.agg #[.int .i64 y.f0, .int .i64 y.f1])) w = .ok (.bool (!decide (x = y))) w := by
  go_simp
  exact (ite_eq x y w false true).trans (by by_cases h : x = y <;> simp [h])
theorem grdF (op : BinOp) (a b : Operand) (x y : S43) (w : World) : Sem.run Try.prog (eqGuard op 43 a b (.agg #[.int .i64 x.f0, .int .i64 x.f1]) (.agg #[.int .i64 y.f0, .int .i64 y.f1])) w = .ok () w := by
  go_simp
theorem rowF_grown {w w' : World} {g cap : Nat} {l : List S43} (h : RowF w g cap l) {r : Option Nat} (hg : w.grownBy w' r) (hr : some g ≠ r) : RowF w' g cap l := by
  obtain ⟨cur, hh, rest⟩ := h
  exact ⟨cur, blk_grown hh hg hr, rest⟩
theorem compInv_rows {l : List S43} {m k : Nat} {dk : Array S43} (h : Lib.CompInv l.toArray m k dk) (j : Nat) (hj : k ≤ j) (hl : j < l.length) : dk.toList.getD j z43 = l.getD j z43 := by
  have h1 := h.high j hj
  have h2 := h.size
  have h3 : dk.size = l.length := by simpa using h2
  rw [List.getD_eq_getElem?_getD, List.getD_eq_getElem?_getD, List.getElem?_eq_getElem hl, List.getElem?_eq_getElem (by simpa [h3] using hl)]
  rw [getElem!_pos dk j (by omega), getElem!_pos _ j (by simpa using hl)] at h1
  simpa using h1
theorem arr_get {l : List S43} {j : Nat} (hl : j < l.length) : l.toArray[j]! = l.getD j z43 := by
  rw [getElem!_pos _ j (by simpa using hl), List.getD_eq_getElem?_getD, List.getElem?_eq_getElem hl]
  simp
/-- The cells behind the first of a row are written: the first stay. -/
theorem setCells_grown (w : World) (g : Nat) (vs : List Value) (o : Nat) : w.grownBy (w.setCells g o vs) (some g) := by
  obtain ⟨h1, h2, h3, h4⟩ := setCells_same g vs o w
  exact ⟨h1, h2, h3, by omega, fun k _ hne => setCells_far vs o k (fun e => hne (by rw [e]))⟩
theorem rowF_tail {w : World} {g cap : Nat} {l : List S43} (h : RowF w g cap l) {k : Nat} (hk : k ≤ l.length) (vs : List Value) (o : Nat) (ho : k * 2 ≤ o) (hv : o + vs.length ≤ cap * 2) : RowF (w.setCells g o vs) g cap (l.take k) := by
  obtain ⟨cur, hh, hlc, hcm, hcs, hc⟩ := h
  obtain ⟨cur', h1, h2, h3⟩ := setCells_row vs o w cur hh (by omega)
  have hl : (l.take k).length = k := by rw [List.length_take]; omega
  refine ⟨cur', h1, by omega, hcm, by omega, fun j f hf => ?_⟩
  have hj := (List.getElem?_eq_some_iff.1 hf).1
  rw [List.getElem?_take, if_pos (by omega)] at hf
  have key : ∀ t, t < o → cur'[t]? = cur[t]? := by
    intro t ht
    rw [← Array.getElem?_toList, h3, List.append_assoc, List.getElem?_append_left (by rw [List.length_take, Array.length_toList]; omega), List.getElem?_take, if_pos ht, Array.getElem?_toList]
  rw [key _ (by omega), key _ (by omega)]
  exact hc j f hf
theorem clear_own {w : World} {g cap : Nat} {l : List S43} (h : RowF w g cap l) {k n : Nat} (hk : k < n) (hn : n ≤ cap) (hl : k ≤ l.length) (ty : TypeId) (c : Nat) : ∃ w2, (Builtin.clear_ #[22] ty #[.slice (some ⟨g, k * 2, none⟩) (n - k) c]).run Try.prog w = .ok (.tuple #[]) w2 ∧ RowF w2 g cap (l.take k) ∧ w.grownBy w2 (some g) := by
  have hF := h
  obtain ⟨cur, hh, hlc, hcm, hcs, hc⟩ := h
  obtain ⟨zs, hzs⟩ : ∃ zs, zs = (Builtin.zeroCells #[Value.int .i64 0, Value.int .i64 0] (n - k)).toList := ⟨_, rfl⟩
  have hlen : zs.length = (n - k) * 2 := by rw [hzs]; simp [Builtin.zeroCells]
  have hone : ∀ v ∈ zs, v.oneCell' = true := by
    intro v hv
    rw [hzs] at hv
    simp only [Builtin.zeroCells, Array.toList_map, List.mem_map] at hv
    obtain ⟨i, _, rfl⟩ := hv
    have : i % 2 = 0 ∨ i % 2 = 1 := by omega
    rcases this with e | e <;> simp [e] <;> rfl
  have hst := run_storeCells_cells (P := Try.prog) g (k * 2) zs 0 w (fun j hj => by
    rw [blk_cell hh, Array.getElem?_eq_getElem (by omega)]; rfl) (fun j hj => blk_frozen hh _) hone
  simp only [Nat.add_zero] at hst
  obtain ⟨m, hm⟩ : ∃ m, n - k = m + 1 := ⟨n - k - 1, by omega⟩
  obtain ⟨h1, h2⟩ := And.intro (rowF_tail hF hl zs (k * 2) (Nat.le_refl _) (by omega)) (setCells_grown w g zs (k * 2))
  refine ⟨_, ?_, h1, h2⟩
  have hz : ∀ w, (zeroValue 43).run Try.prog w = .ok (.agg #[.int .i64 0, .int .i64 0]) w := fun w => by kernel_rfl
  rw [hm] at hzs ⊢
  simp [Builtin.clear_, run_underlying Try.underlying22, hz, Value.cells, ← hzs, hst]
theorem compact_take {l : List S43} {kk : Nat} {dk : Array S43} (h : Lib.CompInv l.toArray l.length kk dk) : Lib.compact l = dk.toList.take kk := by
  have hs : dk.size = l.length := by simpa using h.size
  have hlt := h.lt
  apply List.ext_getElem?
  intro j
  rw [List.getElem?_take]
  by_cases hj : j < kk
  · rw [if_pos hj]
    refine (h.low j hj).trans ?_
    rw [getElem!_pos dk j (by omega)]
    simp [show j < dk.size by omega]
  · rw [if_neg hj, List.getElem?_eq_none]
    have := h.len
    unfold Lib.compact
    omega
theorem store_rowF {ops : Array Oper} {rest : List Oper} {o : Oper} {a : Act} {Q : Exit → Act → World → Prop} {W : World} (hN : o.dst = none) (hgd : o.guard = none) (p x : Operand) (ho : o.op = .store 43 p x) {g cap : Nat} (i : Nat) {l : List S43} (f : S43)
    (haddr : a.eval p = .pointer (some ⟨g, i * 2, none⟩)) (hx : a.eval x = .agg #[.int .i64 f.f0, .int .i64 f.f1]) (hF : RowF W g cap l) (hi : i < l.length)
    (h : ∀ w1, RowF w1 g cap (l.set i f) → W.grownBy w1 (some g) → wpList Try.prog ops Q rest a w1) : wpList Try.prog ops Q (o :: rest) a W := by
  have HO := rowF_to (base := 0) (ok := fun _ => True) hF trivial (Nat.zero_le _)
  obtain ⟨c, hcl, hM, hcc, hfr⟩ := Kd.R_elem HO z43 (i : Int) (by omega) (by omega)
  refine Kd.R_store k43 (w0 := W) 0 hN hgd 43 p x ho 43 (i : Int) 0 l f _ [.int .i64 f.f0, .int .i64 f.f1] c (fun _ => True) (fun _ => False) haddr (by simp [ksz43]) hx rfl (by kernel_rfl) (by intro q hq; simp at hq; rcases hq with rfl | rfl <;> rfl) HO (by omega) (by omega) hcl hcc (by simp [ksz43]) ?_ (fun _ hk => hk.elim) (Below.refl _ _) ?_
  · rw [List.take_zero, List.nil_append, List.drop_eq_nil_of_le (by rw [hcl]; simp [ksz43]), List.append_nil]
    exact k43_mkM _ _ _ f
  · intro w1 hR _ hg
    rw [Int.toNat_natCast] at hR
    exact h w1 (rowF_of hR).2.2.2 hg
theorem same_all {l : List S43} (hall : ∀ j, j < l.length → Lib.keeps l.toArray j = true) : Lib.compact l = l := Lib.compact_all l hall
set_option maxRecDepth 100000 in
set_option maxHeartbeats 8000000 in
theorem compact1.calls (g cap n : Nat) (l : List S43) (w : World) (hn : l.length = n) (h2 : 2 ≤ n) (hl : n ≤ 1000) (hnc : n ≤ cap) (hF : RowF w g cap l) :
    Calls Try.prog 120 #[.slice (some ⟨g, 0, none⟩) n cap] w fun e w' => e = .returned (.slice (some ⟨g, 0, none⟩) (Lib.compact l).length cap) ∧ RowF w' g cap (Lib.compact l) ∧ w.grownBy w' (some g) := by
  have HF := Aside0.mk hF
  have HN := Aside0.mk hn
  clear hF hn
  go_enter Try.func120, Try.ntmps120
  go_wp2
  go_loopw [3] (fun s3 wr => ∃ k q : Nat, k + 1 ≤ n ∧ s3 = .int .i64 ((k + 1 : Nat) : Int) ∧ wr = w.drewN q ∧ Aside0 (∀ j, j < k + 1 → Lib.keeps l.toArray j = true)) (fun s3 _ => n - (intOf s3).toNat)
  case atStart => exact ⟨0, 0, by omega, rfl, rfl, ⟨Lib.keeps_lt_one _⟩⟩
  case round =>
    obtain ⟨k, q, hk, rfl, rfl, HA⟩ := hrel
    by_cases hlt : k + 1 < n
    · obtain ⟨ca0, ca1⟩ := rowF_cells (rowF_move HF.out (show (w.drewN q).heap[g]? = w.heap[g]? from rfl)) (show k < l.length by rw [HN.out]; omega)
      obtain ⟨cb0, cb1⟩ := rowF_cells (rowF_move HF.out (show (w.drewN q).heap[g]? = w.heap[g]? from rfl)) (show k + 1 < l.length by rw [HN.out]; omega)
      generalize hx : l.getD k z43 = x at ca0 ca1
      generalize hy : l.getD (k + 1) z43 = y at cb0 cb1
      have HX := Aside0.mk hx
      have HY := Aside0.mk hy
      clear hx hy
      obtain ⟨w1, hw1⟩ : ∃ w1, w1 = w.drewN q := ⟨_, rfl⟩
      rw [← hw1] at ca0 ca1 cb0 cb1 ⊢
      have HW1 := Aside0.mk hw1
      clear hw1
      have he := eqlF y x
      have hg := fun op a b => grdF op a b y x
      generalize hK : k + 1 = K at *
      have i0 : (0 : Int) ≤ (K : Int) := by omega
      have i1 : (K : Int) < (n : Int) := by omega
      have i2 : (0 : Int) ≤ (k : Int) := by omega
      have i3 : (k : Int) < (n : Int) := by omega
      have i4 : IntKind.i64.wrap ((K : Int) - 1) = k := by rw [show ((K : Int) - 1) = (k : Int) by omega]; simp [IntKind.wrap, IntKind.bits, IntKind.signed]; omega
      have HK := Aside0.mk hK
      clear hK
      have HB : Aside0 (Lib.keeps l.toArray K = !decide (y = x)) := by
        refine ⟨?_⟩
        have hKk := HK.out
        have e1 := arr_get (l := l) (j := K) (by rw [HN.out]; omega)
        have e2 := arr_get (l := l) (j := K - 1) (by rw [HN.out]; omega)
        have e3 : K - 1 = k := by omega
        have hX := HX.out
        have hY := HY.out
        unfold Lib.keeps
        rw [e1, e2, e3, hX, hY]
        by_cases e : y = x
        · simp [e]; omega
        · simp [e]
      generalize decide (y = x) = b at he HB
      cases b with
      | false =>
        go_wp2_with fail
        go_region_held3 (fun w' => w'.cell? ⟨g, k * 2, none⟩ = some (.int .i64 x.f0) ∧ w'.cell? ⟨g, k * 2 + 1, none⟩ = some (.int .i64 x.f1) ∧ w'.cell? ⟨g, K * 2, none⟩ = some (.int .i64 y.f0) ∧ w'.cell? ⟨g, K * 2 + 1, none⟩ = some (.int .i64 y.f1)) (first | exact ⟨ca0, ca1, cb0, cb1⟩ | go_keep) (fail)
        clear ca0 ca1 cb0 cb1 he hg i4
        go_wp2
        go_roundw
        case rel => exact ⟨K, q + 1, by omega, by go_num, by rw [HW1.out]; rfl, ⟨fun j hj => by
          have hKk := HK.out
          by_cases e : j = K
          · subst e; rw [HB.out]; rfl
          · exact HA.out j (by omega)⟩⟩
        case measure => simp [intOf]; omega
      | true =>
        go_wp2_with fail
        go_region_held3 (fun w' => w'.cell? ⟨g, k * 2, none⟩ = some (.int .i64 x.f0) ∧ w'.cell? ⟨g, k * 2 + 1, none⟩ = some (.int .i64 x.f1) ∧ w'.cell? ⟨g, K * 2, none⟩ = some (.int .i64 y.f0) ∧ w'.cell? ⟨g, K * 2 + 1, none⟩ = some (.int .i64 y.f1)) (first | exact ⟨ca0, ca1, cb0, cb1⟩ | go_keep) (fail)
        clear ca0 ca1 cb0 cb1 he hg i4
        go_wp2
        go_loopw [3, 5] (fun s3 s5 wr => ∃ (kk j : Nat) (dk : Array S43), s3 = .int .i64 kk ∧ s5 = .int .i64 ((j + 1 : Nat) : Int) ∧ K + (j + 1) ≤ n ∧ kk < K + (j + 1) ∧ Aside0 (Lib.CompInv l.toArray (K + (j + 1)) kk dk) ∧ Aside0 (RowF wr g cap dk.toList) ∧ Aside0 (w.grownBy wr (some g))) (fun _ s5 _ => n - (intOf s5).toNat)
        case atStart =>
          have hst := Lib.CompInv.start HA.out HB.out
          refine ⟨K, 0, l.toArray, rfl, rfl, by omega, by omega, ⟨hst⟩, ⟨?_⟩, ⟨?_⟩⟩
          · rw [HW1.out]; exact rowF_move HF.out rfl
          · rw [HW1.out]; exact ⟨rfl, rfl, rfl, Nat.le_refl _, fun _ _ _ => rfl⟩
        case round =>
          obtain ⟨kk, j, dk, rfl, rfl, hJ, hkk, HI, HR, HG⟩ := hrel
          by_cases hlt2 : K + (j + 1) < n
          · obtain ⟨cm0, cm1⟩ := rowF_cells HR.out (j := K + (j + 1)) (by have := HI.out.size; simp at this; have := HN.out; simp; omega)
            obtain ⟨cp0, cp1⟩ := rowF_cells HR.out (j := K + j) (by have := HI.out.size; simp at this; have := HN.out; simp; omega)
            rw [compInv_rows HI.out _ (by omega) (by rw [HN.out]; omega), Nat.add_mul K (j + 1) 2] at cm0 cm1
            rw [compInv_rows HI.out _ (by omega) (by rw [HN.out]; omega), Nat.add_mul K j 2] at cp0 cp1
            generalize hx2 : l.getD (K + (j + 1)) z43 = x2 at cm0 cm1
            generalize hy2 : l.getD (K + j) z43 = y2 at cp0 cp1
            have HX2 := Aside0.mk hx2
            have HY2 := Aside0.mk hy2
            clear hx2 hy2
            have he := neqF x2 y2
            have hg := fun op a b => grdF op a b x2 y2
            have HD2 : Aside0 (kk < dk.toList.length) := ⟨by have := HI.out.size; simp at this; have := HN.out; simp; omega⟩
            generalize hJ1 : j + 1 = J at *
            have j0 : (0 : Int) ≤ (J : Int) := by omega
            have j1 : (J : Int) < ((n - K : Nat) : Int) := by omega
            have j2 : (0 : Int) ≤ (j : Int) := by omega
            have j3 : (j : Int) < ((n - K : Nat) : Int) := by omega
            have j4 : IntKind.i64.wrap ((J : Int) - 1) = j := by rw [show ((J : Int) - 1) = (j : Int) by omega]; simp [IntKind.wrap, IntKind.bits, IntKind.signed]; omega
            have j5 : (0 : Int) ≤ (kk : Int) := by omega
            have j6 : (kk : Int) < (n : Int) := by omega
            have HJ1 := Aside0.mk hJ1
            clear hJ1
            have HB2 : Aside0 (Lib.keeps l.toArray (K + J) = !decide (x2 = y2)) := by
              refine ⟨?_⟩
              have hKk := HJ1.out
              have e1 := arr_get (l := l) (j := K + J) (by rw [HN.out]; omega)
              have e2 := arr_get (l := l) (j := K + J - 1) (by rw [HN.out]; omega)
              have e3 : K + J - 1 = K + j := by omega
              have hX := HX2.out
              have hY := HY2.out
              unfold Lib.keeps
              rw [e1, e2, e3, hX, hY]
              by_cases e : x2 = y2
              · simp [e]; omega
              · simp [e]
            have HX3 : Aside0 (l.toArray[K + J]! = x2) := ⟨by rw [arr_get (by rw [HN.out]; omega), HX2.out]⟩
            generalize decide (x2 = y2) = b at he HB2
            cases b with
            | true =>
              simp only [Bool.not_true] at he
              go_wp2_with fail
              go_region_held3 (fun w' => w'.cell? ⟨g, K * 2 + J * 2, none⟩ = some (.int .i64 x2.f0) ∧ w'.cell? ⟨g, K * 2 + J * 2 + 1, none⟩ = some (.int .i64 x2.f1) ∧ w'.cell? ⟨g, K * 2 + j * 2, none⟩ = some (.int .i64 y2.f0) ∧ w'.cell? ⟨g, K * 2 + j * 2 + 1, none⟩ = some (.int .i64 y2.f1)) (first | exact ⟨cm0, cm1, cp0, cp1⟩ | go_keep) (fail)
              clear cm0 cm1 cp0 cp1 he hg j4
              go_wp2
              go_roundw
              case rel => exact ⟨kk, J, dk, rfl, by go_num, by omega, by omega, ⟨by have := HI.out.skip HB2.out; rwa [Nat.add_assoc] at this⟩, ⟨rowF_move HR.out rfl⟩, ⟨HG.out.trans ⟨rfl, rfl, rfl, Nat.le_refl _, fun _ _ _ => rfl⟩⟩⟩
              case measure => simp [intOf]; omega
            | false =>
              simp only [Bool.not_false] at he
              go_wp2_with fail
              go_region_held3 (fun w' => w'.cell? ⟨g, K * 2 + J * 2, none⟩ = some (.int .i64 x2.f0) ∧ w'.cell? ⟨g, K * 2 + J * 2 + 1, none⟩ = some (.int .i64 x2.f1) ∧ w'.cell? ⟨g, K * 2 + j * 2, none⟩ = some (.int .i64 y2.f0) ∧ w'.cell? ⟨g, K * 2 + j * 2 + 1, none⟩ = some (.int .i64 y2.f1)) (first | exact ⟨cm0, cm1, cp0, cp1⟩ | go_keep) (fail)
              clear he hg j4
              go_wp2_with ((with_reducible refine gate_store (t := 43) (p := 51) rfl ?_); refine store_rowF rfl rfl (.tmp 51) (.tmp 50) rfl kk x2 rfl rfl (rowF_move HR.out rfl) HD2.out ?_; intro w2 hR2 hG2; have HR2 := Aside0.mk hR2; have HG2 := Aside0.mk hG2; clear hR2 hG2)
              go_roundw
              case rel =>
                refine ⟨kk + 1, J, dk.setIfInBounds kk x2, by go_num, by go_num, by omega, by omega, ⟨?_⟩, ⟨?_⟩, ⟨HG.out.trans (World.grownBy.trans (show wr.grownBy wr.drew (some g) from ⟨rfl, rfl, rfl, Nat.le_refl _, fun _ _ _ => rfl⟩) HG2.out)⟩⟩
                · have := HI.out.keep (by have := HN.out; simp; omega) HB2.out
                  rwa [HX3.out, Nat.add_assoc] at this
                · have := HR2.out
                  rwa [← Array.toList_setIfInBounds] at this
              case measure => simp [intOf]; omega
          · have hend : K + (j + 1) = n := by omega
            obtain ⟨w2, hcl, hR2, hG2⟩ := clear_own HR.out (k := kk) (n := n) (by omega) hnc (by have := HI.out.size; simp at this; have := HN.out; simp; omega) 0 (cap - kk)
            have HR2 := Aside0.mk hR2
            have HG2 := Aside0.mk hG2
            have HE := Aside0.mk hend
            clear hR2 hG2 hend
            go_wp2
            go_ret
            have hI := HI.out
            rw [HE.out, ← HN.out] at hI
            have hc := compact_take hI
            have hs : dk.size = l.length := by simpa using hI.size
            have hlt := hI.lt
            rw [hc]
            refine ⟨?_, HR2.out, HG.out.trans HG2.out⟩
            rw [List.length_take, Array.length_toList, Nat.min_eq_left (by omega)]
            rfl
    · have hend : k + 1 = n := by omega
      have HE := Aside0.mk hend
      clear hend
      go_wp2
      go_ret
      have hE := HE.out
      have e := same_all (l := l) (fun j hj => HA.out j (by rw [HN.out] at hj; omega))
      rw [e, HN.out]
      exact ⟨rfl, rowF_move HF.out rfl, ⟨rfl, rfl, rfl, Nat.le_refl _, fun _ _ _ => rfl⟩⟩
theorem compact0.calls (A : Option Addr) (cap n : Nat) (w : World) (h2 : n < 2) : Calls Try.prog 120 #[.slice A n cap] w fun e w' => e = .returned (.slice A n cap) ∧ w' = w := by
  go_enter Try.func120, Try.ntmps120
  go_wp2
  go_ret
  exact ⟨rfl, rfl⟩
theorem compact_len (l : List S43) : (Lib.compact l).length ≤ l.length := by
  unfold Lib.compact Lib.compactUpTo
  rw [List.length_map]
  exact Nat.le_trans (List.length_filter_le _ _) (by simp)
theorem compact_own.calls (w : World) (base : Nat) (ok : Nat → Prop) (v : Value) (l : List S43) (h : Kd.R k43 43 w base ok v l) (hl : l.length ≤ 1000) :
    Calls Try.prog 120 #[v] w fun e w' => ∃ v', e = .returned v' ∧ Kd.R k43 43 w' base ok v' (Lib.compact l) ∧ w.grownBy w' v.ownBlock ∧ v'.ownBlock = v.ownBlock := by
  by_cases h2 : l.length < 2
  · have hv : ∃ p c, v = .slice p l.length c := by
      obtain ⟨A, c, e, _⟩ := Kd.R_reads h
      exact ⟨A, c, e⟩
    obtain ⟨p, c, rfl⟩ := hv
    refine (compact0.calls p c l.length w h2).mono ?_
    rintro e w' ⟨rfl, rfl⟩
    rw [same_all (fun j hj => Lib.keeps_lt_one _ j (by omega))]
    exact ⟨_, rfl, h, World.grownBy.refl _ _, rfl⟩
  · obtain ⟨g, cap, rfl, hb, hlt, _⟩ := Kd.R_form h (by omega)
    obtain ⟨_, hok, hbg, hF⟩ := rowF_of h
    refine (compact1.calls g cap l.length l w rfl (by omega) hl (Kd.R_reads' h).2.1 hF).mono ?_
    rintro e w' ⟨rfl, hR, hG⟩
    exact ⟨_, rfl, rowF_to hR hok hbg, hG, rfl⟩
end Go.Proofs.Ytpmjmhdofjbcbaa.H
