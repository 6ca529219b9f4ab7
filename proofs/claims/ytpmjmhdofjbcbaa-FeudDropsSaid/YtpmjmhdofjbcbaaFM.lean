/- feud.merge: the two paints of a feud are one. -/
import Derived.Test.YtpmjmhdofjbcbaaFT
import Derived.Test.YtpmjmhdofjbcbaaFU
import Derived.Deep.RegionHeld3
namespace Go.Proofs.Ytpmjmhdofjbcbaa.H
open Go.Shelf Go.RowKit Go.Proofs.Ytpmjmhdofjbcbaa.QA Go.Proofs.YtpmjmhdofjbcbaaW.PrintWords Go.Proofs.YtpmjmhdofjbcbaaW.PrintLast Go.Proofs.YtpmjmhdofjbcbaaW.PrintMore
set_option linter.unusedVariables false
set_option linter.unusedSimpArgs false
def numF (o : S43) (p : Int) : Int := if p = o.f1 then o.f0 else if p > o.f1 then p - 1 else p
theorem number.calls (o : S43) (p : Int) (h0 : 0 ≤ p) (h1 : p ≤ 1000) (b : Nat) (w : World) (c0 : w.cell? ⟨b, 0, none⟩ = some (.int .i64 o.f0)) (c1 : w.cell? ⟨b, 1, none⟩ = some (.int .i64 o.f1)) :
    Calls Try.prog 119 #[.int .i64 p, .pointer (some ⟨b, 0, none⟩)] w fun e w' => e = .returned (.int .i64 (numF o p)) ∧ w' = w := by
  unfold numF
  by_cases e : p = o.f1
  · rw [if_pos e]
    subst e
    go_enter Try.func119, Try.ntmps119
    go_wp2
    go_ret
    exact ⟨rfl, rfl⟩
  · rw [if_neg e]
    have e1 : (p == o.f1) = false := by simpa using e
    by_cases h : p > o.f1
    · rw [if_pos h]
      have e2 : decide (o.f1 < p) = true := by simpa using h
      clear e h
      go_enter Try.func119, Try.ntmps119
      go_wp2
      go_ret
      exact ⟨rfl, rfl⟩
    · rw [if_neg h]
      have e2 : decide (o.f1 < p) = false := by simpa using h
      clear e h
      go_enter Try.func119, Try.ntmps119
      go_wp2
      go_ret
      exact ⟨rfl, rfl⟩
def conF (o f : S43) : S43 := ⟨min (numF o f.f0) (numF o f.f1), max (numF o f.f0) (numF o f.f1)⟩
def mrgTo (l : List S43) (o : S43) (k : Nat) : List S43 := ((l.take k).filter fun f => !decide (f = o)).map (conF o)
def mrgL (l : List S43) (k : Nat) : List S43 := Lib.compact (sortFd (mrgTo l (l.getD k z43) l.length))
theorem mrgTo_hit {l : List S43} {o : S43} {k : Nat} (hk : k < l.length) (h : l.getD k z43 ≠ o) : mrgTo l o (k + 1) = mrgTo l o k ++ [conF o (l.getD k z43)] := by
  unfold mrgTo
  rw [take_snocF hk, List.filter_append, List.map_append, List.filter_cons, if_pos (by simpa using h)]
  rfl
theorem mrgTo_miss {l : List S43} {o : S43} {k : Nat} (hk : k < l.length) (h : l.getD k z43 = o) : mrgTo l o (k + 1) = mrgTo l o k := by
  unfold mrgTo
  rw [take_snocF hk, List.filter_append, List.map_append, List.filter_cons, if_neg (by simpa using h)]
  simp
theorem mrgTo_len (l : List S43) (o : S43) (k : Nat) : (mrgTo l o k).length ≤ l.length := by
  unfold mrgTo
  rw [List.length_map]
  exact Nat.le_trans (List.length_filter_le _ _) (by rw [List.length_take]; omega)
theorem results_c {P : Program} {fn : Func} {p : Tmp} {ty : TypeId} (h : fn.results = #[.cell p ty]) (tmps : Array Value) (w : World) (g : Nat) (t : TypeId) (cs : Array Value) (fr : Nat × Nat) (d : TypeDesc)
    (hp : tmps.getD p undef = .pointer (some ⟨g, 0, none⟩)) (hg : w.heap[g]? = some (.cells cs t fr))
    (hu : P.underlying ty = some d) (hd : (match d with | .struct _ | .array _ _ => true | _ => false) = true) (hi : (P.info? ty).map (·.size) = some cs.size) :
    (results fn tmps).run P w = .ok (.agg cs) w := by
  have hp' : tmps[p]?.getD undef = .pointer (some ⟨g, 0, none⟩) := by simpa using hp
  simp [results, h, hp', asAddr, run_loadVar_row w g t ty cs fr d hg hu hd hi]
/-- What the loop has made. -/
structure MgSt (w : World) (p : Int) (o : S43) (B1 B2 B3 : Nat) (u : Value) (L : List S43) (wr : World) : Prop where
  b1 : wr.heap[B1]? = some (.cells #[.int .i64 0, .slice none 0 0] 24 (0, 0))
  b2 : wr.heap[B2]? = some (.cells #[.int .i64 o.f0, .int .i64 o.f1] 43 (0, 0))
  b3 : wr.heap[B3]? = some (.cells #[.int .i64 p, u] 24 (0, 0))
  row : Kd.R k43 43 wr (B3 + 1) (fun k_ => B3 + 1 ≤ k_) u L
  below : Below w.heap.size w wr
  le1 : w.heap.size ≤ B1 ∧ B1 < B2 ∧ B2 < B3
section
variable {w wr : World} {p : Int} {o : S43} {B1 B2 B3 : Nat} {u : Value} {L : List S43}
theorem MgSt.alloc (h : MgSt w p o B1 B2 B3 u L wr) (ob : Obj) : MgSt w p o B1 B2 B3 u L (wr.alloc ob) := ⟨blk_alloc h.b1 _, blk_alloc h.b2 _, blk_alloc h.b3 _, Kd.R_alloc h.row _, below_alloc h.below _, h.le1⟩
theorem MgSt.drewN (h : MgSt w p o B1 B2 B3 u L wr) (n : Nat) : MgSt w p o B1 B2 B3 u L (wr.drewN n) := ⟨blk_drewN h.b1 _, blk_drewN h.b2 _, blk_drewN h.b3 _, Kd.R_drewN h.row _, pw_below_drewN h.below _, h.le1⟩
theorem MgSt.far (h : MgSt w p o B1 B2 B3 u L wr) : ∀ k, k ≤ B3 → some k ≠ u.ownBlock := fun k hk e => by
  have := h.row.1 k e.symm
  omega
theorem MgSt.lt3 (h : MgSt w p o B1 B2 B3 u L wr) : B3 < wr.heap.size := blk_lt h.b3
theorem MgSt.below_on (h : MgSt w p o B1 B2 B3 u L wr) {w1 : World} {g : Option Nat} (hg : wr.grownBy w1 g) (hr : ∀ k, g = some k → w.heap.size ≤ k) : Below w.heap.size w w1 := pw_below_grown h.below g (by have := h.lt3; have := h.le1; have := hg.size; omega) hg hr
theorem MgSt.sorted (h : MgSt w p o B1 B2 B3 u L wr) {w1 : World} {L1 : List S43} (hR : Kd.R k43 43 w1 (B3 + 1) (fun k_ => B3 + 1 ≤ k_) u L1) (hg : wr.grownBy w1 u.ownBlock) : MgSt w p o B1 B2 B3 u L1 w1 :=
  ⟨blk_grown h.b1 hg (h.far _ (by have := h.le1; omega)), blk_grown h.b2 hg (h.far _ (by have := h.le1; omega)), blk_grown h.b3 hg (h.far _ (by omega)), hR, h.below_on hg (fun k e => by have := h.row.1 k e; have := h.le1; omega), h.le1⟩
/-- A row appended to, then laid into the shop. -/
theorem MgSt.laid (h : MgSt w p o B1 B2 B3 u L wr) {w1 : World} {u1 : Value} {L1 : List S43} (hR : Kd.R k43 43 w1 (B3 + 1) (fun k_ => B3 + 1 ≤ k_) u1 L1) (hg : wr.grownBy w1 u.ownBlock) :
    w1.cell? ⟨B3, 1, none⟩ = some u ∧ w1.frozen? ⟨B3, 1, none⟩ = false ∧ MgSt w p o B1 B2 B3 u1 L1 (w1.setCell ⟨B3, 1, none⟩ u1) := by
  have h1 := blk_grown h.b1 hg (h.far _ (by have := h.le1; omega))
  have h2 := blk_grown h.b2 hg (h.far _ (by have := h.le1; omega))
  have h3 := blk_grown h.b3 hg (h.far _ (by omega))
  have hne : ∀ k, k ≠ B3 → (w1.setCell ⟨B3, 1, none⟩ u1).heap[k]? = w1.heap[k]? := fun k hk => setCells_far [u1] 1 k hk
  have hB := h.below_on hg (fun k e => by have := h.row.1 k e; have := h.le1; omega)
  refine ⟨(blk_cell h3 1).trans rfl, blk_frozen h3 _, (hne _ (by have := h.le1; omega)).trans h1, (hne _ (by have := h.le1; omega)).trans h2, ?_, ?_, ?_, h.le1⟩
  · have := blk_set h3 1 u1
    exact this
  · exact Kd.R_move (Kd.R_bound hR) (fun k hk => hne k (by have := hk.1; omega)) |> fun q => Kd.R_mono q (fun _ hk => hk.1)
  · exact pw_below_grown hB (some B3) (by have := h.le1; have := blk_lt h3; omega) (setCells_grown w1 B3 [u1] 1) (fun k e => by injection e with e; have := h.le1; omega)
end
set_option maxRecDepth 100000 in
set_option maxHeartbeats 8000000 in
theorem merge.calls (p : Int) (A : Option Addr) (c : Nat) (l : List S43) (k : Nat) (w : World) (hr : Kd.C k43 w A l.length l) (hl : l.length ≤ 1000) (hk : k < l.length) (hp : 0 ≤ p ∧ p ≤ 1000) (hwf : ∀ f ∈ l, 0 ≤ f.f0 ∧ f.f0 ≤ 1000 ∧ 0 ≤ f.f1 ∧ f.f1 ≤ 1000) :
    Calls Try.prog 90 #[.agg #[.int .i64 p, .slice A l.length c], .int .i64 k] w fun e w' => ∃ v, e = .returned (.agg #[.int .i64 (p - 1), v]) ∧ Kd.R k43 43 w' w.heap.size (fun k_ => w.heap.size ≤ k_) v (mrgL l k) ∧ Below w.heap.size w w' := by
  have hA : ∃ ad, A = some ad := by obtain ⟨ad, e, _⟩ := at_feud hr k hk; exact ⟨ad, e⟩
  obtain ⟨ad, rfl⟩ := hA
  have hr2 := Kd.C_alloc (Kd.C_alloc hr (shopB p (some ad) l.length c)) (.cells #[.int .i64 0, .slice none 0 0] 24 (0, 0))
  obtain ⟨ad', e, h0, h1⟩ := at_feud hr2 k hk
  injection e with e
  subst e
  have HR := Aside0.mk hr
  have HW := Aside0.mk hwf
  have hpw : IntKind.i64.wrap (p - 1) = p - 1 := by simp [IntKind.wrap, IntKind.bits, IntKind.signed]; omega
  have hkz : (k : Int) < (l.length : Int) := by omega
  have HM : Aside0 (mrgL l k = Lib.compact (sortFd (mrgTo l (l.getD k z43) l.length))) := ⟨rfl⟩
  clear hr hr2 hwf
  generalize l.getD k z43 = o at *
  generalize mrgL l k = res at *
  go_enter Try.func90, Try.ntmps90
  go_wp2
  obtain ⟨WM, hWM⟩ : ∃ WM, WM = (((w.alloc (shopB p (some ad) l.length c)).alloc (.cells #[.int .i64 0, .slice none 0 0] 24 (0, 0))).alloc (.cells #[.int .i64 o.f0, .int .i64 o.f1] 43 (0, 0))).alloc (.cells #[.int .i64 (p - 1), .slice none 0 0] 24 (0, 0)) := ⟨_, rfl⟩
  have HS0 : MgSt w (p - 1) o (w.heap.size + 1) (w.heap.size + 1 + 1) (w.heap.size + 1 + 1 + 1) (.slice none 0 0) (mrgTo l o 0) WM := by
    have e1 := blk_new (w.alloc (shopB p (some ad) l.length c)) (.cells #[.int .i64 0, .slice none 0 0] 24 (0, 0))
    have e2 := blk_new ((w.alloc (shopB p (some ad) l.length c)).alloc (.cells #[.int .i64 0, .slice none 0 0] 24 (0, 0))) (.cells #[.int .i64 o.f0, .int .i64 o.f1] 43 (0, 0))
    have e3 := blk_new (((w.alloc (shopB p (some ad) l.length c)).alloc (.cells #[.int .i64 0, .slice none 0 0] 24 (0, 0))).alloc (.cells #[.int .i64 o.f0, .int .i64 o.f1] 43 (0, 0))) (.cells #[.int .i64 (p - 1), .slice none 0 0] 24 (0, 0))
    simp only [World.size_alloc] at e1 e2 e3
    rw [hWM]
    exact ⟨blk_alloc (blk_alloc e1 _) _, blk_alloc e2 _, e3, Kd.R_nil _ _ _ _ _, below_alloc (below_alloc (below_alloc (below_alloc (Below.refl _ _) _) _) _) _, by omega⟩
  have HS := Aside0.mk HS0
  rw [← hWM]
  clear hWM HS0 h0 h1
  generalize w.heap.size + 1 + 1 + 1 = B3 at *
  generalize w.heap.size + 1 + 1 = B2 at *
  generalize w.heap.size + 1 = B1 at *
  go_loopw [25] (fun s25 wr => ∃ (i : Nat) (u : Value), i ≤ l.length ∧ s25 = .int .i64 i ∧ Aside0 (MgSt w (p - 1) o B1 B2 B3 u (mrgTo l o i) wr)) (fun s25 _ => l.length - (intOf s25).toNat)
  case atStart => exact ⟨0, _, Nat.zero_le _, rfl, HS⟩
  case round =>
    obtain ⟨i, u, hi, rfl, HS⟩ := hrel
    by_cases hlt : i < l.length
    · have hltz : (i : Int) < (l.length : Int) := by omega
      obtain ⟨ad', e, h0, h1⟩ := at_feud (Kd.C_below HR.out HS.out.below) i hlt
      injection e with e
      subst e
      have HF := Aside0.mk (HW.out _ (getD_memF hlt))
      have HT := Aside0.mk (fun h => mrgTo_hit (o := o) hlt h)
      have HT2 := Aside0.mk (fun h => mrgTo_miss (o := o) hlt h)
      generalize l.getD i z43 = f at *
      have HS1 := Aside0.mk (HS.out.alloc (.cells #[.int .i64 f.f0, .int .i64 f.f1] 43 (0, 0)))
      have c0 := (blk_cell HS1.out.b2 0).trans (show _ = some (Value.int .i64 o.f0) from rfl)
      have c1 := (blk_cell HS1.out.b2 1).trans (show _ = some (Value.int .i64 o.f1) from rfl)
      by_cases hf : f = o
      · have he : ∀ w, Sem.run Try.prog (binOp .neq 43 (.agg #[.int .i64 f.f0, .int .i64 f.f1]) (.agg #[.int .i64 o.f0, .int .i64 o.f1])) w = .ok (.bool false) w := fun w => by rw [neqF]; simp [hf]
        have hg := fun op a b => grdF op a b f o
        have HT3 := Aside0.mk (HT2.out hf)
        clear hf
        go_wp2
        refine ⟨⟨i + 1, u, by omega, by go_num, ⟨?_⟩⟩, by simp [intOf]; omega⟩
        rw [HT3.out]; exact HS1.out
      · have he : ∀ w, Sem.run Try.prog (binOp .neq 43 (.agg #[.int .i64 f.f0, .int .i64 f.f1]) (.agg #[.int .i64 o.f0, .int .i64 o.f1])) w = .ok (.bool true) w := fun w => by rw [neqF]; simp [hf]
        have hg := fun op a b => grdF op a b f o
        have HT3 := Aside0.mk (HT.out hf)
        clear hf
        have d0 := (blk_cell (blk_new wr (.cells #[.int .i64 f.f0, .int .i64 f.f1] 43 (0, 0))) 0).trans (show _ = some (Value.int .i64 f.f0) from rfl)
        have d1 := (blk_cell (blk_new wr (.cells #[.int .i64 f.f0, .int .i64 f.f1] 43 (0, 0))) 1).trans (show _ = some (Value.int .i64 f.f1) from rfl)
        have hN : ∀ (q : Int) (W : World), (q = f.f0 ∨ q = f.f1) → (W.cell? ⟨B2, 0, none⟩ = some (.int .i64 o.f0) ∧ W.cell? ⟨B2, 1, none⟩ = some (.int .i64 o.f1)) → Calls Try.prog 119 #[.int .i64 q, .pointer (some ⟨B2, 0, none⟩)] W fun e w' => e = .returned (.int .i64 (numF o q)) ∧ w' = W := by
          intro q W hq hW
          have hF := HF.out
          exact number.calls o q (by rcases hq with rfl | rfl <;> omega) (by rcases hq with rfl | rfl <;> omega) B2 W hW.1 hW.2
        go_wp2
        obtain ⟨W1, hW1⟩ : ∃ W1, W1 = wr.alloc (.cells #[.int .i64 f.f0, .int .i64 f.f1] 43 (0, 0)) := ⟨_, rfl⟩
        rw [← hW1] at HS1 c0 c1 d0 d1 ⊢
        have HW1 := Aside0.mk hW1
        clear hW1 he hg h0 h1
        generalize hF0 : wr.heap.size = F0 at *
        go_region_held3 (fun w' => w'.cell? ⟨F0, 0, none⟩ = some (.int .i64 f.f0) ∧ w'.cell? ⟨F0, 1, none⟩ = some (.int .i64 f.f1) ∧ w'.cell? ⟨B2, 0, none⟩ = some (.int .i64 o.f0) ∧ w'.cell? ⟨B2, 1, none⟩ = some (.int .i64 o.f1)) (first | exact ⟨d0, d1, c0, c1⟩ | go_keep) ((go_at_call 119; refine (hN _ _ ?_ ?_).mono ?_; (first | exact .inl rfl | exact .inr rfl); exact (by assumption : _ ∧ _ ∧ _ ∧ _).2.2; rintro e w' ⟨rfl, rfl⟩))
        have HC : Aside0 (conF o f = ⟨min (numF o f.f0) (numF o f.f1), max (numF o f.f0) (numF o f.f1)⟩) := ⟨rfl⟩
        generalize numF o f.f0 = a at *
        generalize numF o f.f1 = b at *
        have HS2 := Aside0.mk (show MgSt w (p - 1) o B1 B2 B3 u (mrgTo l o i) W1.drew from HS1.out.drewN 1)
        clear d0 d1 c0 c1
        obtain ⟨W2, hW2⟩ : ∃ W2, W2 = W1.drew := ⟨_, rfl⟩
        rw [← hW2] at HS2 ⊢
        clear hW2
        have c3 := (blk_cell HS2.out.b3 1).trans (show _ = some u from rfl)
        have HLn := Aside0.mk (mrgTo_len l o i)
        have HLp : Aside0 (0 < (mrgTo l o i ++ [conF o f]).length) := ⟨by simp⟩
        generalize hL : mrgTo l o i ++ [conF o f] = L' at HT3 HLp
        have HL := Aside0.mk hL
        clear hL
        go_wp2_with ((with_reducible refine gate_builtin (b := .append) (xs := #[.tmp 41, .tmp 49]) rfl ?_); at_builtin; refine Kd.R_append k43 (w0 := W2) (B3 + 1) rfl (.tmp 41) (.tmp 49) 22 43 (.agg #[(.int .i64 0), (.int .i64 0)]) 16 rfl Try.underlying22 info43 rfl (by decide) (by omega) u (mrgTo l o i) (conF o f) [.int .i64 (min a b), .int .i64 (max a b)] (fun k_ => B3 + 1 ≤ k_) (fun _ => False) rfl rfl ?aP (fun _ hk => hk.elim) ?aF HS2.out.row (Below.refl _ _) ?aS ?aL ?_; (case aP => rw [HC.out]; exact k43_mkM _ _ _ ⟨min a b, max a b⟩); (case aF => intro k_ hk_; have := HS2.out.lt3; omega); (case aS => have := HS2.out.lt3; omega); (case aL => have := HLn.out; omega); intro v1 w1 hR hB hg hat; rw [HL.out] at hR; obtain ⟨gv, cv, rfl, _⟩ := Kd.R_form hR HLp.out; obtain ⟨e1, e2, e3⟩ := HS2.out.laid hR hg; have HS3 := Aside0.mk e3; clear hR hB hg hat e3 c3)
        exact ⟨⟨i + 1, .slice (some ⟨gv, 0, none⟩) L'.length cv, by omega, by go_num, ⟨by rw [HT3.out]; exact HS3.out⟩⟩, by simp [intOf]; omega⟩
    · obtain rfl : i = l.length := by omega
      have hlen := mrgTo_len l o l.length
      generalize mrgTo l o l.length = L at *
      have c3 := (blk_cell HS.out.b3 1).trans (show _ = some u from rfl)
      have hlz : L.length ≤ 1000 := by omega
      clear hlen
      have hP : ∀ x y : Nat, 0 < 1 := fun _ _ => by omega
      clear hP
      go_wp2_with fail
      refine (sort_own.calls _ _ _ _ _ HS.out.row hlz).mono ?_
      rintro e w1 ⟨rfl, hR1, hg1⟩
      have HS4 := Aside0.mk (HS.out.sorted hR1 hg1)
      have c4 := (blk_cell HS4.out.b3 1).trans (show _ = some u from rfl)
      clear hR1 hg1 c3
      go_wp2_with fail
      refine (compact_own.calls _ _ _ _ _ HS4.out.row (by rw [sortFd_len]; exact hlz)).mono ?_
      rintro e w2 ⟨v', rfl, hR2, hg2, _⟩
      obtain ⟨e1, e2, e3⟩ := HS4.out.laid hR2 hg2
      obtain ⟨A2, c2, rfl, _⟩ := Kd.R_reads hR2
      have HS5 := Aside0.mk e3
      clear hR2 hg2 e3 c4
      have c5 := (blk_cell HS5.out.b3 0).trans (show _ = some (Value.int .i64 (p - 1)) from rfl)
      have c6 := (blk_cell HS5.out.b3 1).trans (show _ = some (Value.slice A2 (Lib.compact (sortFd L)).length c2) from rfl)
      have c7 := (blk_cell HS5.out.b1 0).trans (show _ = some (Value.int .i64 0) from rfl)
      have c8 := (blk_cell HS5.out.b1 1).trans (show _ = some (Value.slice none 0 0) from rfl)
      have f7 := blk_frozen HS5.out.b1 0
      have f8 := blk_frozen HS5.out.b1 1
      go_wp2_with fail
      obtain ⟨W4, hW4⟩ : ∃ W4, W4 = w2.setCell ⟨B3, 1, none⟩ (.slice A2 (Lib.compact (sortFd L)).length c2) := ⟨_, rfl⟩
      rw [← hW4] at HS5 ⊢
      have hle := HS5.out.le1
      have hb1 := blk_set (blk_set HS5.out.b1 0 (.int .i64 (p - 1))) 1 (.slice A2 (Lib.compact (sortFd L)).length c2)
      have hfar : ∀ k_, k_ ≠ B1 → ((W4.setCell ⟨B1, 0, none⟩ (.int .i64 (p - 1))).setCell ⟨B1, 1, none⟩ (.slice A2 (Lib.compact (sortFd L)).length c2)).heap[k_]? = W4.heap[k_]? := fun k_ hk_ => setCells_far [Value.int .i64 (p - 1), .slice A2 (Lib.compact (sortFd L)).length c2] 0 k_ hk_
      refine bodyPost_ret (results_c rfl _ _ B1 24 #[.int .i64 (p - 1), .slice A2 (Lib.compact (sortFd L)).length c2] (0, 0) _ rfl hb1 Try.underlying24 rfl (by kernel_rfl)) rfl ?_
      refine ⟨_, rfl, ?_, ?_⟩
      · rw [HM.out]
        have := Kd.R_mono (Kd.R_move (Kd.R_bound (Kd.R_lower HS5.out.row (show w.heap.size ≤ B3 + 1 by omega))) (fun k_ hk_ => hfar k_ (by have := hk_.1; omega))) (ok' := fun k_ => w.heap.size ≤ k_) (fun k_ hk_ => by have := hk_.1; omega)
        exact this
      · exact pw_below_grown HS5.out.below (some B1) (by have := HS5.out.lt3; omega) (setCells_grown W4 B1 [Value.int .i64 (p - 1), .slice A2 (Lib.compact (sortFd L)).length c2] 0) (fun k_ e => by injection e with e; omega)
def inF (l : List S43) : Bool := l.all fun f => decide (0 ≤ f.f0 ∧ f.f0 ≤ 1000 ∧ 0 ≤ f.f1 ∧ f.f1 ≤ 1000)
theorem inF_iff {l : List S43} : inF l = true ↔ ∀ f ∈ l, 0 ≤ f.f0 ∧ f.f0 ≤ 1000 ∧ 0 ≤ f.f1 ∧ f.f1 ≤ 1000 := by
  unfold inF
  rw [List.all_eq_true]
  exact ⟨fun h f hf => of_decide_eq_true (h f hf), fun h f hf => decide_eq_true (h f hf)⟩
def feud_merge.f (a0_0 : Int) (l0_1 : List (S43)) (a1 : Int) : Option (Int × (List (S43))) := if 0 ≤ a1 ∧ a1 < (l0_1.length : Int) ∧ l0_1.length ≤ 1000 ∧ 0 ≤ a0_0 ∧ a0_0 ≤ 1000 ∧ inF l0_1 = true then some (a0_0 - 1, mrgL l0_1 a1.toNat) else none
theorem feud_merge.calls (a0_0 : Int) (A0_1 : Option Addr) (c0_1 : Nat) (l0_1 : List (S43)) (a1 : Int) (r1 : Int) (r2 : List (S43)) (w : World) (hr0_1 : Kd.C k43 w A0_1 l0_1.length l0_1) (hc0_1 : l0_1.length ≤ c0_1) (h : feud_merge.f a0_0 l0_1 a1 = some (r1, r2)) :
    Calls Try.prog 90 #[.agg #[.int .i64 a0_0, .slice A0_1 l0_1.length c0_1], .int .i64 a1] w fun e w' => ∃ v1_ : Value, e = .returned (.agg #[.int .i64 r1, v1_]) ∧ Kd.R k43 43 w' w.heap.size (fun k_ => (w.heap.size ≤ k_)) v1_ r2 ∧ Below w.heap.size w w' := by
  unfold feud_merge.f at h
  split at h
  · rename_i hc
    obtain ⟨h0, h1, h2, h3, h4, h5⟩ := hc
    injection h with h
    injection h with e1 e2
    subst e1; subst e2
    obtain ⟨k, rfl⟩ : ∃ k : Nat, a1 = k := ⟨a1.toNat, by omega⟩
    exact merge.calls a0_0 A0_1 c0_1 l0_1 k w hr0_1 h2 (by omega) ⟨h3, h4⟩ (inF_iff.1 h5)
  · cases h
end Go.Proofs.Ytpmjmhdofjbcbaa.H
