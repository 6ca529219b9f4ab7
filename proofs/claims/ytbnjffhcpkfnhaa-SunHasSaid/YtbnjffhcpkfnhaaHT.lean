/- The copies of all cells that the laws keep, and their comparing. -/
import Derived.WalkSpells
import Derived.Test.YtbnjffhcpkfnhaaHB
namespace Go.Proofs.Ytbnjffhcpkfnhaa.H
open Go.RowKit Go.Shelf Go.Proofs.YtbnjffhcpkfnhaaW.PrintWords Go.Proofs.YtbnjffhcpkfnhaaW.PrintLast Go.Proofs.YtbnjffhcpkfnhaaW.PrintMore
set_option linter.unusedVariables false

theorem wrap_in {n k : Nat} (hn : n ≤ 9223372036854775807) (h : k < n) : wrap64 ((k : Int) + 1) = ((k + 1 : Nat) : Int) := by unfold wrap64; omega
theorem cut_cap {P : Program} (t e : TypeId) (kh : IntKind) {i : TypeInfo} (ht : P.underlying t = some (.slice e)) (hi : P.info? e = some i) (A : Option Addr) (n c : Nat) (hc : n ≤ c) :
    ∀ W : World, (Instr.slice t (.slice A n c) none (some (.int kh (c : Int))) none).run P W = .ok (.slice A c c) W := by
  intro W
  have hel : P.elem t = e := by simp [Program.elem, ht]
  have hu : P.underlying t = some (.slice (P.elem t)) := by rw [hel]; exact ht
  have ha : (A.map fun x => x.add 0) = A := by cases A <;> simp [Addr.add]
  rw [run_slice_h W t A n c hu kh c (by omega) (by omega), hel]
  simp [sizeOf, typeInfo, hi, sliced, Result.andThen, ha]
set_option maxRecDepth 100000 in
set_option maxHeartbeats 2000000 in
theorem keepInts (A : Option Addr) (n c : Nat) (zs : List Int) (w : World) (hr : Kd.C (Kd.int .i64) w A c zs) (hn : n ≤ c) (hb : c * 8 ≤ 140737488355328) :
    Calls Try.prog 22 #[.slice A n c] w fun e w' => ∃ v0_ : Value, e = .returned (v0_) ∧ Kd.R (Kd.int .i64) 3 w' w.heap.size (fun _ => True) v0_ zs ∧ Below w.heap.size w w' := by
  obtain ⟨i3, hi3, _⟩ := Option.map_eq_some_iff.1 info3
  have hsl := cut_cap (P := Try.prog) 27 3 .i64 Try.underlying27 hi3 A n c hn
  have HR := Aside0.mk hr
  have HL := Aside0.mk hb
  have hown : (w.alloc (.cells #[] 3)).ownsRow w.heap.size 3 1 (.slice (some ⟨w.heap.size, 0, none⟩) 0 0) ([] : List Int).length (nums .i64 []) := by
    have := own_lit w w.heap.size 3 .i64 [] (Nat.le_refl _) (by simp)
    simpa [nums] using this
  have HO := Aside0.mk hown
  clear hr hown hb hi3
  go_enter Try.func22, Try.ntmps22
  go_wp2_with ((with_reducible refine gate_builtin (b := .append) (xs := #[.tmp 3, .tmp 7]) rfl ?_); at_builtin; refine print_append_row (w0 := w) w.heap.size rfl (.tmp 3) (.tmp 7) 27 3 .i64 8 rfl Try.underlying27 info3 (by decide) _ [] zs A c c rfl rfl ?aO ?aR ?aB ?aS ?aL ?_; (case aO => exact HO.out); (case aR => exact readsInt_of.2 (Kd.reads_of_C (Kd.C_alloc HR.out _))); (case aB => exact (Below.refl _ _).alloc (Nat.le_refl _) _); (case aS => simp); (case aL => have := HL.out; simp; omega); intro v1 w1 hown hB1 hg hat)
  clear hg hat
  go_ret
  exact ⟨_, rfl, Kd.R_of_own (by rw [List.nil_append] at hown; exact hown) (fun _ _ => trivial), hB1⟩


set_option maxRecDepth 100000 in
set_option maxHeartbeats 2000000 in
theorem keptInts (Ao : Option Addr) (m co : Nat) (A : Option Addr) (n c : Nat) (zs : List Int) (w : World) (ho : Kd.C (Kd.int .i64) w Ao m zs) (hr : Kd.C (Kd.int .i64) w A c zs) (hn : n ≤ c) :
    Calls Try.prog 24 #[.slice Ao m co, .slice A n c] w fun e w' => e = .returned (.bool true) ∧ Drawn0 w w' := by
  obtain ⟨i3, hi3, _⟩ := Option.map_eq_some_iff.1 info3
  have hsl := cut_cap (P := Try.prog) 27 3 .i64 Try.underlying27 hi3 A n c hn
  obtain rfl : zs.length = m := ho.1
  obtain rfl : zs.length = c := hr.1
  have HO := Aside0.mk ho
  have HR := Aside0.mk hr
  clear hi3 ho hr
  go_enter Try.func24, Try.ntmps24
  go_wp2
  go_loopg [5] zs.length (fun gg s5 wr => ∃ k : Nat, k ≤ zs.length ∧ zs.length - k ≤ gg ∧ s5 = .int .i64 k ∧ Aside0 (Drawn0 w wr))
  case atStart => exact ⟨0, Nat.zero_le _, by omega, rfl, ⟨by repeat (first | exact Drawn0.refl _ | apply Drawn0.step)⟩⟩
  case round =>
    obtain ⟨k, hk, hg, rfl, HD⟩ := hrel
    clear hsl
    by_cases hlt : k < zs.length
    · have hltz : (k : Int) < (zs.length : Int) := by omega
      obtain ⟨ad1, rfl, hx⟩ := at_ints HO.out k hlt
      obtain ⟨ad2, rfl, hy⟩ := at_ints HR.out k hlt
      have hbq := HD.out.below
      replace hx := (hbq.cell (World.block_lt_of_cell? w _ hx)).trans hx
      replace hy := (hbq.cell (World.block_lt_of_cell? w _ hy)).trans hy
      clear hbq
      generalize zs.getD k 0 = x at *
      go_wp2
      repeat (go_quiet (fail); try go_wp2)
      go_roundg (zs.length - (k + 1))
      case measure => omega
      case rel => exact ⟨k + 1, by omega, by omega, by rw [wrap_in HR.out.2.1 hlt], ⟨HD.out.step _⟩⟩
    · obtain rfl : k = zs.length := by omega
      go_wp2
      go_ret
      exact ⟨rfl, HD.out⟩

/-- A table with all its rows' cells, up to what they can hold. -/
def TabC (w : World) (A : Option Addr) (c : Nat) (Zs : List (List Int)) : Prop :=
  Zs.length = c ∧ ∀ r, r < c → ∃ ad A1 n1, A = some ad ∧ n1 ≤ (Zs.getD r []).length ∧ w.cell? (ad.add r) = some (.slice A1 n1 (Zs.getD r []).length) ∧ Kd.C (Kd.int .i64) w A1 (Zs.getD r []).length (Zs.getD r []) ∧ (Zs.getD r []).length * 8 ≤ 140737488355328
theorem TabC.below {w w1 : World} {A : Option Addr} {c : Nat} {Zs : List (List Int)} (h : TabC w A c Zs) (hb : Below w.heap.size w w1) : TabC w1 A c Zs :=
  ⟨h.1, fun r hr => by
    obtain ⟨ad, A1, n1, e, h1, h2, h3, h4⟩ := h.2 r hr
    exact ⟨ad, A1, n1, e, h1, (hb.cell (World.block_lt_of_cell? w _ h2)).trans h2, Kd.C_below h3 hb, h4⟩⟩

set_option maxRecDepth 100000 in
set_option maxHeartbeats 4000000 in
theorem keepTable (A : Option Addr) (n c : Nat) (Zs : List (List Int)) (w : World) (hr : TabC w A c Zs) (hn : n ≤ c) (hb : c * 24 ≤ 140737488355328) :
    Calls Try.prog 16 #[.slice A n c] w fun e w' => ∃ v0_ : Value, e = .returned (v0_) ∧ Kd.S (Kd.slice 3 (Kd.int .i64)) 27 w' w.heap.size (fun _ => True) v0_ Zs ∧ Below w.heap.size w w' := by
  obtain ⟨i27, hi27, _⟩ := Option.map_eq_some_iff.1 info27
  have hsl := cut_cap (P := Try.prog) 22 27 .i64 Try.underlying22 hi27 A n c hn
  obtain rfl : Zs.length = c := hr.1
  have HR := Aside0.mk hr
  have HL := Aside0.mk hb
  clear hi27 hr hb
  go_enter Try.func16, Try.ntmps16
  go_wp2
  go_loopg [3, 4] Zs.length (fun gg s3 s4 wr => ∃ k : Nat, k ≤ Zs.length ∧ Zs.length - k ≤ gg ∧ s4 = .int .i64 k ∧ Aside0 (Kd.S (Kd.slice 3 (Kd.int .i64)) 27 wr w.heap.size (fun _ => True) s3 (Zs.take k)) ∧ Aside0 (Below w.heap.size w wr))
  case atStart => exact ⟨0, Nat.zero_le _, by omega, rfl, ⟨Kd.S_nil _ _ _ _ _⟩, ⟨Below.refl _ _⟩⟩
  case round =>
    obtain ⟨k, hk, hg, rfl, HO, HB⟩ := hrel
    clear hsl
    by_cases hlt : k < Zs.length
    · have hltz : (k : Int) < (Zs.length : Int) := by omega
      obtain ⟨ad, A1, n1, rfl, hn1, hx, hC, hb8⟩ := HR.out.2 k hlt
      have hbq := HB.out
      replace hx := (hbq.cell (World.block_lt_of_cell? w _ hx)).trans hx
      replace hC := Kd.C_below hC hbq
      clear hbq
      have htk : Zs.take (k + 1) = Zs.take k ++ [Zs.getD k []] := by
        rw [List.take_add_one, List.getD_eq_getElem?_getD, List.getElem?_eq_getElem hlt]; rfl
      have HT := Aside0.mk htk
      have HC := Aside0.mk hC
      have H8 := Aside0.mk hb8
      clear htk hC hb8
      generalize Zs.getD k [] = zs at *
      generalize hlen : zs.length = cz at *
      have Hlen := Aside0.mk hlen
      clear hlen
      go_wp2_with fail
      refine (keepInts A1 n1 cz zs _ HC.out hn1 H8.out).mono ?_
      rintro e w1 ⟨v, rfl, hR, hb⟩
      have HO1 := Aside0.mk (Kd.S_elder' HO.out (Kd.R_base hR) hb)
      have HR1 := Aside0.mk (Kd.R_lower hR HB.out.size)
      have HB1 := Aside0.mk (HB.out.trans (hb.mono HB.out.size))
      obtain ⟨Ao, co, rfl⟩ := Kd.R_slice hR
      clear hR hb HO HB
      have hl3 : ((Zs.take k).length + 1) * 24 ≤ 140737488355328 := by
        have := HL.out
        have h2 : (Zs.take k).length = k := by rw [List.length_take]; omega
        rw [h2]
        omega
      have HL3 := Aside0.mk hl3
      clear hl3
      go_wp2_with ((with_reducible refine gate_builtin (b := .append) (xs := #[.tmp 15, .tmp 21]) rfl ?_); at_builtin; refine Kd.S_append (Kd.slice 3 (Kd.int .i64)) (w0 := w) w.heap.size rfl (.tmp 15) (.tmp 21) 22 27 (.slice none 0 0) 24 rfl Try.underlying22 info27 rfl (by decide) (by omega) u3 (Zs.take k) zs [.slice Ao zs.length co] (fun _ => True) (fun k_ => some k_ = (.slice Ao zs.length co : Value).ownBlock) rfl rfl ?aP ?aK ?aF ?aO ?aB ?aS ?aL ?_; (case aP => exact Kd.M_row (Kd.R_tight rfl HR1.out)); (case aK => exact fun k_ hk_ => ((Kd.R_mono (ok' := fun k_ => ((fun _ => True)) k_ ∧ some k_ ≠ (u3 : Value).ownBlock) (Kd.R_apart' HR1.out (Kd.S_typed HO1.out) (by decide)) (fun k_ hk => ⟨trivial, hk.2⟩))).1 k_ hk_.symm); (case aF => exact (fun _ _ => trivial)); (case aO => exact Kd.S_mono HO1.out (fun k_ hk => ⟨trivial, fun e_ => hk.2 e_⟩)); (case aB => exact HB1.out); (case aS => exact HB1.out.size); (case aL => exact HL3.out); intro v2 w2 ho2 hb2 hg2 hat2; rw [← HT.out] at ho2; have HO2 := Aside0.mk ho2; have HB2 := Aside0.mk hb2; clear ho2 hb2 hg2 hat2 HO1 HR1 HB1 HL3 HT)
      go_roundg (Zs.length - (k + 1))
      case measure => omega
      case rel => exact ⟨k + 1, by omega, by omega, by rw [wrap_in (n := Zs.length) (by have := HL.out; omega) hlt], HO2, HB2⟩
    · obtain rfl : k = Zs.length := by omega
      rw [List.take_length] at HO
      go_wp2
      go_ret
      exact ⟨_, rfl, HO.out, HB.out⟩

set_option maxRecDepth 100000 in
set_option maxHeartbeats 4000000 in
theorem keptTable (Ao : Option Addr) (m co : Nat) (A : Option Addr) (n c : Nat) (Zs : List (List Int)) (w : World) (ho : Kd.C (Kd.slice 3 (Kd.int .i64)) w Ao m Zs) (hr : TabC w A c Zs) (hn : n ≤ c) :
    Calls Try.prog 18 #[.slice Ao m co, .slice A n c] w fun e w' => e = .returned (.bool true) ∧ Drawn0 w w' := by
  obtain ⟨i27, hi27, _⟩ := Option.map_eq_some_iff.1 info27
  have hsl := cut_cap (P := Try.prog) 22 27 .i64 Try.underlying22 hi27 A n c hn
  obtain rfl : Zs.length = m := ho.1
  obtain rfl : Zs.length = c := hr.1
  have HO := Aside0.mk ho
  have HR := Aside0.mk hr
  clear hi27 ho hr
  go_enter Try.func18, Try.ntmps18
  go_wp2
  go_loopg [5] Zs.length (fun gg s5 wr => ∃ k : Nat, k ≤ Zs.length ∧ Zs.length - k ≤ gg ∧ s5 = .int .i64 k ∧ Aside0 (Drawn0 w wr))
  case atStart => exact ⟨0, Nat.zero_le _, by omega, rfl, ⟨by repeat (first | exact Drawn0.refl _ | apply Drawn0.step)⟩⟩
  case round =>
    obtain ⟨k, hk, hg, rfl, HD⟩ := hrel
    clear hsl
    by_cases hlt : k < Zs.length
    · have hltz : (k : Int) < (Zs.length : Int) := by omega
      obtain ⟨ad1, A1, c1, rfl, hx, _, hC1⟩ := at_rows HO.out k hlt
      obtain ⟨ad2, A2, n2, rfl, hn2, hy, hC2, _⟩ := HR.out.2 k hlt
      have hbq := HD.out.below
      replace hx := (hbq.cell (World.block_lt_of_cell? w _ hx)).trans hx
      replace hy := (hbq.cell (World.block_lt_of_cell? w _ hy)).trans hy
      have HC1 := Aside0.mk (Kd.C_below hC1 hbq)
      have HC2 := Aside0.mk (Kd.C_below hC2 hbq)
      clear hbq hC1 hC2
      generalize Zs.getD k [] = zs at *
      generalize hlen : zs.length = cz at *
      have hK := fun W (hW : Below wr.heap.size wr W) => keptInts A1 cz c1 A2 n2 cz zs W (Kd.C_below HC1.out hW) (Kd.C_below HC2.out hW) hn2
      clear hlen
      go_wp2
      go_quiet ((go_at_call 24; refine (hK _ ?sideB).mono ?_; (case sideB => exact pw_below_drewN (Below.refl _ _) _); rintro e w9 ⟨rfl, ⟨nd, rfl⟩⟩; exact ⟨rfl, _, World.drewN_drewN _ _ _⟩))
      go_wp2
      go_roundg (Zs.length - (k + 1))
      case measure => omega
      case rel => exact ⟨k + 1, by omega, by omega, by rw [wrap_in HO.out.2.1 hlt], ⟨HD.out.step _⟩⟩
    · obtain rfl : k = Zs.length := by omega
      go_wp2
      go_ret
      exact ⟨rfl, HD.out⟩

end Go.Proofs.Ytbnjffhcpkfnhaa.H
