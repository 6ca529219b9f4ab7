/- The copies of all cells that the laws keep, and their comparing. -/
import Derived.Test.YtpmjmhdofjbcbaaFU
import Derived.WalkSpells
namespace Go.Proofs.Ytpmjmhdofjbcbaa.H
open Go.RowKit Go.Shelf Go.Proofs.Ytpmjmhdofjbcbaa.QA Go.Proofs.YtpmjmhdofjbcbaaW.PrintWords Go.Proofs.YtpmjmhdofjbcbaaW.PrintLast Go.Proofs.YtpmjmhdofjbcbaaW.PrintMore
set_option linter.unusedVariables false
set_option linter.unusedSimpArgs false
theorem wrap_in {n k : Nat} (hn : n ≤ 9223372036854775807) (h : k < n) : wrap64 ((k : Int) + 1) = ((k + 1 : Nat) : Int) := by unfold wrap64; omega
theorem cut_cap {P : Program} (t e : TypeId) (kh : IntKind) {i : TypeInfo} (ht : P.underlying t = some (.slice e)) (hi : P.info? e = some i) (A : Option Addr) (n c : Nat) (hc : n ≤ c) :
    ∀ W : World, (Instr.slice t (.slice A n c) none (some (.int kh (c : Int))) none).run P W = .ok (.slice A c c) W := by
  intro W
  have hel : P.elem t = e := by simp [Program.elem, ht]
  have hu : P.underlying t = some (.slice (P.elem t)) := by rw [hel]; exact ht
  have ha : (A.map fun x => x.add 0) = A := by cases A <;> simp [Addr.add]
  rw [run_slice_h W t A n c hu kh c (by omega) (by omega), hel]
  simp [sizeOf, typeInfo, hi, sliced, Result.andThen, ha]
theorem rowF_none (w : World) : RowF (w.alloc (.cells #[] 43 (0, 0))) w.heap.size 0 [] := ⟨#[], blk_new _ _, by simp, by simp [maxLen], by simp, fun j f h => by simp at h⟩
set_option maxRecDepth 100000 in
set_option maxHeartbeats 2000000 in
theorem keepFeuds (A : Option Addr) (n c : Nat) (zs : List S43) (w : World) (hr : Kd.C k43 w A c zs) (hn : n ≤ c) (hb : c * 16 ≤ 140737488355328) :
    Calls Try.prog 17 #[.slice A n c] w fun e w' => ∃ v0_ : Value, e = .returned (v0_) ∧ Kd.R k43 43 w' w.heap.size (fun _ => True) v0_ zs ∧ Below w.heap.size w w' := by
  obtain ⟨i3, hi3, _⟩ := Option.map_eq_some_iff.1 info43
  have hsl := cut_cap (P := Try.prog) 22 43 .i64 Try.underlying22 hi3 A n c hn
  obtain rfl : zs.length = c := hr.1
  have HR := Aside0.mk hr
  have HL := Aside0.mk hb
  have HO := Aside0.mk (rowF_to (base := w.heap.size) (ok := fun _ => True) (rowF_none w) trivial (Nat.le_refl _))
  clear hr hb hi3
  go_enter Try.func17, Try.ntmps17
  go_wp2_with ((with_reducible refine gate_builtin (b := .append) (xs := #[.tmp 3, .tmp 7]) rfl ?_); at_builtin; refine Kd.R_append_rows k43 (w0 := w) w.heap.size rfl (.tmp 3) (.tmp 7) 22 43 (.agg #[(.int .i64 0), (.int .i64 0)]) 16 rfl Try.underlying22 info43 rfl (by decide) (by omega) (.slice (some ⟨w.heap.size, 0, none⟩) 0 0) [] zs _ _ _ (fun _ => True) (fun _ => False) rfl rfl ?aO ?aR (fun _ _ h => h) (fun _ h => h.elim) (fun _ _ => trivial) ?aB ?aS ?aL ?_; (case aO => exact HO.out); (case aR => exact Kd.C_alloc HR.out _); (case aB => exact (Below.refl _ _).alloc (Nat.le_refl _) _); (case aS => simp); (case aL => have := HL.out; simp; omega); intro v1 w1 hR hB1 hg hat; rw [List.nil_append] at hR; have HR1 := Aside0.mk hR; have HB1 := Aside0.mk hB1; clear hR hB1 hg hat)
  go_ret
  exact ⟨_, rfl, HR1.out, HB1.out⟩
set_option maxRecDepth 100000 in
set_option maxHeartbeats 2000000 in
theorem keptFeuds (Ao : Option Addr) (m co : Nat) (A : Option Addr) (n c : Nat) (zs : List S43) (w : World) (ho : Kd.C k43 w Ao m zs) (hr : Kd.C k43 w A c zs) (hn : n ≤ c) :
    Calls Try.prog 19 #[.slice Ao m co, .slice A n c] w fun e w' => e = .returned (.bool true) ∧ Drawn0 w w' := by
  obtain ⟨i3, hi3, _⟩ := Option.map_eq_some_iff.1 info43
  have hsl := cut_cap (P := Try.prog) 22 43 .i64 Try.underlying22 hi3 A n c hn
  obtain rfl : zs.length = m := ho.1
  obtain rfl : zs.length = c := hr.1
  have HO := Aside0.mk ho
  have HR := Aside0.mk hr
  clear hi3 ho hr
  go_enter Try.func19, Try.ntmps19
  go_wp2
  go_loopg [5] zs.length (fun gg s5 wr => ∃ k : Nat, k ≤ zs.length ∧ zs.length - k ≤ gg ∧ s5 = .int .i64 k ∧ Aside0 (Drawn0 w wr))
  case atStart => exact ⟨0, Nat.zero_le _, by omega, rfl, ⟨by repeat (first | exact Drawn0.refl _ | apply Drawn0.step)⟩⟩
  case round =>
    obtain ⟨k, hk, hg, rfl, HD⟩ := hrel
    clear hsl
    by_cases hlt : k < zs.length
    · have hltz : (k : Int) < (zs.length : Int) := by omega
      have hkz : (0 : Int) ≤ (k : Int) := by omega
      obtain ⟨ad1, rfl, hx0, hx1⟩ := at_feud (Kd.C_below HO.out HD.out.below) k hlt
      obtain ⟨ad2, rfl, hy0, hy1⟩ := at_feud (Kd.C_below HR.out HD.out.below) k hlt
      generalize zs.getD k z43 = x at *
      have he : ∀ w, Sem.run Try.prog (binOp .neq 43 (.agg #[.int .i64 x.f0, .int .i64 x.f1]) (.agg #[.int .i64 x.f0, .int .i64 x.f1])) w = .ok (.bool false) w := fun w => by rw [neqF]; simp
      have hgd := fun op a b => grdF op a b x x
      go_wp2_with fail
      go_region_held3 (fun w' => w'.cell? (ad1.add (k * 2)) = some (.int .i64 x.f0) ∧ w'.cell? ⟨(ad1.add (k * 2)).block, (ad1.add (k * 2)).off + 1, none⟩ = some (.int .i64 x.f1) ∧ w'.cell? (ad2.add (k * 2)) = some (.int .i64 x.f0) ∧ w'.cell? ⟨(ad2.add (k * 2)).block, (ad2.add (k * 2)).off + 1, none⟩ = some (.int .i64 x.f1)) (first | exact ⟨hx0, hx1, hy0, hy1⟩ | go_keep) (fail)
      clear hx0 hx1 hy0 hy1 he hgd
      go_wp2
      go_roundg (zs.length - (k + 1))
      case measure => omega
      case rel => exact ⟨k + 1, by omega, by omega, by rw [wrap_in HR.out.2.1 hlt], ⟨HD.out.step _⟩⟩
    · obtain rfl : k = zs.length := by omega
      go_wp2
      go_ret
      exact ⟨rfl, HD.out⟩
theorem at_intsF {w : World} {A : Option Addr} {n : Nat} {zs : List Int} (h : Kd.C (Kd.int .i64) w A n zs) (k : Nat) (hk : k < n) : ∃ ad, A = some ad ∧ w.cell? (ad.add k) = some (.int .i64 (zs.getD k 0)) := by
  obtain ⟨ad, e, hc⟩ := (Kd.reads_of_C (d := 0) h).2.2 (by omega)
  exact ⟨ad, e, hc k hk⟩
set_option maxRecDepth 100000 in
set_option maxHeartbeats 2000000 in
theorem keepInts (A : Option Addr) (n c : Nat) (zs : List Int) (w : World) (hr : Kd.C (Kd.int .i64) w A c zs) (hn : n ≤ c) (hb : c * 8 ≤ 140737488355328) :
    Calls Try.prog 24 #[.slice A n c] w fun e w' => ∃ v0_ : Value, e = .returned (v0_) ∧ Kd.R (Kd.int .i64) 3 w' w.heap.size (fun _ => True) v0_ zs ∧ Below w.heap.size w w' := by
  obtain ⟨i3, hi3, _⟩ := Option.map_eq_some_iff.1 infoH3
  have hsl := cut_cap (P := Try.prog) 30 3 .i64 Try.underlying30 hi3 A n c hn
  have HR := Aside0.mk hr
  have HL := Aside0.mk hb
  have hown : (w.alloc (.cells #[] 3)).ownsRow w.heap.size 3 1 (.slice (some ⟨w.heap.size, 0, none⟩) 0 0) ([] : List Int).length (nums .i64 []) := by
    have := own_lit w w.heap.size 3 .i64 [] (Nat.le_refl _) (by simp)
    simpa [nums] using this
  have HO := Aside0.mk hown
  clear hr hown hb hi3
  go_enter Try.func24, Try.ntmps24
  go_wp2_with ((with_reducible refine gate_builtin (b := .append) (xs := #[.tmp 3, .tmp 7]) rfl ?_); at_builtin; refine print_append_row (w0 := w) w.heap.size rfl (.tmp 3) (.tmp 7) 30 3 .i64 8 rfl Try.underlying30 infoH3 (by decide) _ [] zs A c c rfl rfl ?aO ?aR ?aB ?aS ?aL ?_; (case aO => exact HO.out); (case aR => exact readsInt_of.2 (Kd.reads_of_C (Kd.C_alloc HR.out _))); (case aB => exact (Below.refl _ _).alloc (Nat.le_refl _) _); (case aS => simp); (case aL => have := HL.out; simp; omega); intro v1 w1 hown hB1 hg hat)
  clear hg hat
  go_ret
  exact ⟨_, rfl, Kd.R_of_own (by rw [List.nil_append] at hown; exact hown) (fun _ _ => trivial), hB1⟩
set_option maxRecDepth 100000 in
set_option maxHeartbeats 2000000 in
theorem keptInts (Ao : Option Addr) (m co : Nat) (A : Option Addr) (n c : Nat) (zs : List Int) (w : World) (ho : Kd.C (Kd.int .i64) w Ao m zs) (hr : Kd.C (Kd.int .i64) w A c zs) (hn : n ≤ c) :
    Calls Try.prog 26 #[.slice Ao m co, .slice A n c] w fun e w' => e = .returned (.bool true) ∧ Drawn0 w w' := by
  obtain ⟨i3, hi3, _⟩ := Option.map_eq_some_iff.1 infoH3
  have hsl := cut_cap (P := Try.prog) 30 3 .i64 Try.underlying30 hi3 A n c hn
  obtain rfl : zs.length = m := ho.1
  obtain rfl : zs.length = c := hr.1
  have HO := Aside0.mk ho
  have HR := Aside0.mk hr
  clear hi3 ho hr
  go_enter Try.func26, Try.ntmps26
  go_wp2
  go_loopg [5] zs.length (fun gg s5 wr => ∃ k : Nat, k ≤ zs.length ∧ zs.length - k ≤ gg ∧ s5 = .int .i64 k ∧ Aside0 (Drawn0 w wr))
  case atStart => exact ⟨0, Nat.zero_le _, by omega, rfl, ⟨by repeat (first | exact Drawn0.refl _ | apply Drawn0.step)⟩⟩
  case round =>
    obtain ⟨k, hk, hg, rfl, HD⟩ := hrel
    clear hsl
    by_cases hlt : k < zs.length
    · have hltz : (k : Int) < (zs.length : Int) := by omega
      obtain ⟨ad1, rfl, hx⟩ := at_intsF HO.out k hlt
      obtain ⟨ad2, rfl, hy⟩ := at_intsF HR.out k hlt
      have hbq := HD.out.below
      replace hx := (hbq.cell (World.block_lt_of_cell? w _ hx)).trans hx
      replace hy := (hbq.cell (World.block_lt_of_cell? w _ hy)).trans hy
      clear hbq
      generalize zs.getD k 0 = x at *
      go_wp2
      repeat (go_quiet (fail); try go_wp2)
      go_roundg (zs.length - (k + 1))
      case measure => omega
      case rel => exact ⟨k + 1, by omega, by omega, by rw [wrap_in HR.out.2.1 hlt], ⟨HD.out.step _⟩⟩
    · obtain rfl : k = zs.length := by omega
      go_wp2
      go_ret
      exact ⟨rfl, HD.out⟩
end Go.Proofs.Ytpmjmhdofjbcbaa.H
