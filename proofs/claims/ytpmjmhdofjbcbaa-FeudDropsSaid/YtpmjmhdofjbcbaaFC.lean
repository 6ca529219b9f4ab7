/- slices.Grow of nothing, slices.Concat, at feuds. -/
import Derived.Test.YtpmjmhdofjbcbaaFB
namespace Go.Proofs.Ytpmjmhdofjbcbaa.H
open Go.RowKit Go.Maps Go.Proofs.Ytpmjmhdofjbcbaa.QA Go.Proofs.YtpmjmhdofjbcbaaW.PrintWords Go.Proofs.YtpmjmhdofjbcbaaW.PrintLast Go.Proofs.YtpmjmhdofjbcbaaW.PrintMore
set_option linter.unusedVariables false
set_option linter.unusedSimpArgs false
theorem ksz43 : k43.sz = 2 := rfl
set_option maxRecDepth 100000 in
set_option maxHeartbeats 4000000 in
theorem grow0.calls (n : Nat) (hn : n ≤ 1000) (w : World) :
    Calls Try.prog 138 #[.slice none 0 0, .int .i64 n] w fun e w' => ∃ v, e = .returned v ∧ Kd.R k43 43 w' w.heap.size (fun _ => True) v [] ∧ Below w.heap.size w w' := by
  cases n with
  | zero =>
    go_enter Try.func138, Try.ntmps138
    go_wp2
    go_ret
    exact ⟨_, rfl, Kd.R_nil _ _ _ _ _, Below.refl _ _⟩
  | succ n =>
    have h1 : decide ((n : Int) + 1 < 0) = false := decide_eq_false (by omega)
    go_enter Try.func138, Try.ntmps138
    go_wp2_with ((with_reducible refine gate_builtin (b := .append) (xs := #[.tmp 20, .tmp 21]) rfl ?_); refine Kd.R_append_zeros k43 (w0 := w) w.heap.size rfl (.tmp 20) (.tmp 21) 22 3 43 (.agg #[(.int .i64 0), (.int .i64 0)]) 16 rfl Try.underlying22 Try.underlying3 info43 rfl (by decide) (by omega) (.slice none 0 0) [] z43 ((n : Int) + 1) (fun _ => True) rfl rfl (k43_mkM _ _ _ z43) (fun _ _ => trivial) (Kd.R_nil _ _ _ _ _) (by omega) (Below.refl _ _) (Nat.le_refl _) ?aL ?_; (case aL => simp; omega); intro v1 w1 hR hB hg hat; rw [List.nil_append, show ((n : Int) + 1).toNat = n + 1 by omega] at hR; obtain ⟨g, cap, e1, hb1, hl1, _⟩ := Kd.R_form hR (by simp); rw [List.length_replicate] at e1; subst e1; have hcc := (Kd.R_reads' hR).2.1; have HR1 := Aside0.mk (Kd.R_take hR (Nat.zero_le _)); have HB1 := Aside0.mk hB; clear hR hB hg hat)
    go_ret
    exact ⟨_, rfl, HR1.out, HB1.out⟩
def lenTo (Ls : List (List S43)) (k : Nat) : Nat := ((Ls.take k).map List.length).sum
theorem lenTo_succ {Ls : List (List S43)} {k : Nat} (h : k < Ls.length) : lenTo Ls (k + 1) = lenTo Ls k + (Ls.getD k []).length := by
  unfold lenTo
  rw [List.take_succ_eq_append_getElem h, List.map_append, List.sum_append, List.getD_eq_getElem?_getD, List.getElem?_eq_getElem h]
  simp
theorem lenTo_mono {Ls : List (List S43)} : ∀ {k : Nat}, k ≤ Ls.length → lenTo Ls k ≤ lenTo Ls Ls.length := fun {k} h => by
  obtain ⟨d, hd⟩ : ∃ d, Ls.length = k + d := ⟨Ls.length - k, by omega⟩
  have : ∀ d, k + d ≤ Ls.length → lenTo Ls k ≤ lenTo Ls (k + d) := by
    intro d
    induction d with
    | zero => intro _; exact Nat.le_refl _
    | succ d ih => intro h2; have := ih (by omega); rw [← Nat.add_assoc, lenTo_succ (by omega)]; omega
  rw [hd]
  exact this d (by omega)
def flatTo (Ls : List (List S43)) (k : Nat) : List S43 := (Ls.take k).flatten
theorem flatTo_succ {Ls : List (List S43)} {k : Nat} (h : k < Ls.length) : flatTo Ls (k + 1) = flatTo Ls k ++ Ls.getD k [] := by
  unfold flatTo
  rw [List.take_succ_eq_append_getElem h, List.flatten_append, List.getD_eq_getElem?_getD, List.getElem?_eq_getElem h]
  simp
theorem flatTo_len (Ls : List (List S43)) (k : Nat) : (flatTo Ls k).length = lenTo Ls k := by unfold flatTo lenTo; rw [List.length_flatten]
/-- A row of rows of feuds. -/
theorem at_rowF {w : World} {A : Option Addr} {n : Nat} {xs : List (List S43)} (h : Kd.C (Kd.slice 43 k43) w A n xs) (i : Nat) (h1 : i < n) : ∃ ad A0 c0, A = some ad ∧ w.cell? (ad.add i) = some (.slice A0 (xs.getD i []).length c0) ∧ (xs.getD i []).length ≤ c0 ∧ Kd.C k43 w A0 (xs.getD i []).length (xs.getD i []) := by
  obtain ⟨ad, c, e, _, hK, hc0⟩ := Kd.C_get h ([] : List S43) (i : Int) (by omega) (by omega)
  rw [Int.toNat_natCast] at hK hc0
  have hc : ∀ j u, c[j]? = some u → w.cell? (ad.add (i * 1 + j)) = some u := hc0
  obtain ⟨A0, c0, rfl, l0, g0⟩ := hK
  exact ⟨ad, A0, c0, e, by have hq := hc 0 _ rfl; rwa [Nat.mul_one, Nat.add_zero] at hq, l0, g0⟩
set_option maxRecDepth 100000 in
set_option maxHeartbeats 4000000 in
theorem concat.calls (A : Option Addr) (c : Nat) (Ls : List (List S43)) (w : World) (hr : Kd.C (Kd.slice 43 k43) w A Ls.length Ls) (hl : lenTo Ls Ls.length ≤ 1000) (hn : Ls.length ≤ 1000) :
    Calls Try.prog 118 #[.slice A Ls.length c] w fun e w' => ∃ v, e = .returned v ∧ Kd.R k43 43 w' w.heap.size (fun _ => True) v (flatTo Ls Ls.length) ∧ Below w.heap.size w w' := by
  have HR := Aside0.mk hr
  have HG := Aside0.mk (fun W => grow0.calls (lenTo Ls Ls.length) hl W)
  clear hr
  go_enter Try.func118, Try.ntmps118
  go_wp2
  go_loop [3, 11] (fun s3 s11 => ∃ k : Nat, k ≤ Ls.length ∧ s11 = .int .i64 k ∧ s3 = .int .i64 (lenTo Ls k)) (fun _ s11 => Ls.length - (intOf s11).toNat)
  case atStart => exact ⟨0, Nat.zero_le _, rfl, by simp [lenTo]⟩
  case round =>
    obtain ⟨k, hk, rfl, rfl⟩ := hrel
    by_cases hlt : k < Ls.length
    · have hltz : (k : Int) < (Ls.length : Int) := by omega
      obtain ⟨ad, A0, c0, rfl, hrow, _, _⟩ := at_rowF HR.out k hlt
      have HS := Aside0.mk (lenTo_succ hlt)
      have hb := lenTo_mono (Ls := Ls) (k := k + 1) (by omega)
      rw [lenTo_succ hlt] at hb
      generalize (Ls.getD k []).length = m at *
      generalize lenTo Ls k = s at *
      have hb2 : s + m ≤ 1000 := by omega
      have hneg : decide ((s : Int) + (m : Int) < 0) = false := decide_eq_false (by omega)
      clear hb
      go_wp2
      go_round
      case rel => exact ⟨k + 1, by omega, by go_num, by rw [HS.out]; go_num⟩
      case measure => simp [intOf]; omega
    · obtain rfl : k = Ls.length := by omega
      go_wp2_with fail
      refine (HG.out w).mono ?_
      rintro e w1 ⟨v1, rfl, hR1, hB1⟩
      have HR1 := Aside0.mk hR1
      have HB1 := Aside0.mk hB1
      clear hR1 hB1
      go_wp2
      go_loopw [6, 27] (fun s6 s27 wr => ∃ k : Nat, k ≤ Ls.length ∧ s27 = .int .i64 k ∧ Aside0 (Kd.R k43 43 wr w.heap.size (fun _ => True) s6 (flatTo Ls k)) ∧ Aside0 (Below w.heap.size w wr)) (fun _ s27 _ => Ls.length - (intOf s27).toNat)
      case atStart => exact ⟨0, Nat.zero_le _, rfl, by unfold flatTo; exact HR1, HB1⟩
      case round =>
        obtain ⟨k, hk, rfl, HO, HB⟩ := hrel
        by_cases hlt : k < Ls.length
        · have hltz : (k : Int) < (Ls.length : Int) := by omega
          obtain ⟨ad, A0, c0, rfl, hrow, _, hrd⟩ := at_rowF (Kd.C_below HR.out HB.out) k hlt
          have HRd := Aside0.mk hrd
          have HF := Aside0.mk (flatTo_succ hlt)
          have hb := lenTo_mono (Ls := Ls) (k := k + 1) (by omega)
          rw [lenTo_succ hlt, ← flatTo_len] at hb
          clear hrd
          generalize Ls.getD k [] = ys at *
          go_wp2_with ((with_reducible refine gate_builtin (b := .append) (xs := #[.tmp 31, .tmp 32]) rfl ?_); refine Kd.R_append_rows k43 (w0 := w) w.heap.size rfl (.tmp 31) (.tmp 32) 22 43 (.agg #[(.int .i64 0), (.int .i64 0)]) 16 rfl Try.underlying22 info43 rfl (by decide) (by omega) u6 (flatTo Ls k) ys _ _ _ (fun _ => True) (fun _ => False) rfl rfl ?aO ?aR (fun _ _ h => h) (fun _ h => h.elim) (fun _ _ => trivial) ?aB ?aS ?aL ?_; (case aR => exact HRd.out); (case aB => exact HB.out); (case aO => exact HO.out); (case aS => exact HB.out.size); (case aL => omega); intro v2 w2 hR2 hB2 hg2 hat2)
          go_roundw
          case rel => exact ⟨k + 1, by omega, by go_num, ⟨by rw [HF.out]; exact hR2⟩, ⟨hB2⟩⟩
          case measure => simp [intOf]; omega
        · obtain rfl : k = Ls.length := by omega
          go_wp2
          go_ret
          exact ⟨_, rfl, HO.out, HB.out⟩
def slices_Concat_F.f (l : List (List S43)) : Option (List S43) := if lenTo l l.length ≤ 1000 then (if l.length ≤ 1000 then some l.flatten else none) else none
theorem slices_Concat_F.calls (A0 : Option Addr) (c0 : Nat) (l0 : List (List S43)) (r : List S43) (w : World) (hr0 : Kd.C (Kd.slice 43 k43) w A0 l0.length l0) (hc0 : l0.length ≤ c0) (h : slices_Concat_F.f l0 = some r) :
    Calls Try.prog 118 #[.slice A0 l0.length c0] w fun e w' => ∃ v0_ : Value, e = .returned v0_ ∧ Kd.R k43 43 w' w.heap.size (fun _ => True) v0_ r ∧ Below w.heap.size w w' := by
  unfold slices_Concat_F.f at h
  split at h
  · split at h
    · obtain rfl := Option.some.inj h
      have := concat.calls A0 c0 l0 w hr0 (by assumption) (by assumption)
      unfold flatTo at this
      rw [List.take_length] at this
      exact this
    · cases h
  · cases h
end Go.Proofs.Ytpmjmhdofjbcbaa.H
