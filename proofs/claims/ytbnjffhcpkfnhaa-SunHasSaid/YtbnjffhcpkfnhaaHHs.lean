/- The wins of each table can be won. -/
import Derived.Test.YtbnjffhcpkfnhaaHCn
namespace Go.Proofs.Ytbnjffhcpkfnhaa.H
open Go.RowKit Go.Proofs.YtbnjffhcpkfnhaaW.PrintWords Go.Proofs.YtbnjffhcpkfnhaaW.PrintLast Go.Proofs.YtbnjffhcpkfnhaaW.PrintMore
set_option linter.unusedVariables false
set_option linter.unusedSimpArgs false
theorem sum_part {f : Int → Int} (hf : ∀ x, 0 ≤ f x) : ∀ {l L : List Int}, l.Sublist L → (l.map f).sum ≤ (L.map f).sum
  | _, _, .slnil => by simp
  | _, _, .cons y h => by
    have := sum_part hf h
    have := hf y
    simp only [List.map_cons, List.sum_cons]
    omega
  | _, _, .cons_cons y h => by
    have := sum_part hf h
    simp only [List.map_cons, List.sum_cons]
    omega
/-- The wins among some strips, of one. -/
def amongO (t : List (List Int)) (s : List Int) (x : Int) : Int := (s.map fun y => ent t x.toNat y.toNat).sum
theorem among_pairs {t : List (List Int)} (h : Right t) : ∀ s : List Int, s.Nodup → (∀ x ∈ s, 0 ≤ x ∧ x < (t.length : Int)) → 2 * sumD (amongO t s) s = (s.length : Int) * ((s.length : Int) - 1)
  | [], _, _ => by simp [sumD]
  | x :: s, hn, hm => by
    obtain ⟨hx, hn2⟩ := List.nodup_cons.1 hn
    have ih := among_pairs h s hn2 (fun y hy => hm y (by simp [hy]))
    have hxm := hm x (by simp)
    have e1 : amongO t (x :: s) x = amongO t s x := by
      unfold amongO
      rw [List.map_cons, List.sum_cons, h.diag]; omega
    have e2 : ∀ u : List Int, sumD (amongO t (x :: s)) u = sumD (amongO t s) u + (u.map fun y => ent t y.toNat x.toNat).sum := fun u => by
      induction u with
      | nil => simp [sumD]
      | cons y u ihu =>
        rw [sumD_cons, sumD_cons, ihu, List.map_cons, List.sum_cons]
        have : amongO t (x :: s) y = ent t y.toNat x.toNat + amongO t s y := by
          unfold amongO
          rw [List.map_cons, List.sum_cons]
        omega
    have e3 : ∀ u : List Int, (∀ y ∈ u, y ∈ s) → amongO t u x + (u.map fun y => ent t y.toNat x.toNat).sum = u.length := fun u => by
      induction u with
      | nil => intro _; simp [amongO]
      | cons y u ihu =>
        intro hu
        have h1 := ihu (fun z hz => hu z (by simp [hz]))
        have hy := hu y (by simp)
        have hym := hm y (by simp [hy])
        have h2 := h.anti x.toNat y.toNat (by omega) (by omega) (fun e => hx (by rw [show x = y by omega]; exact hy))
        unfold amongO at h1 ⊢
        rw [List.map_cons, List.sum_cons, List.map_cons, List.sum_cons, List.length_cons]
        omega
    have e4 := e3 s (fun _ hy => hy)
    rw [sumD_cons, e1, e2 s, List.length_cons]
    have e5 : ((s.length + 1 : Nat) : Int) * (((s.length + 1 : Nat) : Int) - 1) = (s.length : Int) * ((s.length : Int) - 1) + 2 * s.length := by
      rw [show ((s.length + 1 : Nat) : Int) = (s.length : Int) + 1 by omega]
      simp only [Int.add_sub_cancel, Int.add_mul, Int.mul_sub, Int.one_mul, Int.mul_one]; omega
    rw [e5]
    omega
theorem wins_ofL {t : List (List Int)} (h : Right t) {x : Int} (hx : 0 ≤ x ∧ x < (t.length : Int)) : ofL (winsL t) x = amongO t (nums0 t.length) x := by
  unfold ofL amongO
  rw [h.wins_get (show x.toNat < t.length by omega)]
  unfold winOf
  exact sumTo_nums _ _
theorem winsV_wins {t : List (List Int)} (h : Right t) : winsV (winsL t) = 0 := by
  have h1 := h.pos
  have h2 := h.len
  have h3 := winsL_len t
  unfold winsV
  rw [if_neg (by omega), if_neg (fun ha => by
    obtain ⟨x, hx, hd⟩ := List.any_eq_true.1 ha
    have hd := of_decide_eq_true hd
    obtain ⟨j, hj, e⟩ := List.getElem_of_mem hx
    have h4 := h.wins_get (show j < t.length by omega)
    have h5 := h.win_bound j
    rw [List.getD_eq_getElem?_getD, List.getElem?_eq_getElem hj, Option.getD_some, e] at h4
    omega)]
theorem canWin_wins {t : List (List Int)} (h : Right t) : canWinB (winsL t) = true := by
  have hl := winsL_len t
  rw [canWinB_iff (winsV_wins h)]
  have hent : ∀ x, 0 ≤ x ∧ x < (t.length : Int) → ∀ y : Int, 0 ≤ ent t x.toNat y.toNat := fun x _ y => by rcases h.bit x.toNat y.toNat with e | e <;> omega
  constructor
  · intro k hk
    have hsub : ((ascL (winsL t)).take (k + 1)).Sublist (ascL (winsL t)) := List.take_sublist _ _
    obtain ⟨s2, h1, h2⟩ := List.exists_perm_sublist hsub (List.mergeSort_perm (winsL t) _)
    have hmap : (nums0 t.length).map (ofL (winsL t)) = winsL t := by
      apply List.ext_getElem
      · simp [nums0, hl]
      · intro i a b
        simp [nums0, ofL, List.getD_eq_getElem?_getD, List.getElem?_eq_getElem b]
    rw [← hmap] at h2
    obtain ⟨s, h3, rfl⟩ := List.sublist_map_iff.1 h2
    have hn : s.Nodup := h3.nodup (nums0_nodup _)
    have hm : ∀ x ∈ s, 0 ≤ x ∧ x < (t.length : Int) := fun x hx => mem_nums0.1 (h3.subset hx)
    have hp := among_pairs h s hn hm
    have hlen : s.length = k + 1 := by
      have := h1.length_eq
      rw [List.length_map, List.length_take, ascL_len] at this
      omega
    have hle : ∀ u : List Int, (∀ x ∈ u, x ∈ s) → sumD (amongO t s) u ≤ sumD (ofL (winsL t)) u := fun u => by
      induction u with
      | nil => intro _; simp [sumD]
      | cons y u ihu =>
        intro hu
        have i1 := ihu (fun z hz => hu z (by simp [hz]))
        have hy := hm y (hu y (by simp))
        have i2 : amongO t s y ≤ amongO t (nums0 t.length) y := sum_part (f := fun z => ent t y.toNat z.toNat) (hent y hy) h3
        rw [sumD_cons, sumD_cons, wins_ofL h hy]
        omega
    have h4 := hle s (fun _ hx => hx)
    have h5 : preS (winsL t) (k + 1) = sumD (ofL (winsL t)) s := (sum_perm h1).symm
    rw [h5]
    rw [hlen, show ((k + 1 : Nat) : Int) - 1 = (k : Int) by omega, show ((k + 1 : Nat) : Int) = (k : Int) + 1 by omega, Int.mul_comm ((k : Int) + 1) (k : Int)] at hp
    generalize (k : Int) * ((k : Int) + 1) = P at *
    omega
  · have hp := among_pairs h (nums0 t.length) (nums0_nodup _) (fun x hx => mem_nums0.1 hx)
    rw [nums0_len] at hp
    have e : ∀ u : List Int, (∀ x ∈ u, 0 ≤ x ∧ x < (t.length : Int)) → sumD (amongO t (nums0 t.length)) u = sumD (ofL (winsL t)) u := fun u => by
      induction u with
      | nil => intro _; rfl
      | cons y u ihu =>
        intro hu
        rw [sumD_cons, sumD_cons, ihu (fun z hz => hu z (by simp [hz])), wins_ofL h (hu y (by simp))]
    rw [e _ (fun x hx => mem_nums0.1 hx)] at hp
    have e2 := sum_ofL (winsL t)
    rw [hl] at e2
    rw [e2] at hp
    rw [hl]
    exact hp
end Go.Proofs.Ytbnjffhcpkfnhaa.H
