/- The plain law of SunKings: who is a king, and that kings are not just two. -/
import Derived.Test.YtbnjffhcpkfnhaaQK2
import Derived.Test.YtbnjffhcpkfnhaaHO
import Derived.Test.YtbnjffhcpkfnhaaHF
namespace Go.Proofs.Ytbnjffhcpkfnhaa.H
open Go.RowKit Go.Proofs.YtbnjffhcpkfnhaaW.PrintWords Go.Proofs.YtbnjffhcpkfnhaaW.PrintLast Go.Proofs.YtbnjffhcpkfnhaaW.PrintMore
set_option linter.unusedVariables false

theorem rdK_nat (xs : List (List Int)) (i : Nat) : QK.rd_L1 xs (i : Int) = xs.getD i [] := by simp [QK.rd_L1]

theorem Ev_hasK (l : List Int) (x : Int) (hl : l.length ≤ 9223372036854775807) : Ev (fun k => QK.verditerref01_Has.f k l x) (decide (x ∈ l)) := by
  have h : ∀ d i, i + d = l.length → (∀ j, j < i → l.getD j 0 ≠ x) → Ev (fun k => QK.verditerref01_Has.l0 k l x (i : Int)) (decide (x ∈ l)) := by
    intro d
    induction d with
    | zero =>
      intro i hi hp
      have hn : x ∉ l := fun hm => by
        obtain ⟨j, hj, e⟩ := List.getElem_of_mem hm
        exact hp j (by omega) (by rw [List.getD_eq_getElem?_getD, List.getElem?_eq_getElem hj]; exact e)
      rw [decide_eq_false hn]
      exact Ev.step (fun k => by simp only [QK.verditerref01_Has.l0]; rw [if_neg (by omega)]) (Ev.now _)
    | succ d ih =>
      intro i hi hp
      by_cases hx : l.getD i 0 = x
      · have hm : x ∈ l := mem_of_getD l 0 x i (by omega) hx
        rw [decide_eq_true hm]
        refine Ev.step (fun k => ?_) (Ev.now _)
        simp only [QK.verditerref01_Has.l0]
        rw [if_pos (by omega), if_pos (by omega), rd_nat, if_pos hx]
      · refine Ev.step (fun k => ?_) (ih (i + 1) (by omega) (fun j hj => by
          by_cases e : j = i
          · subst e; exact hx
          · exact hp j (by omega)))
        simp only [QK.verditerref01_Has.l0]
        rw [if_pos (by omega), if_pos (by omega), rd_nat, if_neg hx, wrap_nat (n := l.length) (by omega) hl]
  exact Ev.congr (fun k => rfl) (h l.length 0 (by omega) (fun j hj => absurd hj (by omega)))

theorem refKings_l2 {t : List (List Int)} (h : Right t) (out : List Int) {i k : Nat} (hi : i < t.length) (hk : k < t.length) (x7 : Bool) (R : List Int × Int)
    (hR : Ev (fun f => QK.verditerref05_Kings.l1 f t out (i : Int) (x7 && overB t i k) ((k + 1 : Nat) : Int)) R) :
    ∀ d m, m + d = t.length → Ev (fun f => QK.verditerref05_Kings.l2 f t out (i : Int) x7 (k : Int) (overTo t i k m) (m : Int)) R := by
  have hn := h.len
  intro d
  induction d with
  | zero =>
    intro m hm
    obtain rfl : m = t.length := by omega
    refine Ev.step (fun f => ?_) hR
    simp only [QK.verditerref05_Kings.l2]
    rw [if_neg (by omega), wrap_nat (n := t.length) hk (by omega)]
    cases x7 with
    | true => rw [if_pos rfl, Bool.true_and]; rfl
    | false => rw [if_neg (by simp), Bool.false_and]
  | succ d ih =>
    intro m hm
    have hm' : m < t.length := by omega
    refine Ev.step (fun f => ?_) (ih (m + 1) (by omega))
    simp only [QK.verditerref05_Kings.l2]
    rw [if_pos (by omega), wrap_nat (n := t.length) hm' (by omega), overTo_succ]
    cases ho : overTo t i k m with
    | true => rw [if_pos rfl, Bool.true_or]
    | false =>
      rw [if_neg (by simp), rdK_nat, rdK_nat, h.row i hi, h.row m hm', rd_nat, rd_nat]
      rw [if_pos (by omega), if_pos (by omega), if_pos (by omega), if_pos (by omega), if_pos (by omega), if_pos (by omega), Bool.false_or]
      have e2 : wrap64 ((t.getD i []).getD m 0 * (t.getD m []).getD k 0) = ent t i m * ent t m k := by
        have a1 := h.bit i m
        have a2 := h.bit m k
        unfold ent at a1 a2 ⊢
        rcases a1 with a | a <;> rcases a2 with b | b <;> rw [a, b] <;> exact wrap_small (by omega) (by omega)
      rw [e2]
theorem refKings_l1 {t : List (List Int)} (h : Right t) (out : List Int) {i : Nat} (hi : i < t.length) (R : List Int × Int) (ho : out.length ≤ 7)
    (hR : Ev (fun f => QK.verditerref05_Kings.l0 f t (if kingTo t i t.length = true then out ++ [(i : Int)] else out) ((i + 1 : Nat) : Int)) R) :
    ∀ d k, k + d = t.length → Ev (fun f => QK.verditerref05_Kings.l1 f t out (i : Int) (kingTo t i k) (k : Int)) R := by
  have hn := h.len
  intro d
  induction d with
  | zero =>
    intro k hk
    obtain rfl : k = t.length := by omega
    refine Ev.step (fun f => ?_) hR
    simp only [QK.verditerref05_Kings.l1]
    rw [if_neg (by omega), wrap_nat (n := t.length) hi (by omega)]
    by_cases hK : kingTo t i t.length = true
    · rw [if_pos hK, if_pos hK, if_pos (by omega)]
    · rw [if_neg hK, if_neg hK]
  | succ d ih =>
    intro k hk
    have hk' : k < t.length := by omega
    have hnext := ih (k + 1) (by omega)
    rw [kingTo_succ] at hnext
    have h2 := refKings_l2 h out hi hk' (kingTo t i k) R hnext t.length 0 (by omega)
    refine Ev.step (f := fun f => QK.verditerref05_Kings.j2 f t out (i : Int) (kingTo t i k) (k : Int) (overTo t i k 0)) (fun f => ?_) (Ev.step (fun f => rfl) h2)
    simp only [QK.verditerref05_Kings.l1]
    rw [if_pos (by omega)]
    by_cases hik : i = k
    · subst hik
      rw [if_pos rfl]
      simp [overTo]
    · rw [if_neg (by omega), rdK_nat, h.row i hi, if_pos (by omega), if_pos (by omega), if_pos (by omega), if_pos (by omega), rd_nat]
      simp only [overTo, List.range_zero, List.any_nil, Bool.or_false]
      rw [show (i == k) = false from beq_eq_false_iff_ne.2 hik, Bool.false_or]
      rfl
theorem Ev_refKings {t : List (List Int)} (h : Right t) (he : errV t = 0) : Ev (fun k => QK.verditerref05_Kings.f k t) (kingsL t, 0) := by
  have hn := h.len
  have hl0 : ∀ d i, i + d = t.length → Ev (fun f => QK.verditerref05_Kings.l0 f t (kingsTo t i) (i : Int)) (kingsL t, 0) := by
    intro d
    induction d with
    | zero =>
      intro i hi
      obtain rfl : i = t.length := by omega
      exact Ev.step (fun f => by simp only [QK.verditerref05_Kings.l0]; rw [if_neg (by omega)]; rfl) (Ev.now _)
    | succ d ih =>
      intro i hi
      have hi' : i < t.length := by omega
      have hlen := kingsTo_length t i
      have hnext := ih (i + 1) (by omega)
      have e : kingsTo t (i + 1) = if kingTo t i t.length = true then kingsTo t i ++ [(i : Int)] else kingsTo t i := by
        by_cases hK : kingTo t i t.length = true
        · rw [if_pos hK]; exact kingsTo_hit (by rw [king_eq h hi']; exact hK)
        · rw [if_neg hK]; exact kingsTo_miss (by rw [king_eq h hi']; exact Bool.eq_false_iff.2 hK)
      rw [e] at hnext
      refine Ev.step (fun f => ?_) (refKings_l1 h (kingsTo t i) hi' _ (by omega) hnext t.length 0 (by omega))
      simp only [QK.verditerref05_Kings.l0]
      rw [if_pos (by omega)]
      rfl
  refine Ev.congr (f := fun f => QK.verditerref05_Kings.l0 f t [] 0) (fun f => ?_) (hl0 t.length 0 (by omega))
  simp only [QK.verditerref05_Kings.f, verditerref05_Validate.f, Option.bind_some]
  rw [he, if_pos rfl]

theorem sunKings_true (t : List (List Int)) (ht : t.length ≤ 9223372036854775807) : Ev (fun k => QK.verditerlaw05_sunKings.f k t) true := by
  obtain ⟨b, hb, hs⟩ := Ev_Long t ht
  unfold QK.verditerlaw05_sunKings.f
  refine Ev.bind hb ?_
  cases b with
  | true => exact Ev.congr (f := fun _ => some true) (fun k => by rw [if_pos rfl]; rfl) (Ev.now _)
  | false =>
    refine Ev.congr (fun k => if_neg (by simp)) ?_
    by_cases he : errV t = 0
    · have h := Right.of he
      have hn := h.len
      have hkl : (kingsL t).length ≤ 7 := by have := kingsTo_length t t.length; unfold kingsL; omega
      refine Ev.bind (Ev_refKings h he) (Ev.bind (a := (kingsL t, (0 : Int))) (Ev.congr (fun _ => by unfold sun_Kings.f; rw [if_pos he]) (Ev.now _)) (Ev.bind (Ev_same (kingsL t) (by omega)) ?_))
      refine Ev.congr (f := fun k => QK.verditerlaw05_sunKings.j0 k t (kingsL t) 0 false) (fun k => by rw [if_pos rfl]; rfl) ?_
      refine Ev.step (f := fun k => QK.verditerlaw05_sunKings.j1 k t (kingsL t) (winsL t) false) (fun k => ?_) ?_
      · simp only [QK.verditerlaw05_sunKings.j0]
        rw [if_neg (by simp), if_pos trivial, sunWins_yes' h he, Option.bind_some]
        rw [if_pos rfl, if_pos (by rw [winsL_len']), if_neg (by have := kings_not_two h; omega)]
        have := kings_not_none h
        rw [show (((kingsL t).length : Int) == 0) = false from beq_eq_false_iff_ne.2 (by omega)]
      have l1 : ∀ d i, i + d = t.length → Ev (fun k => QK.verditerlaw05_sunKings.l1 k t (kingsL t) (winsL t) (maxTo (winOf t) t.length) (i : Int)) true := by
        intro d
        induction d with
        | zero =>
          intro i hi
          obtain rfl : i = t.length := by omega
          refine Ev.step (fun k => ?_) (Ev.now _)
          simp only [QK.verditerlaw05_sunKings.l1]
          rw [if_neg (by rw [winsL_len']; omega), wrap_small (x := (t.length : Int) - 1) (by omega) (by omega), if_pos]
          · rfl
          · have := kings_one h
            by_cases hm : maxTo (winOf t) t.length = (t.length : Int) - 1
            · rw [show ((maxTo (winOf t) t.length) == ((t.length : Int) - 1)) = true from beq_iff_eq.2 hm, show (((kingsL t).length : Int) == 1) = true from beq_iff_eq.2 (by have := this.2 hm; omega)]; rfl
            · rw [show ((maxTo (winOf t) t.length) == ((t.length : Int) - 1)) = false from beq_eq_false_iff_ne.2 hm, show (((kingsL t).length : Int) == 1) = false from beq_eq_false_iff_ne.2 (fun e => hm (this.1 (by omega)))]; rfl
        | succ d ih =>
          intro i hi
          have hi' : i < t.length := by omega
          have hnext := ih (i + 1) (by omega)
          by_cases hw : winOf t i = maxTo (winOf t) t.length
          · have hk : (i : Int) ∈ kingsL t := most_king h hi' hw
            refine Ev.step (f := fun k => (QK.verditerref01_Has.f k (kingsL t) (i : Int)).bind fun b => if b = true then QK.verditerlaw05_sunKings.l1 k t (kingsL t) (winsL t) (maxTo (winOf t) t.length) ((i + 1 : Nat) : Int) else some false) (fun k => ?_) (Ev.bind (Ev_hasK _ _ (by omega)) ?_)
            · simp only [QK.verditerlaw05_sunKings.l1]
              rw [if_pos (by rw [winsL_len']; omega), if_pos (by omega), rd_nat, h.wins_get' hi', if_pos hw, wrap_nat (n := t.length) hi' ht]
            · rw [decide_eq_true hk]
              exact Ev.congr (fun k => if_pos rfl) hnext
          · refine Ev.step (fun k => ?_) hnext
            simp only [QK.verditerlaw05_sunKings.l1]
            rw [if_pos (by rw [winsL_len']; omega), if_pos (by omega), rd_nat, h.wins_get' hi', if_neg hw, wrap_nat (n := t.length) hi' ht]
      have l0 : ∀ d i, i + d = t.length → Ev (fun k => QK.verditerlaw05_sunKings.l0 k t (kingsL t) (winsL t) (maxTo (winOf t) i) (i : Int)) true := by
        intro d
        induction d with
        | zero =>
          intro i hi
          obtain rfl : i = t.length := by omega
          refine Ev.step (fun k => ?_) (l1 t.length 0 (by omega))
          simp only [QK.verditerlaw05_sunKings.l0]
          rw [if_neg (by rw [winsL_len']; omega)]
          rfl
        | succ d ih =>
          intro i hi
          have hi' : i < t.length := by omega
          refine Ev.step (fun k => ?_) (ih (i + 1) (by omega))
          simp only [QK.verditerlaw05_sunKings.l0]
          rw [if_pos (by rw [winsL_len']; omega), if_pos (by omega), rd_nat, h.wins_get' hi', wrap_nat (n := t.length) hi' ht]
          rfl
      refine Ev.step (fun k => ?_) (l0 t.length 0 (by omega))
      simp only [QK.verditerlaw05_sunKings.j1]
      rw [if_neg (by simp)]
      rfl
    · have hv : verditerref05_Validate.f t = some (errV t) := rfl
      refine Ev.bind (a := (([] : List Int), errV t)) (Ev.congr (fun k => by unfold QK.verditerref05_Kings.f; rw [hv, Option.bind_some, if_neg he]) (Ev.now _)) ?_
      refine Ev.bind (a := (([] : List Int), errV t)) (Ev.congr (fun _ => by unfold sun_Kings.f; rw [if_neg he]) (Ev.now _)) (Ev.bind (Ev_same [] (by simp)) ?_)
      refine Ev.congr (f := fun k => QK.verditerlaw05_sunKings.j0 k t [] (errV t) false) (fun k => by rw [if_pos rfl, bne_self_eq_false]) ?_
      refine Ev.step (fun k => ?_) (Ev.now _)
      simp only [QK.verditerlaw05_sunKings.j0]
      rw [if_neg (by simp), if_neg he]
      rfl

theorem pureSunKings {A : Option Addr} {n c : Nat} {T : List (List Int)} {W : World} (g : Kd.C (Kd.slice 3 (Kd.int .i64)) W A n T) (hf : ∀ l ∈ T, ∀ x ∈ l, (Lit.int .i64 x).wf = true) (hn : n ≤ c) :
    Calls Try.prog 19 #[.slice A n c] W fun e w' => e = .returned (.bool true) ∧ Below W.heap.size W w' := by
  obtain rfl : T.length = n := g.1
  obtain ⟨k, hk⟩ := (sunKings_true T g.2.1).rounds
  exact QK.verditerlaw05_sunKings.calls k A c T true W g hn hk
end Go.Proofs.Ytbnjffhcpkfnhaa.H
