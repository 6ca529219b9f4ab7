/- The plain law of SunUpsets: an order and the same turned round have all pairs between them, and the fewest are not more than either. -/
import Derived.Test.YtbnjffhcpkfnhaaQU1
import Derived.Test.YtbnjffhcpkfnhaaHO
import Derived.Test.YtbnjffhcpkfnhaaHQ
namespace Go.Proofs.Ytbnjffhcpkfnhaa.H
open Go.RowKit Go.Proofs.YtbnjffhcpkfnhaaW.PrintWords Go.Proofs.YtbnjffhcpkfnhaaW.PrintLast Go.Proofs.YtbnjffhcpkfnhaaW.PrintMore
set_option linter.unusedVariables false

theorem half_pairs : ∀ n : Nat, n ≤ 7 → wrap64 (Int.tdiv (wrap64 ((n : Int) * (wrap64 ((n : Int) - 1)))) 2) * 2 = n * ((n : Int) - 1) := by decide +kernel
theorem sunUpsets_true (t : List (List Int)) (l : List Int) (ht : t.length ≤ 9223372036854775807) (hl : l.length ≤ 9223372036854775807) : Ev (fun k => QU.verditerlaw05_sunUpsets.f k t l) true := by
  obtain ⟨b, hb, hs⟩ := Ev_Long t ht
  unfold QU.verditerlaw05_sunUpsets.f
  refine Ev.bind hb ?_
  have hknown : Ev (fun k => QU.verditerlaw05_sunUpsets.j0 k t l true) true := Ev.step (fun k => by simp only [QU.verditerlaw05_sunUpsets.j0]; rw [if_pos trivial]; rfl) (Ev.now _)
  cases b with
  | true => exact Ev.congr (fun k => if_pos rfl) hknown
  | false =>
    refine Ev.congr (f := fun k => QU.verditerlaw05_sunUpsets.j0 k t l (decide ((l.length : Int) > 40))) (fun k => by rw [if_neg (by simp)]; rfl) ?_
    by_cases hm : (l.length : Int) > 40
    · rw [decide_eq_true hm]; exact hknown
    rw [decide_eq_false hm]
    refine Ev.step (f := fun k => (QO.verditerref05_Upsets.f k t l).bind fun bt120 => (QO.sun_Upsets.f t l).bind fun bt122 => if bt122.1 = bt120.1 then QU.verditerlaw05_sunUpsets.j1 k t l bt122.1 bt122.2 (bt122.2 != bt120.2) else QU.verditerlaw05_sunUpsets.j1 k t l bt122.1 bt122.2 true) (fun k => by simp only [QU.verditerlaw05_sunUpsets.j0]; rw [if_neg (by simp)]) ?_
    by_cases ho : ordV t l = 0
    · obtain ⟨he, hO⟩ := ordV_yes ho
      have h := Right.of he
      have hn := h.len
      refine Ev.bind (Ev_refUpsets_yes he hO) ?_
      refine Ev.congr (f := fun k => QU.verditerlaw05_sunUpsets.j1 k t l (ups t l) 0 false) (fun k => by rw [sunUpsets_yes he hO, Option.bind_some, if_pos rfl]; rfl) ?_
      have hl7 : l.length = t.length := hO.len
      have hback : ∀ i, i ≤ l.length → Ev (fun k => QU.verditerlaw05_sunUpsets.l0 k t l (ups t l) (l.drop i).reverse ((i : Int) - 1)) true := by
        intro i
        induction i with
        | zero =>
          intro _
          have hr := sunUpsets_yes he hO.reverse
          have hb := ups_both h l hO.nodup (fun x hx => hO.mem.1 hx)
          have hp := half_pairs t.length hn
          obtain ⟨h1, h2, h3⟩ := least_spec h
          have b1 := ups_le h (l := l) (by omega)
          have b2 := ups_le h (l := l.reverse) (by rw [List.length_reverse]; omega)
          have b3 := ups_nonneg h l
          have b4 := ups_nonneg h l.reverse
          rw [hl7] at hb
          refine Ev.step (fun k => ?_) (Ev.now _)
          simp only [QU.verditerlaw05_sunUpsets.l0]
          rw [if_neg (by omega), List.drop_zero, hr, Option.bind_some, sunFewest_yes he, Option.bind_some, if_pos rfl]
          rw [wrap_small (by omega) (by omega), if_pos (by omega), if_pos rfl, if_pos (h3 l hO), if_pos (h3 _ hO.reverse)]
          rfl
        | succ i ih =>
          intro hi
          refine Ev.step (fun k => ?_) (ih (by omega))
          simp only [QU.verditerlaw05_sunUpsets.l0]
          have e : ((i + 1 : Nat) : Int) - 1 = (i : Int) := by omega
          rw [e, if_pos (by omega), if_pos (by omega), if_pos (by omega), if_pos (by rw [List.length_reverse, List.length_drop]; omega), rd_nat, wrap_small (by omega) (by omega)]
          congr 1
          rw [List.drop_eq_getElem_cons (i := i) (by omega), List.reverse_cons, List.getD_eq_getElem?_getD, List.getElem?_eq_getElem (by omega)]
          rfl
      refine Ev.step (fun k => ?_) (hback l.length (Nat.le_refl _))
      simp only [QU.verditerlaw05_sunUpsets.j1]
      rw [if_neg (by simp), if_pos trivial, List.drop_length, wrap_small (by omega) (by omega)]
      rfl
    · refine Ev.bind (Ev_refUpsets_no ho) ?_
      refine Ev.congr (f := fun k => QU.verditerlaw05_sunUpsets.j1 k t l 0 (ordV t l) false) (fun k => by rw [sunUpsets_no ho, Option.bind_some, if_pos rfl, bne_self_eq_false]) ?_
      refine Ev.step (fun k => ?_) (Ev.now _)
      simp only [QU.verditerlaw05_sunUpsets.j1]
      rw [if_neg (by simp), if_neg ho]
      rfl

theorem pureSunUpsets {A : Option Addr} {n c : Nat} {T : List (List Int)} {B : Option Addr} {m d : Nat} {l : List Int} {W : World} (g : Kd.C (Kd.slice 3 (Kd.int .i64)) W A n T) (hf : ∀ l ∈ T, ∀ x ∈ l, (Lit.int .i64 x).wf = true) (hn : n ≤ c)
    (g2 : Kd.C (Kd.int .i64) W B m l) (hf2 : ∀ x ∈ l, (Lit.int .i64 x).wf = true) (hm : m ≤ d) :
    Calls Try.prog 23 #[.slice A n c, .slice B m d] W fun e w' => e = .returned (.bool true) ∧ Below W.heap.size W w' := by
  obtain rfl : T.length = n := g.1
  obtain rfl : l.length = m := g2.1
  obtain ⟨k, hk⟩ := (sunUpsets_true T l g.2.1 g2.2.1).rounds
  exact QU.verditerlaw05_sunUpsets.calls k A c T B d l true W g hn g2 hm hk
end Go.Proofs.Ytbnjffhcpkfnhaa.H
