/- The plain law of SunOnly: without rings an order in which each strip beats the next one is the one that is made, and the first best one. -/
import Derived.Test.YtbnjffhcpkfnhaaHCk
import Derived.Test.YtbnjffhcpkfnhaaQE2
namespace Go.Proofs.Ytbnjffhcpkfnhaa.H
open Classical Go.RowKit Go.Proofs.YtbnjffhcpkfnhaaW.PrintWords Go.Proofs.YtbnjffhcpkfnhaaW.PrintLast Go.Proofs.YtbnjffhcpkfnhaaW.PrintMore
set_option linter.unusedVariables false
set_option linter.unusedSimpArgs false
theorem sunOnly_true (t : List (List Int)) (l : List Int) (ht : t.length ≤ 9223372036854775807) (hl : l.length ≤ 9223372036854775807) : Ev (fun k => QE.verditerlaw05_sunOnly.f k t l) true := by
  obtain ⟨b, hb, hs⟩ := Ev_Long t ht
  unfold QE.verditerlaw05_sunOnly.f
  refine Ev.bind hb ?_
  have hknown : Ev (fun k => QE.verditerlaw05_sunOnly.j0 k t l true) true := Ev.step (fun k => by simp only [QE.verditerlaw05_sunOnly.j0]; rw [if_pos trivial]; rfl) (Ev.now _)
  have hknown1 : Ev (fun k => QE.verditerlaw05_sunOnly.j1 k t l true) true := Ev.step (fun k => by simp only [QE.verditerlaw05_sunOnly.j1]; rw [if_pos trivial]; rfl) (Ev.now _)
  cases b with
  | true => exact Ev.congr (fun k => if_pos rfl) hknown
  | false =>
    refine Ev.congr (f := fun k => QE.verditerlaw05_sunOnly.j0 k t l (decide ((l.length : Int) > 40))) (fun k => by rw [if_neg (by simp)]; rfl) ?_
    by_cases hm : (l.length : Int) > 40
    · rw [decide_eq_true hm]; exact hknown
    rw [decide_eq_false hm]
    refine Ev.step (f := fun k => (QA.sun_Rings.f k t).bind fun bt133 => if bt133.2 = 0 then (if bt133.1 > 0 then QE.verditerlaw05_sunOnly.j1 k t l true else ((QE.sun_CheckRow.f k t l).bind fun t135 => QE.verditerlaw05_sunOnly.j1 k t l (t135 != 0))) else QE.verditerlaw05_sunOnly.j1 k t l true) (fun k => by simp only [QE.verditerlaw05_sunOnly.j0]; rw [if_neg (by simp)]) ?_
    by_cases he : errV t = 0
    · have h := Right.of he
      refine Ev.bind (Ev_sunRings h he) (Ev.congr (fun k => if_pos rfl) ?_)
      by_cases hr : ringsN t > 0
      · exact Ev.congr (fun k => if_pos hr) hknown1
      refine Ev.congr (fun k => if_neg hr) (Ev.bind (Ev_sunCheck t l) ?_)
      by_cases hc : checkV t l = 0
      · rw [hc]
        obtain ⟨_, hO, hC⟩ := checkV_yes hc
        have hr0 : ringsN t = 0 := by
          have := h.rings
          have := h.ringSum_bound
          omega
        obtain ⟨ho, e, hmn⟩ := least_spec h
        have e1 : rowL t = l := Chain.one h hr0 (rowTo_order t t.length) (rowTo_chain h t.length (Nat.le_refl _)) hO hC
        have e2 : (rankS t).1 = l := Chain.one h hr0 ho (best_next h ho (fun q hq => by rw [← e]; exact hmn q hq)) hO hC
        have hsr : QE.sun_Ranking.f t = some (l, 0) := by simp only [QE.sun_Ranking.f, sun_Validate.f, sun_ranking.f, Option.bind_some, he, if_pos, e2]
        refine Ev.step (f := fun k => (QA.verditerref01_SameInts.f k l l).bind fun t145 => if t145 = true then ((QA.verditerref01_SameInts.f k l l).bind fun t146 => if t146 = true then some true else some false) else some false) (fun k => ?_) ?_
        · simp only [QE.verditerlaw05_sunOnly.j1]
          rw [if_neg (by simp), show sun_Row.f t = some (l, 0) by unfold sun_Row.f; rw [if_pos he, e1], Option.bind_some, hsr, Option.bind_some, if_pos rfl]
          rfl
        exact Ev.bind (Ev_same l hl) (Ev.congr (fun k => if_pos rfl) (Ev.bind (Ev_same l hl) (Ev.now _)))
      · rw [bne_iff_ne.2 hc]; exact hknown1
    · refine Ev.bind (Ev.congr (fun k => sunRings_no he k) (Ev.now _)) (Ev.congr (fun k => if_neg he) hknown1)
theorem pureSunOnly {A : Option Addr} {n c : Nat} {T : List (List Int)} {B : Option Addr} {m d : Nat} {l : List Int} {W : World} (g : Kd.C (Kd.slice 3 (Kd.int .i64)) W A n T) (hf : ∀ l ∈ T, ∀ x ∈ l, (Lit.int .i64 x).wf = true) (hn : n ≤ c)
    (g2 : Kd.C (Kd.int .i64) W B m l) (hf2 : ∀ x ∈ l, (Lit.int .i64 x).wf = true) (hm : m ≤ d) :
    Calls Try.prog 28 #[.slice A n c, .slice B m d] W fun e w' => e = .returned (.bool true) ∧ Below W.heap.size W w' := by
  obtain rfl : T.length = n := g.1
  obtain rfl : l.length = m := g2.1
  obtain ⟨k, hk⟩ := (sunOnly_true T l g.2.1 g2.2.1).rounds
  exact QE.verditerlaw05_sunOnly.calls k A c T B d l true W g hn g2 hm hk
end Go.Proofs.Ytbnjffhcpkfnhaa.H
