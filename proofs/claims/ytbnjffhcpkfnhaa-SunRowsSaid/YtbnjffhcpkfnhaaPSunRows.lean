/- The plain law of SunRows: both check alike, and the row that is made is one. -/
import Derived.Test.YtbnjffhcpkfnhaaHCk
namespace Go.Proofs.Ytbnjffhcpkfnhaa.H
open Classical Go.RowKit Go.Proofs.YtbnjffhcpkfnhaaW.PrintWords Go.Proofs.YtbnjffhcpkfnhaaW.PrintLast Go.Proofs.YtbnjffhcpkfnhaaW.PrintMore
set_option linter.unusedVariables false
set_option linter.unusedSimpArgs false
theorem sunRows_true (t : List (List Int)) (l : List Int) (ht : t.length ≤ 9223372036854775807) (hl : l.length ≤ 9223372036854775807) : Ev (fun k => QE.verditerlaw05_sunRows.f k t l) true := by
  obtain ⟨b, hb, hs⟩ := Ev_Long t ht
  unfold QE.verditerlaw05_sunRows.f
  refine Ev.bind hb ?_
  have hknown : Ev (fun k => QE.verditerlaw05_sunRows.j0 k t l true) true := Ev.step (fun k => by simp only [QE.verditerlaw05_sunRows.j0]; rw [if_pos trivial]; rfl) (Ev.now _)
  cases b with
  | true => exact Ev.congr (fun k => if_pos rfl) hknown
  | false =>
    refine Ev.congr (f := fun k => QE.verditerlaw05_sunRows.j0 k t l (decide ((l.length : Int) > 40))) (fun k => by rw [if_neg (by simp)]; rfl) ?_
    by_cases hm : (l.length : Int) > 40
    · rw [decide_eq_true hm]; exact hknown
    rw [decide_eq_false hm]
    by_cases he : errV t = 0
    · refine Ev.step (f := fun k => (QE.sun_CheckRow.f k t l).bind fun t115 => (QE.verditerref05_CheckRow.f k t l).bind fun t116 => if t115 = t116 then ((QE.verditerref05_CheckRow.f k t (rowL t)).bind fun t122 => if t122 = 0 then some true else some false) else some false) (fun k => ?_) ?_
      · simp only [QE.verditerlaw05_sunRows.j0]
        rw [if_neg (by simp), show sun_Row.f t = some (rowL t, 0) by unfold sun_Row.f; rw [if_pos he], Option.bind_some, show verditerref05_Validate.f t = some (errV t) from rfl, Option.bind_some, he, if_pos rfl, if_pos rfl]
        rfl
      refine Ev.bind (Ev_sunCheck t l) (Ev.bind (Ev_refCheck t l) (Ev.congr (fun k => if_pos rfl) (Ev.bind (Ev_refCheck t (rowL t)) ?_)))
      exact Ev.congr (fun k => if_pos (checkV_row he)) (Ev.now _)
    · refine Ev.step (f := fun k => (QE.sun_CheckRow.f k t l).bind fun t115 => (QE.verditerref05_CheckRow.f k t l).bind fun t116 => if t115 = t116 then some true else some false) (fun k => ?_) ?_
      · simp only [QE.verditerlaw05_sunRows.j0]
        rw [if_neg (by simp), show sun_Row.f t = some ([], errV t) by unfold sun_Row.f; rw [if_neg he], Option.bind_some, show verditerref05_Validate.f t = some (errV t) from rfl, Option.bind_some, if_pos rfl, if_neg he, if_pos (by rfl)]
        rfl
      exact Ev.bind (Ev_sunCheck t l) (Ev.bind (Ev_refCheck t l) (Ev.congr (fun k => if_pos rfl) (Ev.now _)))
theorem pureSunRows {A : Option Addr} {n c : Nat} {T : List (List Int)} {B : Option Addr} {m d : Nat} {l : List Int} {W : World} (g : Kd.C (Kd.slice 3 (Kd.int .i64)) W A n T) (hf : ∀ l ∈ T, ∀ x ∈ l, (Lit.int .i64 x).wf = true) (hn : n ≤ c)
    (g2 : Kd.C (Kd.int .i64) W B m l) (hf2 : ∀ x ∈ l, (Lit.int .i64 x).wf = true) (hm : m ≤ d) :
    Calls Try.prog 27 #[.slice A n c, .slice B m d] W fun e w' => e = .returned (.bool true) ∧ Below W.heap.size W w' := by
  obtain rfl : T.length = n := g.1
  obtain rfl : l.length = m := g2.1
  obtain ⟨k, hk⟩ := (sunRows_true T l g.2.1 g2.2.1).rounds
  exact QE.verditerlaw05_sunRows.calls k A c T B d l true W g hn g2 hm hk
end Go.Proofs.Ytbnjffhcpkfnhaa.H
