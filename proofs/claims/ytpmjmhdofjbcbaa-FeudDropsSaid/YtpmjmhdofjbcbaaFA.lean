/- feud.feuds: the feuds of a shop as a map; what is looked up in it. -/
import Derived.Test.YtpmjmhdofjbcbaaQA3
import Derived.Maps.OwnOps
import Derived.Maps.OwnSet
import Derived.Maps.Views
import Derived.DeepKeys4
namespace Go.Proofs.Ytpmjmhdofjbcbaa.H
open Go.RowKit Go.Maps Go.Proofs.Ytpmjmhdofjbcbaa.QA Go.Proofs.YtpmjmhdofjbcbaaW.PrintWords Go.Proofs.YtpmjmhdofjbcbaaW.PrintLast Go.Proofs.YtpmjmhdofjbcbaaW.PrintMore
set_option linter.unusedVariables false
set_option linter.unusedSimpArgs false
theorem infoH3 : (Try.prog.info? 3).map (fun i => (i.zero, i.size, i.bytes)) = some (some (.int .i64 0), 1, 8) := by kernel_rfl
theorem infoH30 : (Try.prog.info? 30).map (fun i => (i.zero, i.size, i.bytes)) = some (some (.slice none 0 0), 1, 24) := by kernel_rfl
theorem infoH22 : (Try.prog.info? 22).map (fun i => (i.zero, i.size, i.bytes)) = some (some (.slice none 0 0), 1, 24) := by kernel_rfl
theorem laidOut : laidOutB Try.prog = true := by kernel_rfl
theorem row43 : 43 < Try.prog.types.size := of_decide_eq_true (by kernel_rfl)
theorem law43 : WideMaps.KeyLaw Try.prog 43 := deep_law_laid laidOut (m := 2) (by omega) row43 (by kernel_rfl) (by rw [Try.underlying43])
theorem keyed43 : Keyed Try.prog 43 := Keyed.of_law law43
/-- Numbers of Go's int. -/
def WfF (f : S43) : Prop := (Lit.int .i64 f.f0).wf = true ∧ (Lit.int .i64 f.f1).wf = true
abbrev aggF (f : S43) : Value := .agg #[.int .i64 f.f0, .int .i64 f.f1]
def kl (f : S43) : Lit := .string (keyBytes [.int .i64 f.f0, .int .i64 f.f1])
theorem keyType43 : Try.prog.keyType 43 = true := by kernel_rfl
theorem typesTwo : ∃ m, Try.prog.types.size = m + 2 := ⟨Try.prog.types.size - 2, by kernel_rfl⟩
theorem cells43 : Try.prog.cellsOf 43 = 2 := by kernel_rfl
theorem cells3 : Try.prog.cellsOf 3 = 1 := by kernel_rfl
theorem key_feud {f : S43} (h : WfF f) : keyOf Try.prog 43 (aggF f) = some (kl f) := by
  obtain ⟨m, hm⟩ := typesTwo
  unfold keyOf kl
  rw [hm]
  simp [Try.underlying43, keyType43, Value.formed, Value.cells, Program.keyLits, cells43, cells3, Try.underlying3, h.1, h.2]
theorem isKey (f : S43) : WideAt.IsKeyLit (kl f) := trivial
theorem kl_inj {f g : S43} (hf : WfF f) (hg : WfF g) (h : kl f = kl g) : f = g := by
  have h1 := key_feud hf
  rw [h] at h1
  have h2 := keyed43.inj h1 (key_feud hg)
  cases f
  cases g
  simp at h2
  rw [h2.1, h2.2]
instance : DecidableEq S43 := fun f g => if h : f.f0 = g.f0 ∧ f.f1 = g.f1 then isTrue (by cases f; cases g; simp at h; rw [h.1, h.2]) else isFalse (fun e => h (by rw [e]; exact ⟨rfl, rfl⟩))
/-- The set of some feuds. -/
def setD (l : List S43) : DataW Unit := setOf (.lit (.bool true)) (l.map kl)
theorem setD_snoc (l : List S43) (f : S43) : setD (l ++ [f]) = (setD l).put (kl f) (.lit (.bool true)) := by
  unfold setD
  rw [List.map_append, List.map_cons, List.map_nil, setOf_snoc]
theorem atKey_fold {l : List S43} (hl : ∀ f ∈ l, WfF f) {g : S43} (hg : WfF g) : ∀ (D : DataW Unit), IsMap D → ((l.map kl).foldl (fun m x => m.put x (.lit (.bool true))) D).atKey (kl g) (.lit (.bool false)) = if g ∈ l then .lit (.bool true) else D.atKey (kl g) (.lit (.bool false)) := by
  induction l with
  | nil => intro D hD; simp
  | cons f l ih =>
    intro D hD
    rw [List.map_cons, List.foldl_cons, ih (fun x hx => hl x (by simp [hx])) _ (hD.put _ _)]
    by_cases e : g = f
    · subst e
      rw [atKey_put_same hD (isKey g), if_pos (List.mem_cons_self)]
      split <;> rfl
    · rw [atKey_put_other (fun x => e (kl_inj hg (hl f (by simp)) x))]
      by_cases e2 : g ∈ l
      · rw [if_pos e2, if_pos (List.mem_cons_of_mem _ e2)]
      · rw [if_neg e2, if_neg (fun x => by rcases List.mem_cons.1 x with y | y <;> contradiction)]
theorem atKey_set {l : List S43} (hl : ∀ f ∈ l, WfF f) {g : S43} (hg : WfF g) : (setD l).atKey (kl g) (.lit (.bool false)) = .lit (.bool (decide (g ∈ l))) := by
  unfold setD setOf
  rw [atKey_fold hl hg _ isMap_empty]
  by_cases e : g ∈ l
  · rw [if_pos e, decide_eq_true e]
  · rw [if_neg e, decide_eq_false e]; rfl
/-- Each feud once, in order. -/
def uniq : List S43 → List S43 → List S43
  | acc, [] => acc
  | acc, f :: l => uniq (if f ∈ acc then acc else acc ++ [f]) l
theorem addKey_uniq {acc : List S43} (ha : ∀ f ∈ acc, WfF f) : ∀ {l : List S43}, (∀ f ∈ l, WfF f) → (l.map kl).foldl addKey (acc.map kl) = (uniq acc l).map kl := by
  intro l
  induction l generalizing acc with
  | nil => intro _; rfl
  | cons f l ih =>
    intro hl
    rw [List.map_cons, List.foldl_cons]
    have hf := hl f (by simp)
    have e : addKey (acc.map kl) (kl f) = (if f ∈ acc then acc else acc ++ [f]).map kl := by
      unfold addKey
      by_cases h : f ∈ acc
      · rw [if_pos h, if_pos]
        rw [List.any_eq_true]
        exact ⟨kl f, List.mem_map.2 ⟨f, h, rfl⟩, WideAt.sameKey_self (isKey f)⟩
      · rw [if_neg h, if_neg]
        · rw [List.map_append]; rfl
        · intro h2
          obtain ⟨x, hx, hs⟩ := List.any_eq_true.1 h2
          obtain ⟨g, hg, rfl⟩ := List.mem_map.1 hx
          exact h ((kl_inj (ha g hg) hf (WideAt.sameKey_eq hs)) ▸ hg)
    rw [e]
    show _ = (uniq (if f ∈ acc then acc else acc ++ [f]) l).map kl
    refine ih (fun x hx => ?_) (fun x hx => hl x (by simp [hx]))
    split at hx
    · exact ha x hx
    · rcases List.mem_append.1 hx with y | y
      · exact ha x y
      · rw [List.mem_singleton.1 y]; exact hf
theorem uniq_len : ∀ (l acc : List S43), (uniq acc l).length ≤ acc.length + l.length ∧ ((uniq acc l).length = acc.length + l.length ↔ l.Nodup ∧ ∀ f ∈ l, f ∉ acc)
  | [], acc => ⟨Nat.le_refl _, by simp [uniq]⟩
  | f :: l, acc => by
    show (uniq (if f ∈ acc then acc else acc ++ [f]) l).length ≤ _ ∧ ((uniq (if f ∈ acc then acc else acc ++ [f]) l).length = _ ↔ _)
    by_cases h : f ∈ acc
    · rw [if_pos h]
      obtain ⟨h1, _⟩ := uniq_len l acc
      rw [List.length_cons]
      exact ⟨by omega, fun e => by omega, fun e => absurd h (e.2 f (by simp))⟩
    · rw [if_neg h]
      obtain ⟨h1, h2⟩ := uniq_len l (acc ++ [f])
      rw [List.length_append, List.length_singleton] at h1 h2
      rw [List.length_cons]
      refine ⟨by omega, fun e => ?_, fun e => ?_⟩
      · obtain ⟨a, b⟩ := h2.1 (by omega)
        refine ⟨List.nodup_cons.2 ⟨fun z => b f z (by simp), a⟩, fun g hg => ?_⟩
        rcases List.mem_cons.1 hg with z | z
        · rw [z]; exact h
        · exact fun y => b g z (by simp [y])
      · have hn := List.nodup_cons.1 e.1
        have := h2.2 ⟨hn.2, fun g hg y => by
          rcases List.mem_append.1 y with z | z
          · exact e.2 g (by simp [hg]) z
          · rw [List.mem_singleton.1 z] at hg; exact hn.1 hg⟩
        omega
theorem size_set {l : List S43} (hl : ∀ f ∈ l, WfF f) : size (setD l) ≤ l.length ∧ (size (setD l) = l.length ↔ l.Nodup) := by
  have e : size (setD l) = (uniq [] l).length := by
    unfold setD
    rw [size_setOf _ _ (fun x hx => by obtain ⟨f, _, rfl⟩ := List.mem_map.1 hx; exact isKey f)]
    have := addKey_uniq (acc := []) (fun _ h => by cases h) hl
    rw [List.map_nil] at this
    rw [this, List.length_map]
  obtain ⟨h1, h2⟩ := uniq_len l []
  rw [e]
  simp only [List.length_nil, Nat.zero_add] at h1 h2
  exact ⟨h1, h2.trans ⟨fun h => h.1, fun h => ⟨h, fun _ _ => by simp⟩⟩⟩
theorem zero4 (w : World) : (zeroValue 4).run Try.prog w = .ok (.bool false) w := by kernel_rfl
set_option maxRecDepth 100000 in
theorem bool_inv {v : Value} {z : DataW Unit × List MemPlace} (h : plainElem Try.prog 4 v = some z) : ∃ a, v = .bool a ∧ z = (.lit (.bool a), []) := by
  unfold plainElem at h
  rw [Try.underlying4] at h
  cases v <;> simp at h
  subst h
  exact ⟨_, rfl, rfl⟩
/-- What stands in the map at a feud. -/
theorem look_set {w : World} {b n : Nat} {l : List S43} (h : w.ownsMap Try.prog 43 (plainElem Try.prog 4) b n (setD l)) (hl : ∀ f ∈ l, WfF f) {g : S43} (hg : WfF g) : (Instr.lookup 83 (.map (some b)) (aggF g) false).run Try.prog w = .ok (.bool (decide (g ∈ l))) w := by
  obtain ⟨v, ps, hrun, hv⟩ := h.lookup keyed43 Try.underlying83 (zero4 w) (plainElem_bool Try.underlying4 false) (key_feud hg)
  obtain ⟨c, rfl, hc⟩ := bool_inv hv
  rw [atKey_set hl hg] at hc
  simp at hc
  rw [hrun, hc.1]
end Go.Proofs.Ytpmjmhdofjbcbaa.H
