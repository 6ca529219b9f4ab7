/-
  No cell of these rows narrows 'for every input' (looked for: loops, veiled, ifaces, maps, wideKeys, modest, calm, conditions, laid).
  DERIVED. THE GIVEN ROWS OF THIS SEAT. 14 by the template 'for every input the law returns true; each argument reads behind the call as it read before'; 0 by the template 'total and deterministic' (their statements: YtpmjmhdofjbcbaaTotals.lean).
  GIVEN WITH THE SEED: the statements are not yours to turn. If you find one false, say at which input.
  Laid BY PROGRAM, IN A SANDBOX (cutbox-rows.mjs): the forced cells as the released guide's own fill.sh prints them over the translation 0c0d3a2897415914… (all of the seat's roots in one cut). By AI agents, Wed Nov 11 2026. No macro, syntax, notation, axiom, sorry.
-/
import Derived.Test.YtpmjmhdofjbcbaaChecked
import GoSem.Claim
import GoSem.ClaimJoined
import GoSem.ClaimMapViews
import Derived.JoinedTies
import Derived.KernelRfl
namespace Go.Proofs.Ytpmjmhdofjbcbaa
/- THE CELL 'sum', in the pinned program and in every row, IS THE sha256 OF THE DUMP (.gsa) THAT YtpmjmhdofjbcbaaProg.lean LOADS. Nothing in Lean hashes anything: it is a label: what it is worth is what the hold of that sum in a sandbox is worth. -/
noncomputable def Try.pinned : Pinned := { name := "ytpmjmhdofjbcbaa", sum := "0c0d3a2897415914e65e60704b17ad3a443584511e1065e154d8515f968191b1", checked := Try.checked }
namespace Rows
def none {H : Type} : Left H := { results := [], args := [] }

/-- 'verditerlaw03.FeudTerms': WHATEVER THE INPUT: true; the input reads as it did. -/
def feudTermsSpec : ChangeSpec := { name := "feudTerms", fn := fun _ => fun
  | [d1, d2] => { results := [.lit (.bool true)], args := [d1, d2] }
  | _ => none }
def feudTermsRow : OpenClaim := { program := "ytpmjmhdofjbcbaa", sum := "0c0d3a2897415914e65e60704b17ad3a443584511e1065e154d8515f968191b1", func := "verditer/verditerlaw03.FeudTerms", spec := "feudTerms", unfollowed := true, recurses := true, plainKeys := false, apart := false }
def FeudTermsSaid : Prop := feudTermsRow.holds Try.pinned (OpenSpec.ofChange feudTermsSpec)

/-- ITS FALSE NEIGHBOUR: 'it returns false'. Refute it at one input. -/
def feudTermsWrong : ChangeSpec := { name := "feudTerms", fn := fun _ => fun
  | [d1, d2] => { results := [.lit (.bool false)], args := [d1, d2] }
  | _ => none }
def FeudTermsWrongFalsely : Prop := feudTermsRow.holds Try.pinned (OpenSpec.ofChange feudTermsWrong)

/-- 'verditerlaw03.FeudOrders': WHATEVER THE INPUT: true; the input reads as it did. -/
def feudOrdersSpec : ChangeSpec := { name := "feudOrders", fn := fun _ => fun
  | [d] => { results := [.lit (.bool true)], args := [d] }
  | _ => none }
def feudOrdersRow : OpenClaim := { program := "ytpmjmhdofjbcbaa", sum := "0c0d3a2897415914e65e60704b17ad3a443584511e1065e154d8515f968191b1", func := "verditer/verditerlaw03.FeudOrders", spec := "feudOrders", unfollowed := true, recurses := true, plainKeys := false, apart := false }
def FeudOrdersSaid : Prop := feudOrdersRow.holds Try.pinned (OpenSpec.ofChange feudOrdersSpec)

/-- ITS FALSE NEIGHBOUR: 'it returns false'. Refute it at one input. -/
def feudOrdersWrong : ChangeSpec := { name := "feudOrders", fn := fun _ => fun
  | [d] => { results := [.lit (.bool false)], args := [d] }
  | _ => none }
def FeudOrdersWrongFalsely : Prop := feudOrdersRow.holds Try.pinned (OpenSpec.ofChange feudOrdersWrong)

/-- 'verditerlaw03.FeudDrops': WHATEVER THE INPUT: true; the input reads as it did. -/
def feudDropsSpec : ChangeSpec := { name := "feudDrops", fn := fun _ => fun
  | [d1, d2] => { results := [.lit (.bool true)], args := [d1, d2] }
  | _ => none }
def feudDropsRow : OpenClaim := { program := "ytpmjmhdofjbcbaa", sum := "0c0d3a2897415914e65e60704b17ad3a443584511e1065e154d8515f968191b1", func := "verditer/verditerlaw03.FeudDrops", spec := "feudDrops", unfollowed := true, recurses := true, plainKeys := false, apart := false }
def FeudDropsSaid : Prop := feudDropsRow.holds Try.pinned (OpenSpec.ofChange feudDropsSpec)

/-- ITS FALSE NEIGHBOUR: 'it returns false'. Refute it at one input. -/
def feudDropsWrong : ChangeSpec := { name := "feudDrops", fn := fun _ => fun
  | [d1, d2] => { results := [.lit (.bool false)], args := [d1, d2] }
  | _ => none }
def FeudDropsWrongFalsely : Prop := feudDropsRow.holds Try.pinned (OpenSpec.ofChange feudDropsWrong)

/-- 'verditerlaw03.FeudLess': WHATEVER THE INPUT: true; the input reads as it did. -/
def feudLessSpec : ChangeSpec := { name := "feudLess", fn := fun _ => fun
  | [d1, d2, d3] => { results := [.lit (.bool true)], args := [d1, d2, d3] }
  | _ => none }
def feudLessRow : OpenClaim := { program := "ytpmjmhdofjbcbaa", sum := "0c0d3a2897415914e65e60704b17ad3a443584511e1065e154d8515f968191b1", func := "verditer/verditerlaw03.FeudLess", spec := "feudLess", unfollowed := true, recurses := true, plainKeys := false, apart := false }
def FeudLessSaid : Prop := feudLessRow.holds Try.pinned (OpenSpec.ofChange feudLessSpec)

/-- ITS FALSE NEIGHBOUR: 'it returns false'. Refute it at one input. -/
def feudLessWrong : ChangeSpec := { name := "feudLess", fn := fun _ => fun
  | [d1, d2, d3] => { results := [.lit (.bool false)], args := [d1, d2, d3] }
  | _ => none }
def FeudLessWrongFalsely : Prop := feudLessRow.holds Try.pinned (OpenSpec.ofChange feudLessWrong)

/-- 'verditerlaw03.FeudCounts': WHATEVER THE INPUT: true; the input reads as it did. -/
def feudCountsSpec : ChangeSpec := { name := "feudCounts", fn := fun _ => fun
  | [d1, d2] => { results := [.lit (.bool true)], args := [d1, d2] }
  | _ => none }
def feudCountsRow : OpenClaim := { program := "ytpmjmhdofjbcbaa", sum := "0c0d3a2897415914e65e60704b17ad3a443584511e1065e154d8515f968191b1", func := "verditer/verditerlaw03.FeudCounts", spec := "feudCounts", unfollowed := true, recurses := true, plainKeys := false, apart := false }
def FeudCountsSaid : Prop := feudCountsRow.holds Try.pinned (OpenSpec.ofChange feudCountsSpec)

/-- ITS FALSE NEIGHBOUR: 'it returns false'. Refute it at one input. -/
def feudCountsWrong : ChangeSpec := { name := "feudCounts", fn := fun _ => fun
  | [d1, d2] => { results := [.lit (.bool false)], args := [d1, d2] }
  | _ => none }
def FeudCountsWrongFalsely : Prop := feudCountsRow.holds Try.pinned (OpenSpec.ofChange feudCountsWrong)

/-- 'verditerlaw03.FeudShelves': WHATEVER THE INPUT: true; the input reads as it did. -/
def feudShelvesSpec : ChangeSpec := { name := "feudShelves", fn := fun _ => fun
  | [d1, d2, d3] => { results := [.lit (.bool true)], args := [d1, d2, d3] }
  | _ => none }
def feudShelvesRow : OpenClaim := { program := "ytpmjmhdofjbcbaa", sum := "0c0d3a2897415914e65e60704b17ad3a443584511e1065e154d8515f968191b1", func := "verditer/verditerlaw03.FeudShelves", spec := "feudShelves", unfollowed := true, recurses := true, plainKeys := false, apart := false }
def FeudShelvesSaid : Prop := feudShelvesRow.holds Try.pinned (OpenSpec.ofChange feudShelvesSpec)

/-- ITS FALSE NEIGHBOUR: 'it returns false'. Refute it at one input. -/
def feudShelvesWrong : ChangeSpec := { name := "feudShelves", fn := fun _ => fun
  | [d1, d2, d3] => { results := [.lit (.bool false)], args := [d1, d2, d3] }
  | _ => none }
def FeudShelvesWrongFalsely : Prop := feudShelvesRow.holds Try.pinned (OpenSpec.ofChange feudShelvesWrong)

/-- 'verditerlaw03.FeudSets': WHATEVER THE INPUT: true; the input reads as it did. -/
def feudSetsSpec : ChangeSpec := { name := "feudSets", fn := fun _ => fun
  | [d1, d2, d3] => { results := [.lit (.bool true)], args := [d1, d2, d3] }
  | _ => none }
def feudSetsRow : OpenClaim := { program := "ytpmjmhdofjbcbaa", sum := "0c0d3a2897415914e65e60704b17ad3a443584511e1065e154d8515f968191b1", func := "verditer/verditerlaw03.FeudSets", spec := "feudSets", unfollowed := true, recurses := true, plainKeys := false, apart := false }
def FeudSetsSaid : Prop := feudSetsRow.holds Try.pinned (OpenSpec.ofChange feudSetsSpec)

/-- ITS FALSE NEIGHBOUR: 'it returns false'. Refute it at one input. -/
def feudSetsWrong : ChangeSpec := { name := "feudSets", fn := fun _ => fun
  | [d1, d2, d3] => { results := [.lit (.bool false)], args := [d1, d2, d3] }
  | _ => none }
def FeudSetsWrongFalsely : Prop := feudSetsRow.holds Try.pinned (OpenSpec.ofChange feudSetsWrong)

/-- 'verditerlaw03.FeudGreatest': WHATEVER THE INPUT: true; the input reads as it did. -/
def feudGreatestSpec : ChangeSpec := { name := "feudGreatest", fn := fun _ => fun
  | [d] => { results := [.lit (.bool true)], args := [d] }
  | _ => none }
def feudGreatestRow : OpenClaim := { program := "ytpmjmhdofjbcbaa", sum := "0c0d3a2897415914e65e60704b17ad3a443584511e1065e154d8515f968191b1", func := "verditer/verditerlaw03.FeudGreatest", spec := "feudGreatest", unfollowed := true, recurses := true, plainKeys := false, apart := false }
def FeudGreatestSaid : Prop := feudGreatestRow.holds Try.pinned (OpenSpec.ofChange feudGreatestSpec)

/-- ITS FALSE NEIGHBOUR: 'it returns false'. Refute it at one input. -/
def feudGreatestWrong : ChangeSpec := { name := "feudGreatest", fn := fun _ => fun
  | [d] => { results := [.lit (.bool false)], args := [d] }
  | _ => none }
def FeudGreatestWrongFalsely : Prop := feudGreatestRow.holds Try.pinned (OpenSpec.ofChange feudGreatestWrong)

/-- 'verditerlaw03.FeudOpposites': WHATEVER THE INPUT: true; the input reads as it did. -/
def feudOppositesSpec : ChangeSpec := { name := "feudOpposites", fn := fun _ => fun
  | [d] => { results := [.lit (.bool true)], args := [d] }
  | _ => none }
def feudOppositesRow : OpenClaim := { program := "ytpmjmhdofjbcbaa", sum := "0c0d3a2897415914e65e60704b17ad3a443584511e1065e154d8515f968191b1", func := "verditer/verditerlaw03.FeudOpposites", spec := "feudOpposites", unfollowed := true, recurses := true, plainKeys := false, apart := false }
def FeudOppositesSaid : Prop := feudOppositesRow.holds Try.pinned (OpenSpec.ofChange feudOppositesSpec)

/-- ITS FALSE NEIGHBOUR: 'it returns false'. Refute it at one input. -/
def feudOppositesWrong : ChangeSpec := { name := "feudOpposites", fn := fun _ => fun
  | [d] => { results := [.lit (.bool false)], args := [d] }
  | _ => none }
def FeudOppositesWrongFalsely : Prop := feudOppositesRow.holds Try.pinned (OpenSpec.ofChange feudOppositesWrong)

/-- 'verditerlaw03.FeudFewest': WHATEVER THE INPUT: true; the input reads as it did. -/
def feudFewestSpec : ChangeSpec := { name := "feudFewest", fn := fun _ => fun
  | [d] => { results := [.lit (.bool true)], args := [d] }
  | _ => none }
def feudFewestRow : OpenClaim := { program := "ytpmjmhdofjbcbaa", sum := "0c0d3a2897415914e65e60704b17ad3a443584511e1065e154d8515f968191b1", func := "verditer/verditerlaw03.FeudFewest", spec := "feudFewest", unfollowed := true, recurses := true, plainKeys := false, apart := false }
def FeudFewestSaid : Prop := feudFewestRow.holds Try.pinned (OpenSpec.ofChange feudFewestSpec)

/-- ITS FALSE NEIGHBOUR: 'it returns false'. Refute it at one input. -/
def feudFewestWrong : ChangeSpec := { name := "feudFewest", fn := fun _ => fun
  | [d] => { results := [.lit (.bool false)], args := [d] }
  | _ => none }
def FeudFewestWrongFalsely : Prop := feudFewestRow.holds Try.pinned (OpenSpec.ofChange feudFewestWrong)

/-- 'verditerlaw03.FeudGroups': WHATEVER THE INPUT: true; the input reads as it did. -/
def feudGroupsSpec : ChangeSpec := { name := "feudGroups", fn := fun _ => fun
  | [d] => { results := [.lit (.bool true)], args := [d] }
  | _ => none }
def feudGroupsRow : OpenClaim := { program := "ytpmjmhdofjbcbaa", sum := "0c0d3a2897415914e65e60704b17ad3a443584511e1065e154d8515f968191b1", func := "verditer/verditerlaw03.FeudGroups", spec := "feudGroups", unfollowed := true, recurses := true, plainKeys := false, apart := false }
def FeudGroupsSaid : Prop := feudGroupsRow.holds Try.pinned (OpenSpec.ofChange feudGroupsSpec)

/-- ITS FALSE NEIGHBOUR: 'it returns false'. Refute it at one input. -/
def feudGroupsWrong : ChangeSpec := { name := "feudGroups", fn := fun _ => fun
  | [d] => { results := [.lit (.bool false)], args := [d] }
  | _ => none }
def FeudGroupsWrongFalsely : Prop := feudGroupsRow.holds Try.pinned (OpenSpec.ofChange feudGroupsWrong)

/-- 'verditerlaw03.FeudRounds': WHATEVER THE INPUT: true; the input reads as it did. -/
def feudRoundsSpec : ChangeSpec := { name := "feudRounds", fn := fun _ => fun
  | [d1, d2] => { results := [.lit (.bool true)], args := [d1, d2] }
  | _ => none }
def feudRoundsRow : OpenClaim := { program := "ytpmjmhdofjbcbaa", sum := "0c0d3a2897415914e65e60704b17ad3a443584511e1065e154d8515f968191b1", func := "verditer/verditerlaw03.FeudRounds", spec := "feudRounds", unfollowed := true, recurses := true, plainKeys := false, apart := false }
def FeudRoundsSaid : Prop := feudRoundsRow.holds Try.pinned (OpenSpec.ofChange feudRoundsSpec)

/-- ITS FALSE NEIGHBOUR: 'it returns false'. Refute it at one input. -/
def feudRoundsWrong : ChangeSpec := { name := "feudRounds", fn := fun _ => fun
  | [d1, d2] => { results := [.lit (.bool false)], args := [d1, d2] }
  | _ => none }
def FeudRoundsWrongFalsely : Prop := feudRoundsRow.holds Try.pinned (OpenSpec.ofChange feudRoundsWrong)

/-- 'verditerlaw03.FeudLines': WHATEVER THE INPUT: true; the input reads as it did. -/
def feudLinesSpec : ChangeSpec := { name := "feudLines", fn := fun _ => fun
  | [d1, d2] => { results := [.lit (.bool true)], args := [d1, d2] }
  | _ => none }
def feudLinesRow : OpenClaim := { program := "ytpmjmhdofjbcbaa", sum := "0c0d3a2897415914e65e60704b17ad3a443584511e1065e154d8515f968191b1", func := "verditer/verditerlaw03.FeudLines", spec := "feudLines", unfollowed := true, recurses := true, plainKeys := false, apart := false }
def FeudLinesSaid : Prop := feudLinesRow.holds Try.pinned (OpenSpec.ofChange feudLinesSpec)

/-- ITS FALSE NEIGHBOUR: 'it returns false'. Refute it at one input. -/
def feudLinesWrong : ChangeSpec := { name := "feudLines", fn := fun _ => fun
  | [d1, d2] => { results := [.lit (.bool false)], args := [d1, d2] }
  | _ => none }
def FeudLinesWrongFalsely : Prop := feudLinesRow.holds Try.pinned (OpenSpec.ofChange feudLinesWrong)

/-- 'verditertop.TopFeuds': WHATEVER THE INPUT: true; the input reads as it did. -/
def topFeudsSpec : ChangeSpec := { name := "topFeuds", fn := fun _ => fun
  | [d1, d2, d3] => { results := [.lit (.bool true)], args := [d1, d2, d3] }
  | _ => none }
def topFeudsRow : OpenClaim := { program := "ytpmjmhdofjbcbaa", sum := "0c0d3a2897415914e65e60704b17ad3a443584511e1065e154d8515f968191b1", func := "verditer/verditertop.TopFeuds", spec := "topFeuds", unfollowed := true, recurses := true, plainKeys := false, apart := false }
def TopFeudsSaid : Prop := topFeudsRow.holds Try.pinned (OpenSpec.ofChange topFeudsSpec)

/-- ITS FALSE NEIGHBOUR: 'it returns false'. Refute it at one input. -/
def topFeudsWrong : ChangeSpec := { name := "topFeuds", fn := fun _ => fun
  | [d1, d2, d3] => { results := [.lit (.bool false)], args := [d1, d2, d3] }
  | _ => none }
def TopFeudsWrongFalsely : Prop := topFeudsRow.holds Try.pinned (OpenSpec.ofChange topFeudsWrong)

/- THE SECOND FORM. 'bulk': how many values and letters a reading holds, each counted each time it is reached (what is shared counts as often as it is met; a slice's spare places count too). A statement '..UptoSaid' is the law's where the arguments, and the package variables that the reading takes, are together of bulk at most 1048576: NARROWER than '..Said'. Prove '..Said' where nothing that the law and all that it calls make is longer than what came in: it says more and counts as full. Else prove '..UptoSaid'. A law counts once. -/
mutual
def uptoBulk {H : Type} : DataW H → Nat
  | .lit (.string bytes) => bytes.length + 1
  | .lit _ => 1
  | .nil => 1
  | .ptr d => uptoBulk d + 1
  | .slice elems spare => uptoBulkAll elems + uptoBulkAll spare + 1
  | .agg parts => uptoBulkAll parts + 1
  | .iface _ d => uptoBulk d + 1
  | .map entries => uptoBulkEntries entries + 1
  | .held _ => 1
def uptoBulkAll {H : Type} : List (DataW H) → Nat
  | [] => 0
  | d :: r => uptoBulk d + uptoBulkAll r
def uptoBulkEntries {H : Type} : List (Lit × DataW H) → Nat
  | [] => 0
  | x :: r => uptoBulkEntry x + uptoBulkEntries r
def uptoBulkEntry {H : Type} : Lit × DataW H → Nat
  | (.string bytes, d) => bytes.length + uptoBulk d + 1
  | (_, d) => uptoBulk d + 1
 end
def uptoSmall : (H : Type) → List (DataW H) → Bool := fun _ ds => decide (uptoBulkAll ds ≤ 1048576)
def OpenSpec.upto (s : _root_.Go.ChangeSpec) : _root_.Go.OpenSpec := { _root_.Go.OpenSpec.ofChange s with cond := some uptoSmall }

/-- 'verditerlaw03.FeudTerms', WHERE WHAT IT READS IS OF BULK AT MOST 1048576: true; the input reads as it did. -/
def feudTermsUptoRow : OpenClaim := { program := "ytpmjmhdofjbcbaa", sum := "0c0d3a2897415914e65e60704b17ad3a443584511e1065e154d8515f968191b1", func := "verditer/verditerlaw03.FeudTerms", spec := "feudTerms", unfollowed := true, recurses := true, plainKeys := false, apart := false, narrowed := true }
def FeudTermsUptoSaid : Prop := feudTermsUptoRow.holds Try.pinned (OpenSpec.upto feudTermsSpec)

/-- 'verditerlaw03.FeudOrders', WHERE WHAT IT READS IS OF BULK AT MOST 1048576: true; the input reads as it did. -/
def feudOrdersUptoRow : OpenClaim := { program := "ytpmjmhdofjbcbaa", sum := "0c0d3a2897415914e65e60704b17ad3a443584511e1065e154d8515f968191b1", func := "verditer/verditerlaw03.FeudOrders", spec := "feudOrders", unfollowed := true, recurses := true, plainKeys := false, apart := false, narrowed := true }
def FeudOrdersUptoSaid : Prop := feudOrdersUptoRow.holds Try.pinned (OpenSpec.upto feudOrdersSpec)

/-- 'verditerlaw03.FeudDrops', WHERE WHAT IT READS IS OF BULK AT MOST 1048576: true; the input reads as it did. -/
def feudDropsUptoRow : OpenClaim := { program := "ytpmjmhdofjbcbaa", sum := "0c0d3a2897415914e65e60704b17ad3a443584511e1065e154d8515f968191b1", func := "verditer/verditerlaw03.FeudDrops", spec := "feudDrops", unfollowed := true, recurses := true, plainKeys := false, apart := false, narrowed := true }
def FeudDropsUptoSaid : Prop := feudDropsUptoRow.holds Try.pinned (OpenSpec.upto feudDropsSpec)

/-- 'verditerlaw03.FeudLess', WHERE WHAT IT READS IS OF BULK AT MOST 1048576: true; the input reads as it did. -/
def feudLessUptoRow : OpenClaim := { program := "ytpmjmhdofjbcbaa", sum := "0c0d3a2897415914e65e60704b17ad3a443584511e1065e154d8515f968191b1", func := "verditer/verditerlaw03.FeudLess", spec := "feudLess", unfollowed := true, recurses := true, plainKeys := false, apart := false, narrowed := true }
def FeudLessUptoSaid : Prop := feudLessUptoRow.holds Try.pinned (OpenSpec.upto feudLessSpec)

/-- 'verditerlaw03.FeudCounts', WHERE WHAT IT READS IS OF BULK AT MOST 1048576: true; the input reads as it did. -/
def feudCountsUptoRow : OpenClaim := { program := "ytpmjmhdofjbcbaa", sum := "0c0d3a2897415914e65e60704b17ad3a443584511e1065e154d8515f968191b1", func := "verditer/verditerlaw03.FeudCounts", spec := "feudCounts", unfollowed := true, recurses := true, plainKeys := false, apart := false, narrowed := true }
def FeudCountsUptoSaid : Prop := feudCountsUptoRow.holds Try.pinned (OpenSpec.upto feudCountsSpec)

/-- 'verditerlaw03.FeudShelves', WHERE WHAT IT READS IS OF BULK AT MOST 1048576: true; the input reads as it did. -/
def feudShelvesUptoRow : OpenClaim := { program := "ytpmjmhdofjbcbaa", sum := "0c0d3a2897415914e65e60704b17ad3a443584511e1065e154d8515f968191b1", func := "verditer/verditerlaw03.FeudShelves", spec := "feudShelves", unfollowed := true, recurses := true, plainKeys := false, apart := false, narrowed := true }
def FeudShelvesUptoSaid : Prop := feudShelvesUptoRow.holds Try.pinned (OpenSpec.upto feudShelvesSpec)

/-- 'verditerlaw03.FeudSets', WHERE WHAT IT READS IS OF BULK AT MOST 1048576: true; the input reads as it did. -/
def feudSetsUptoRow : OpenClaim := { program := "ytpmjmhdofjbcbaa", sum := "0c0d3a2897415914e65e60704b17ad3a443584511e1065e154d8515f968191b1", func := "verditer/verditerlaw03.FeudSets", spec := "feudSets", unfollowed := true, recurses := true, plainKeys := false, apart := false, narrowed := true }
def FeudSetsUptoSaid : Prop := feudSetsUptoRow.holds Try.pinned (OpenSpec.upto feudSetsSpec)

/-- 'verditerlaw03.FeudGreatest', WHERE WHAT IT READS IS OF BULK AT MOST 1048576: true; the input reads as it did. -/
def feudGreatestUptoRow : OpenClaim := { program := "ytpmjmhdofjbcbaa", sum := "0c0d3a2897415914e65e60704b17ad3a443584511e1065e154d8515f968191b1", func := "verditer/verditerlaw03.FeudGreatest", spec := "feudGreatest", unfollowed := true, recurses := true, plainKeys := false, apart := false, narrowed := true }
def FeudGreatestUptoSaid : Prop := feudGreatestUptoRow.holds Try.pinned (OpenSpec.upto feudGreatestSpec)

/-- 'verditerlaw03.FeudOpposites', WHERE WHAT IT READS IS OF BULK AT MOST 1048576: true; the input reads as it did. -/
def feudOppositesUptoRow : OpenClaim := { program := "ytpmjmhdofjbcbaa", sum := "0c0d3a2897415914e65e60704b17ad3a443584511e1065e154d8515f968191b1", func := "verditer/verditerlaw03.FeudOpposites", spec := "feudOpposites", unfollowed := true, recurses := true, plainKeys := false, apart := false, narrowed := true }
def FeudOppositesUptoSaid : Prop := feudOppositesUptoRow.holds Try.pinned (OpenSpec.upto feudOppositesSpec)

/-- 'verditerlaw03.FeudFewest', WHERE WHAT IT READS IS OF BULK AT MOST 1048576: true; the input reads as it did. -/
def feudFewestUptoRow : OpenClaim := { program := "ytpmjmhdofjbcbaa", sum := "0c0d3a2897415914e65e60704b17ad3a443584511e1065e154d8515f968191b1", func := "verditer/verditerlaw03.FeudFewest", spec := "feudFewest", unfollowed := true, recurses := true, plainKeys := false, apart := false, narrowed := true }
def FeudFewestUptoSaid : Prop := feudFewestUptoRow.holds Try.pinned (OpenSpec.upto feudFewestSpec)

/-- 'verditerlaw03.FeudGroups', WHERE WHAT IT READS IS OF BULK AT MOST 1048576: true; the input reads as it did. -/
def feudGroupsUptoRow : OpenClaim := { program := "ytpmjmhdofjbcbaa", sum := "0c0d3a2897415914e65e60704b17ad3a443584511e1065e154d8515f968191b1", func := "verditer/verditerlaw03.FeudGroups", spec := "feudGroups", unfollowed := true, recurses := true, plainKeys := false, apart := false, narrowed := true }
def FeudGroupsUptoSaid : Prop := feudGroupsUptoRow.holds Try.pinned (OpenSpec.upto feudGroupsSpec)

/-- 'verditerlaw03.FeudRounds', WHERE WHAT IT READS IS OF BULK AT MOST 1048576: true; the input reads as it did. -/
def feudRoundsUptoRow : OpenClaim := { program := "ytpmjmhdofjbcbaa", sum := "0c0d3a2897415914e65e60704b17ad3a443584511e1065e154d8515f968191b1", func := "verditer/verditerlaw03.FeudRounds", spec := "feudRounds", unfollowed := true, recurses := true, plainKeys := false, apart := false, narrowed := true }
def FeudRoundsUptoSaid : Prop := feudRoundsUptoRow.holds Try.pinned (OpenSpec.upto feudRoundsSpec)

/-- 'verditerlaw03.FeudLines', WHERE WHAT IT READS IS OF BULK AT MOST 1048576: true; the input reads as it did. -/
def feudLinesUptoRow : OpenClaim := { program := "ytpmjmhdofjbcbaa", sum := "0c0d3a2897415914e65e60704b17ad3a443584511e1065e154d8515f968191b1", func := "verditer/verditerlaw03.FeudLines", spec := "feudLines", unfollowed := true, recurses := true, plainKeys := false, apart := false, narrowed := true }
def FeudLinesUptoSaid : Prop := feudLinesUptoRow.holds Try.pinned (OpenSpec.upto feudLinesSpec)

/-- 'verditertop.TopFeuds', WHERE WHAT IT READS IS OF BULK AT MOST 1048576: true; the input reads as it did. -/
def topFeudsUptoRow : OpenClaim := { program := "ytpmjmhdofjbcbaa", sum := "0c0d3a2897415914e65e60704b17ad3a443584511e1065e154d8515f968191b1", func := "verditer/verditertop.TopFeuds", spec := "topFeuds", unfollowed := true, recurses := true, plainKeys := false, apart := false, narrowed := true }
def TopFeudsUptoSaid : Prop := topFeudsUptoRow.holds Try.pinned (OpenSpec.upto topFeudsSpec)

end Rows
end Go.Proofs.Ytpmjmhdofjbcbaa
