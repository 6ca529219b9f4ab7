/-
  No cell of these rows narrows 'for every input' (looked for: loops, veiled, ifaces, maps, wideKeys, modest, calm, conditions, laid).
  DERIVED. THE GIVEN ROWS OF THIS SEAT. 13 by the template 'for every input the law returns true; each argument reads behind the call as it read before'; 0 by the template 'total and deterministic' (their statements: YtbnjffhcpkfnhaaTotals.lean).
  GIVEN WITH THE SEED: the statements are not yours to turn. If you find one false, say at which input.
  Laid BY PROGRAM, IN A SANDBOX (cutbox-rows.mjs): the forced cells as the released guide's own fill.sh prints them over the translation d7faf6da916d99db… (all of the seat's roots in one cut). By AI agents, Wed Nov 11 2026. No macro, syntax, notation, axiom, sorry.
-/
import Derived.Test.YtbnjffhcpkfnhaaChecked
import GoSem.Claim
import GoSem.ClaimJoined
import GoSem.ClaimMapViews
import Derived.JoinedTies
import Derived.KernelRfl
namespace Go.Proofs.Ytbnjffhcpkfnhaa
/- THE CELL 'sum', in the pinned program and in every row, IS THE sha256 OF THE DUMP (.gsa) THAT YtbnjffhcpkfnhaaProg.lean LOADS. Nothing in Lean hashes anything: it is a label: what it is worth is what the hold of that sum in a sandbox is worth. -/
noncomputable def Try.pinned : Pinned := { name := "ytbnjffhcpkfnhaa", sum := "d7faf6da916d99db3c9233c2eee39a43fef2f9325b517ecc071ed69c39330bb7", checked := Try.checked }
namespace Rows
def none {H : Type} : Left H := { results := [], args := [] }

/-- 'verditerlaw05.SunWins': WHATEVER THE INPUT: true; the input reads as it did. -/
def sunWinsSpec : ChangeSpec := { name := "sunWins", fn := fun _ => fun
  | [d] => { results := [.lit (.bool true)], args := [d] }
  | _ => none }
def sunWinsRow : OpenClaim := { program := "ytbnjffhcpkfnhaa", sum := "d7faf6da916d99db3c9233c2eee39a43fef2f9325b517ecc071ed69c39330bb7", func := "verditer/verditerlaw05.SunWins", spec := "sunWins", unfollowed := true, recurses := true, apart := false }
def SunWinsSaid : Prop := sunWinsRow.holds Try.pinned (OpenSpec.ofChange sunWinsSpec)

/-- ITS FALSE NEIGHBOUR: 'it returns false'. Refute it at one input. -/
def sunWinsWrong : ChangeSpec := { name := "sunWins", fn := fun _ => fun
  | [d] => { results := [.lit (.bool false)], args := [d] }
  | _ => none }
def SunWinsWrongFalsely : Prop := sunWinsRow.holds Try.pinned (OpenSpec.ofChange sunWinsWrong)

/-- 'verditerlaw05.SunKings': WHATEVER THE INPUT: true; the input reads as it did. -/
def sunKingsSpec : ChangeSpec := { name := "sunKings", fn := fun _ => fun
  | [d] => { results := [.lit (.bool true)], args := [d] }
  | _ => none }
def sunKingsRow : OpenClaim := { program := "ytbnjffhcpkfnhaa", sum := "d7faf6da916d99db3c9233c2eee39a43fef2f9325b517ecc071ed69c39330bb7", func := "verditer/verditerlaw05.SunKings", spec := "sunKings", unfollowed := true, recurses := true, apart := false }
def SunKingsSaid : Prop := sunKingsRow.holds Try.pinned (OpenSpec.ofChange sunKingsSpec)

/-- ITS FALSE NEIGHBOUR: 'it returns false'. Refute it at one input. -/
def sunKingsWrong : ChangeSpec := { name := "sunKings", fn := fun _ => fun
  | [d] => { results := [.lit (.bool false)], args := [d] }
  | _ => none }
def SunKingsWrongFalsely : Prop := sunKingsRow.holds Try.pinned (OpenSpec.ofChange sunKingsWrong)

/-- 'verditerlaw05.SunBacks': WHATEVER THE INPUT: true; the input reads as it did. -/
def sunBacksSpec : ChangeSpec := { name := "sunBacks", fn := fun _ => fun
  | [d] => { results := [.lit (.bool true)], args := [d] }
  | _ => none }
def sunBacksRow : OpenClaim := { program := "ytbnjffhcpkfnhaa", sum := "d7faf6da916d99db3c9233c2eee39a43fef2f9325b517ecc071ed69c39330bb7", func := "verditer/verditerlaw05.SunBacks", spec := "sunBacks", unfollowed := true, recurses := true, apart := false }
def SunBacksSaid : Prop := sunBacksRow.holds Try.pinned (OpenSpec.ofChange sunBacksSpec)

/-- ITS FALSE NEIGHBOUR: 'it returns false'. Refute it at one input. -/
def sunBacksWrong : ChangeSpec := { name := "sunBacks", fn := fun _ => fun
  | [d] => { results := [.lit (.bool false)], args := [d] }
  | _ => none }
def SunBacksWrongFalsely : Prop := sunBacksRow.holds Try.pinned (OpenSpec.ofChange sunBacksWrong)

/-- 'verditerlaw05.SunSwitches': WHATEVER THE INPUT: true; the input reads as it did. -/
def sunSwitchesSpec : ChangeSpec := { name := "sunSwitches", fn := fun _ => fun
  | [d1, d2, d3] => { results := [.lit (.bool true)], args := [d1, d2, d3] }
  | _ => none }
def sunSwitchesRow : OpenClaim := { program := "ytbnjffhcpkfnhaa", sum := "d7faf6da916d99db3c9233c2eee39a43fef2f9325b517ecc071ed69c39330bb7", func := "verditer/verditerlaw05.SunSwitches", spec := "sunSwitches", unfollowed := true, recurses := true, apart := false }
def SunSwitchesSaid : Prop := sunSwitchesRow.holds Try.pinned (OpenSpec.ofChange sunSwitchesSpec)

/-- ITS FALSE NEIGHBOUR: 'it returns false'. Refute it at one input. -/
def sunSwitchesWrong : ChangeSpec := { name := "sunSwitches", fn := fun _ => fun
  | [d1, d2, d3] => { results := [.lit (.bool false)], args := [d1, d2, d3] }
  | _ => none }
def SunSwitchesWrongFalsely : Prop := sunSwitchesRow.holds Try.pinned (OpenSpec.ofChange sunSwitchesWrong)

/-- 'verditerlaw05.SunUpsets': WHATEVER THE INPUT: true; the input reads as it did. -/
def sunUpsetsSpec : ChangeSpec := { name := "sunUpsets", fn := fun _ => fun
  | [d1, d2] => { results := [.lit (.bool true)], args := [d1, d2] }
  | _ => none }
def sunUpsetsRow : OpenClaim := { program := "ytbnjffhcpkfnhaa", sum := "d7faf6da916d99db3c9233c2eee39a43fef2f9325b517ecc071ed69c39330bb7", func := "verditer/verditerlaw05.SunUpsets", spec := "sunUpsets", unfollowed := true, recurses := true, apart := false }
def SunUpsetsSaid : Prop := sunUpsetsRow.holds Try.pinned (OpenSpec.ofChange sunUpsetsSpec)

/-- ITS FALSE NEIGHBOUR: 'it returns false'. Refute it at one input. -/
def sunUpsetsWrong : ChangeSpec := { name := "sunUpsets", fn := fun _ => fun
  | [d1, d2] => { results := [.lit (.bool false)], args := [d1, d2] }
  | _ => none }
def SunUpsetsWrongFalsely : Prop := sunUpsetsRow.holds Try.pinned (OpenSpec.ofChange sunUpsetsWrong)

/-- 'verditerlaw05.SunRankings': WHATEVER THE INPUT: true; the input reads as it did. -/
def sunRankingsSpec : ChangeSpec := { name := "sunRankings", fn := fun _ => fun
  | [d] => { results := [.lit (.bool true)], args := [d] }
  | _ => none }
def sunRankingsRow : OpenClaim := { program := "ytbnjffhcpkfnhaa", sum := "d7faf6da916d99db3c9233c2eee39a43fef2f9325b517ecc071ed69c39330bb7", func := "verditer/verditerlaw05.SunRankings", spec := "sunRankings", unfollowed := true, recurses := true, apart := false }
def SunRankingsSaid : Prop := sunRankingsRow.holds Try.pinned (OpenSpec.ofChange sunRankingsSpec)

/-- ITS FALSE NEIGHBOUR: 'it returns false'. Refute it at one input. -/
def sunRankingsWrong : ChangeSpec := { name := "sunRankings", fn := fun _ => fun
  | [d] => { results := [.lit (.bool false)], args := [d] }
  | _ => none }
def SunRankingsWrongFalsely : Prop := sunRankingsRow.holds Try.pinned (OpenSpec.ofChange sunRankingsWrong)

/-- 'verditerlaw05.SunAdds': WHATEVER THE INPUT: true; the input reads as it did. -/
def sunAddsSpec : ChangeSpec := { name := "sunAdds", fn := fun _ => fun
  | [d1, d2, d3] => { results := [.lit (.bool true)], args := [d1, d2, d3] }
  | _ => none }
def sunAddsRow : OpenClaim := { program := "ytbnjffhcpkfnhaa", sum := "d7faf6da916d99db3c9233c2eee39a43fef2f9325b517ecc071ed69c39330bb7", func := "verditer/verditerlaw05.SunAdds", spec := "sunAdds", unfollowed := true, recurses := true, apart := false }
def SunAddsSaid : Prop := sunAddsRow.holds Try.pinned (OpenSpec.ofChange sunAddsSpec)

/-- ITS FALSE NEIGHBOUR: 'it returns false'. Refute it at one input. -/
def sunAddsWrong : ChangeSpec := { name := "sunAdds", fn := fun _ => fun
  | [d1, d2, d3] => { results := [.lit (.bool false)], args := [d1, d2, d3] }
  | _ => none }
def SunAddsWrongFalsely : Prop := sunAddsRow.holds Try.pinned (OpenSpec.ofChange sunAddsWrong)

/-- 'verditerlaw05.SunRows': WHATEVER THE INPUT: true; the input reads as it did. -/
def sunRowsSpec : ChangeSpec := { name := "sunRows", fn := fun _ => fun
  | [d1, d2] => { results := [.lit (.bool true)], args := [d1, d2] }
  | _ => none }
def sunRowsRow : OpenClaim := { program := "ytbnjffhcpkfnhaa", sum := "d7faf6da916d99db3c9233c2eee39a43fef2f9325b517ecc071ed69c39330bb7", func := "verditer/verditerlaw05.SunRows", spec := "sunRows", inPlace := ["slices.overlaps[int]"], unfollowed := true, recurses := true, apart := false }
def SunRowsSaid : Prop := sunRowsRow.holds Try.pinned (OpenSpec.ofChange sunRowsSpec)

/-- ITS FALSE NEIGHBOUR: 'it returns false'. Refute it at one input. -/
def sunRowsWrong : ChangeSpec := { name := "sunRows", fn := fun _ => fun
  | [d1, d2] => { results := [.lit (.bool false)], args := [d1, d2] }
  | _ => none }
def SunRowsWrongFalsely : Prop := sunRowsRow.holds Try.pinned (OpenSpec.ofChange sunRowsWrong)

/-- 'verditerlaw05.SunOnly': WHATEVER THE INPUT: true; the input reads as it did. -/
def sunOnlySpec : ChangeSpec := { name := "sunOnly", fn := fun _ => fun
  | [d1, d2] => { results := [.lit (.bool true)], args := [d1, d2] }
  | _ => none }
def sunOnlyRow : OpenClaim := { program := "ytbnjffhcpkfnhaa", sum := "d7faf6da916d99db3c9233c2eee39a43fef2f9325b517ecc071ed69c39330bb7", func := "verditer/verditerlaw05.SunOnly", spec := "sunOnly", inPlace := ["slices.overlaps[int]"], unfollowed := true, recurses := true, apart := false }
def SunOnlySaid : Prop := sunOnlyRow.holds Try.pinned (OpenSpec.ofChange sunOnlySpec)

/-- ITS FALSE NEIGHBOUR: 'it returns false'. Refute it at one input. -/
def sunOnlyWrong : ChangeSpec := { name := "sunOnly", fn := fun _ => fun
  | [d1, d2] => { results := [.lit (.bool false)], args := [d1, d2] }
  | _ => none }
def SunOnlyWrongFalsely : Prop := sunOnlyRow.holds Try.pinned (OpenSpec.ofChange sunOnlyWrong)

/-- 'verditerlaw05.SunGroups': WHATEVER THE INPUT: true; the input reads as it did. -/
def sunGroupsSpec : ChangeSpec := { name := "sunGroups", fn := fun _ => fun
  | [d] => { results := [.lit (.bool true)], args := [d] }
  | _ => none }
def sunGroupsRow : OpenClaim := { program := "ytbnjffhcpkfnhaa", sum := "d7faf6da916d99db3c9233c2eee39a43fef2f9325b517ecc071ed69c39330bb7", func := "verditer/verditerlaw05.SunGroups", spec := "sunGroups", unfollowed := true, recurses := true, apart := false }
def SunGroupsSaid : Prop := sunGroupsRow.holds Try.pinned (OpenSpec.ofChange sunGroupsSpec)

/-- ITS FALSE NEIGHBOUR: 'it returns false'. Refute it at one input. -/
def sunGroupsWrong : ChangeSpec := { name := "sunGroups", fn := fun _ => fun
  | [d] => { results := [.lit (.bool false)], args := [d] }
  | _ => none }
def SunGroupsWrongFalsely : Prop := sunGroupsRow.holds Try.pinned (OpenSpec.ofChange sunGroupsWrong)

/-- 'verditerlaw05.SunMakes': WHATEVER THE INPUT: true; the input reads as it did. -/
def sunMakesSpec : ChangeSpec := { name := "sunMakes", fn := fun _ => fun
  | [d] => { results := [.lit (.bool true)], args := [d] }
  | _ => none }
def sunMakesRow : OpenClaim := { program := "ytbnjffhcpkfnhaa", sum := "d7faf6da916d99db3c9233c2eee39a43fef2f9325b517ecc071ed69c39330bb7", func := "verditer/verditerlaw05.SunMakes", spec := "sunMakes", unfollowed := true, recurses := true, apart := false }
def SunMakesSaid : Prop := sunMakesRow.holds Try.pinned (OpenSpec.ofChange sunMakesSpec)

/-- ITS FALSE NEIGHBOUR: 'it returns false'. Refute it at one input. -/
def sunMakesWrong : ChangeSpec := { name := "sunMakes", fn := fun _ => fun
  | [d] => { results := [.lit (.bool false)], args := [d] }
  | _ => none }
def SunMakesWrongFalsely : Prop := sunMakesRow.holds Try.pinned (OpenSpec.ofChange sunMakesWrong)

/-- 'verditerlaw05.SunHas': WHATEVER THE INPUT: true; the input reads as it did. -/
def sunHasSpec : ChangeSpec := { name := "sunHas", fn := fun _ => fun
  | [d] => { results := [.lit (.bool true)], args := [d] }
  | _ => none }
def sunHasRow : OpenClaim := { program := "ytbnjffhcpkfnhaa", sum := "d7faf6da916d99db3c9233c2eee39a43fef2f9325b517ecc071ed69c39330bb7", func := "verditer/verditerlaw05.SunHas", spec := "sunHas", unfollowed := true, recurses := true, apart := false }
def SunHasSaid : Prop := sunHasRow.holds Try.pinned (OpenSpec.ofChange sunHasSpec)

/-- ITS FALSE NEIGHBOUR: 'it returns false'. Refute it at one input. -/
def sunHasWrong : ChangeSpec := { name := "sunHas", fn := fun _ => fun
  | [d] => { results := [.lit (.bool false)], args := [d] }
  | _ => none }
def SunHasWrongFalsely : Prop := sunHasRow.holds Try.pinned (OpenSpec.ofChange sunHasWrong)

/-- 'verditerlaw05.SunRounds': WHATEVER THE INPUT: true; the input reads as it did. -/
def sunRoundsSpec : ChangeSpec := { name := "sunRounds", fn := fun _ => fun
  | [d1, d2, d3] => { results := [.lit (.bool true)], args := [d1, d2, d3] }
  | _ => none }
def sunRoundsRow : OpenClaim := { program := "ytbnjffhcpkfnhaa", sum := "d7faf6da916d99db3c9233c2eee39a43fef2f9325b517ecc071ed69c39330bb7", func := "verditer/verditerlaw05.SunRounds", spec := "sunRounds", unfollowed := true, recurses := true, apart := false }
def SunRoundsSaid : Prop := sunRoundsRow.holds Try.pinned (OpenSpec.ofChange sunRoundsSpec)

/-- ITS FALSE NEIGHBOUR: 'it returns false'. Refute it at one input. -/
def sunRoundsWrong : ChangeSpec := { name := "sunRounds", fn := fun _ => fun
  | [d1, d2, d3] => { results := [.lit (.bool false)], args := [d1, d2, d3] }
  | _ => none }
def SunRoundsWrongFalsely : Prop := sunRoundsRow.holds Try.pinned (OpenSpec.ofChange sunRoundsWrong)

/- THE SECOND FORM. 'bulk': how many values and letters a reading holds, each counted each time it is reached (what is shared counts as often as it is met; a slice's spare places count too). A statement '..UptoSaid' is the law's where the arguments, and the package variables that the reading takes, are together of bulk at most 1048576: NARROWER than '..Said'. Prove '..Said' where nothing that the law and all that it calls make is longer than what came in: it says more and counts as full. Else prove '..UptoSaid'. A law counts once. -/
mutual
def uptoBulk {H : Type} : DataW H → Nat
  | .lit (.string bytes) => bytes.length + 1
  | .lit _ => 1
  | .nil => 1
  | .ptr d => uptoBulk d + 1
  | .slice elems spare => uptoBulkAll elems + uptoBulkAll spare + 1
  | .agg parts => uptoBulkAll parts + 1
  | .iface _ d => uptoBulk d + 1
  | .map entries => uptoBulkEntries entries + 1
  | .held _ => 1
def uptoBulkAll {H : Type} : List (DataW H) → Nat
  | [] => 0
  | d :: r => uptoBulk d + uptoBulkAll r
def uptoBulkEntries {H : Type} : List (Lit × DataW H) → Nat
  | [] => 0
  | x :: r => uptoBulkEntry x + uptoBulkEntries r
def uptoBulkEntry {H : Type} : Lit × DataW H → Nat
  | (.string bytes, d) => bytes.length + uptoBulk d + 1
  | (_, d) => uptoBulk d + 1
 end
def uptoSmall : (H : Type) → List (DataW H) → Bool := fun _ ds => decide (uptoBulkAll ds ≤ 1048576)
def OpenSpec.upto (s : _root_.Go.ChangeSpec) : _root_.Go.OpenSpec := { _root_.Go.OpenSpec.ofChange s with cond := some uptoSmall }

/-- 'verditerlaw05.SunWins', WHERE WHAT IT READS IS OF BULK AT MOST 1048576: true; the input reads as it did. -/
def sunWinsUptoRow : OpenClaim := { program := "ytbnjffhcpkfnhaa", sum := "d7faf6da916d99db3c9233c2eee39a43fef2f9325b517ecc071ed69c39330bb7", func := "verditer/verditerlaw05.SunWins", spec := "sunWins", unfollowed := true, recurses := true, apart := false, narrowed := true }
def SunWinsUptoSaid : Prop := sunWinsUptoRow.holds Try.pinned (OpenSpec.upto sunWinsSpec)

/-- 'verditerlaw05.SunKings', WHERE WHAT IT READS IS OF BULK AT MOST 1048576: true; the input reads as it did. -/
def sunKingsUptoRow : OpenClaim := { program := "ytbnjffhcpkfnhaa", sum := "d7faf6da916d99db3c9233c2eee39a43fef2f9325b517ecc071ed69c39330bb7", func := "verditer/verditerlaw05.SunKings", spec := "sunKings", unfollowed := true, recurses := true, apart := false, narrowed := true }
def SunKingsUptoSaid : Prop := sunKingsUptoRow.holds Try.pinned (OpenSpec.upto sunKingsSpec)

/-- 'verditerlaw05.SunBacks', WHERE WHAT IT READS IS OF BULK AT MOST 1048576: true; the input reads as it did. -/
def sunBacksUptoRow : OpenClaim := { program := "ytbnjffhcpkfnhaa", sum := "d7faf6da916d99db3c9233c2eee39a43fef2f9325b517ecc071ed69c39330bb7", func := "verditer/verditerlaw05.SunBacks", spec := "sunBacks", unfollowed := true, recurses := true, apart := false, narrowed := true }
def SunBacksUptoSaid : Prop := sunBacksUptoRow.holds Try.pinned (OpenSpec.upto sunBacksSpec)

/-- 'verditerlaw05.SunSwitches', WHERE WHAT IT READS IS OF BULK AT MOST 1048576: true; the input reads as it did. -/
def sunSwitchesUptoRow : OpenClaim := { program := "ytbnjffhcpkfnhaa", sum := "d7faf6da916d99db3c9233c2eee39a43fef2f9325b517ecc071ed69c39330bb7", func := "verditer/verditerlaw05.SunSwitches", spec := "sunSwitches", unfollowed := true, recurses := true, apart := false, narrowed := true }
def SunSwitchesUptoSaid : Prop := sunSwitchesUptoRow.holds Try.pinned (OpenSpec.upto sunSwitchesSpec)

/-- 'verditerlaw05.SunUpsets', WHERE WHAT IT READS IS OF BULK AT MOST 1048576: true; the input reads as it did. -/
def sunUpsetsUptoRow : OpenClaim := { program := "ytbnjffhcpkfnhaa", sum := "d7faf6da916d99db3c9233c2eee39a43fef2f9325b517ecc071ed69c39330bb7", func := "verditer/verditerlaw05.SunUpsets", spec := "sunUpsets", unfollowed := true, recurses := true, apart := false, narrowed := true }
def SunUpsetsUptoSaid : Prop := sunUpsetsUptoRow.holds Try.pinned (OpenSpec.upto sunUpsetsSpec)

/-- 'verditerlaw05.SunRankings', WHERE WHAT IT READS IS OF BULK AT MOST 1048576: true; the input reads as it did. -/
def sunRankingsUptoRow : OpenClaim := { program := "ytbnjffhcpkfnhaa", sum := "d7faf6da916d99db3c9233c2eee39a43fef2f9325b517ecc071ed69c39330bb7", func := "verditer/verditerlaw05.SunRankings", spec := "sunRankings", unfollowed := true, recurses := true, apart := false, narrowed := true }
def SunRankingsUptoSaid : Prop := sunRankingsUptoRow.holds Try.pinned (OpenSpec.upto sunRankingsSpec)

/-- 'verditerlaw05.SunAdds', WHERE WHAT IT READS IS OF BULK AT MOST 1048576: true; the input reads as it did. -/
def sunAddsUptoRow : OpenClaim := { program := "ytbnjffhcpkfnhaa", sum := "d7faf6da916d99db3c9233c2eee39a43fef2f9325b517ecc071ed69c39330bb7", func := "verditer/verditerlaw05.SunAdds", spec := "sunAdds", unfollowed := true, recurses := true, apart := false, narrowed := true }
def SunAddsUptoSaid : Prop := sunAddsUptoRow.holds Try.pinned (OpenSpec.upto sunAddsSpec)

/-- 'verditerlaw05.SunRows', WHERE WHAT IT READS IS OF BULK AT MOST 1048576: true; the input reads as it did. -/
def sunRowsUptoRow : OpenClaim := { program := "ytbnjffhcpkfnhaa", sum := "d7faf6da916d99db3c9233c2eee39a43fef2f9325b517ecc071ed69c39330bb7", func := "verditer/verditerlaw05.SunRows", spec := "sunRows", inPlace := ["slices.overlaps[int]"], unfollowed := true, recurses := true, apart := false, narrowed := true }
def SunRowsUptoSaid : Prop := sunRowsUptoRow.holds Try.pinned (OpenSpec.upto sunRowsSpec)

/-- 'verditerlaw05.SunOnly', WHERE WHAT IT READS IS OF BULK AT MOST 1048576: true; the input reads as it did. -/
def sunOnlyUptoRow : OpenClaim := { program := "ytbnjffhcpkfnhaa", sum := "d7faf6da916d99db3c9233c2eee39a43fef2f9325b517ecc071ed69c39330bb7", func := "verditer/verditerlaw05.SunOnly", spec := "sunOnly", inPlace := ["slices.overlaps[int]"], unfollowed := true, recurses := true, apart := false, narrowed := true }
def SunOnlyUptoSaid : Prop := sunOnlyUptoRow.holds Try.pinned (OpenSpec.upto sunOnlySpec)

/-- 'verditerlaw05.SunGroups', WHERE WHAT IT READS IS OF BULK AT MOST 1048576: true; the input reads as it did. -/
def sunGroupsUptoRow : OpenClaim := { program := "ytbnjffhcpkfnhaa", sum := "d7faf6da916d99db3c9233c2eee39a43fef2f9325b517ecc071ed69c39330bb7", func := "verditer/verditerlaw05.SunGroups", spec := "sunGroups", unfollowed := true, recurses := true, apart := false, narrowed := true }
def SunGroupsUptoSaid : Prop := sunGroupsUptoRow.holds Try.pinned (OpenSpec.upto sunGroupsSpec)

/-- 'verditerlaw05.SunMakes', WHERE WHAT IT READS IS OF BULK AT MOST 1048576: true; the input reads as it did. -/
def sunMakesUptoRow : OpenClaim := { program := "ytbnjffhcpkfnhaa", sum := "d7faf6da916d99db3c9233c2eee39a43fef2f9325b517ecc071ed69c39330bb7", func := "verditer/verditerlaw05.SunMakes", spec := "sunMakes", unfollowed := true, recurses := true, apart := false, narrowed := true }
def SunMakesUptoSaid : Prop := sunMakesUptoRow.holds Try.pinned (OpenSpec.upto sunMakesSpec)

/-- 'verditerlaw05.SunHas', WHERE WHAT IT READS IS OF BULK AT MOST 1048576: true; the input reads as it did. -/
def sunHasUptoRow : OpenClaim := { program := "ytbnjffhcpkfnhaa", sum := "d7faf6da916d99db3c9233c2eee39a43fef2f9325b517ecc071ed69c39330bb7", func := "verditer/verditerlaw05.SunHas", spec := "sunHas", unfollowed := true, recurses := true, apart := false, narrowed := true }
def SunHasUptoSaid : Prop := sunHasUptoRow.holds Try.pinned (OpenSpec.upto sunHasSpec)

/-- 'verditerlaw05.SunRounds', WHERE WHAT IT READS IS OF BULK AT MOST 1048576: true; the input reads as it did. -/
def sunRoundsUptoRow : OpenClaim := { program := "ytbnjffhcpkfnhaa", sum := "d7faf6da916d99db3c9233c2eee39a43fef2f9325b517ecc071ed69c39330bb7", func := "verditer/verditerlaw05.SunRounds", spec := "sunRounds", unfollowed := true, recurses := true, apart := false, narrowed := true }
def SunRoundsUptoSaid : Prop := sunRoundsUptoRow.holds Try.pinned (OpenSpec.upto sunRoundsSpec)

end Rows
end Go.Proofs.Ytbnjffhcpkfnhaa
