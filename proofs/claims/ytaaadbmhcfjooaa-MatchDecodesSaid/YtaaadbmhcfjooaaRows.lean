/-
  No cell of these rows narrows 'for every input' (looked for: loops, veiled, ifaces, maps, wideKeys, modest, calm, conditions, laid).
  DERIVED. THE GIVEN ROWS OF THIS SEAT. 7 by the template 'for every input the law returns true; each argument reads behind the call as it read before'; 0 by the template 'total and deterministic' (their statements: YtaaadbmhcfjooaaTotals.lean).
  GIVEN WITH THE SEED: the statements are not yours to turn. If you find one false, say at which input.
  Laid BY PROGRAM, IN A SANDBOX (cutbox-rows.mjs): the forced cells as the released guide's own fill.sh prints them over the translation 617139c4ef7acbed… (all of the seat's roots in one cut). By AI agents, Wed Nov 11 2026. No macro, syntax, notation, axiom, sorry.
-/
import Derived.Test.YtaaadbmhcfjooaaChecked
import GoSem.Claim
import GoSem.ClaimJoined
import GoSem.ClaimMapViews
import Derived.JoinedTies
import Derived.KernelRfl
namespace Go.Proofs.Ytaaadbmhcfjooaa
/- THE CELL 'sum', in the pinned program and in every row, IS THE sha256 OF THE DUMP (.gsa) THAT YtaaadbmhcfjooaaProg.lean LOADS. Nothing in Lean hashes anything: it is a label: what it is worth is what the hold of that sum in a sandbox is worth. -/
noncomputable def Try.pinned : Pinned := { name := "ytaaadbmhcfjooaa", sum := "617139c4ef7acbed0dfe603ff94fda9fde0045fae13cf69da8f4c9c1852d5060", checked := Try.checked }
namespace Rows
def none {H : Type} : Left H := { results := [], args := [] }

/-- 'droverlaw05.MatchRight': WHATEVER THE INPUT: true; the input reads as it did. -/
def matchRightSpec : ChangeSpec := { name := "matchRight", fn := fun _ => fun
  | [d] => { results := [.lit (.bool true)], args := [d] }
  | _ => none }
def matchRightRow : OpenClaim := { program := "ytaaadbmhcfjooaa", sum := "617139c4ef7acbed0dfe603ff94fda9fde0045fae13cf69da8f4c9c1852d5060", func := "drover/droverlaw05.MatchRight", spec := "matchRight", inPlace := ["internal/abi.NoEscape"], unfollowed := true, recurses := true, apart := false }
def MatchRightSaid : Prop := matchRightRow.holds Try.pinned (OpenSpec.ofChange matchRightSpec)

/-- ITS FALSE NEIGHBOUR: 'it returns false'. Refute it at one input. -/
def matchRightWrong : ChangeSpec := { name := "matchRight", fn := fun _ => fun
  | [d] => { results := [.lit (.bool false)], args := [d] }
  | _ => none }
def MatchRightWrongFalsely : Prop := matchRightRow.holds Try.pinned (OpenSpec.ofChange matchRightWrong)

/-- 'droverlaw05.MatchEncodes': WHATEVER THE INPUT: true; the input reads as it did. -/
def matchEncodesSpec : ChangeSpec := { name := "matchEncodes", fn := fun _ => fun
  | [d] => { results := [.lit (.bool true)], args := [d] }
  | _ => none }
def matchEncodesRow : OpenClaim := { program := "ytaaadbmhcfjooaa", sum := "617139c4ef7acbed0dfe603ff94fda9fde0045fae13cf69da8f4c9c1852d5060", func := "drover/droverlaw05.MatchEncodes", spec := "matchEncodes", inPlace := ["internal/abi.NoEscape"], unfollowed := true, recurses := true, apart := false }
def MatchEncodesSaid : Prop := matchEncodesRow.holds Try.pinned (OpenSpec.ofChange matchEncodesSpec)

/-- ITS FALSE NEIGHBOUR: 'it returns false'. Refute it at one input. -/
def matchEncodesWrong : ChangeSpec := { name := "matchEncodes", fn := fun _ => fun
  | [d] => { results := [.lit (.bool false)], args := [d] }
  | _ => none }
def MatchEncodesWrongFalsely : Prop := matchEncodesRow.holds Try.pinned (OpenSpec.ofChange matchEncodesWrong)

/-- 'droverlaw05.MatchPairs': WHATEVER THE INPUT: true; the input reads as it did. -/
def matchPairsSpec : ChangeSpec := { name := "matchPairs", fn := fun _ => fun
  | [d1, d2] => { results := [.lit (.bool true)], args := [d1, d2] }
  | _ => none }
def matchPairsRow : OpenClaim := { program := "ytaaadbmhcfjooaa", sum := "617139c4ef7acbed0dfe603ff94fda9fde0045fae13cf69da8f4c9c1852d5060", func := "drover/droverlaw05.MatchPairs", spec := "matchPairs", inPlace := ["internal/abi.NoEscape"], unfollowed := true, recurses := true, apart := false }
def MatchPairsSaid : Prop := matchPairsRow.holds Try.pinned (OpenSpec.ofChange matchPairsSpec)

/-- ITS FALSE NEIGHBOUR: 'it returns false'. Refute it at one input. -/
def matchPairsWrong : ChangeSpec := { name := "matchPairs", fn := fun _ => fun
  | [d1, d2] => { results := [.lit (.bool false)], args := [d1, d2] }
  | _ => none }
def MatchPairsWrongFalsely : Prop := matchPairsRow.holds Try.pinned (OpenSpec.ofChange matchPairsWrong)

/-- 'droverlaw05.MatchTakes': WHATEVER THE INPUT: true; the input reads as it did. -/
def matchTakesSpec : ChangeSpec := { name := "matchTakes", fn := fun _ => fun
  | [d1, d2] => { results := [.lit (.bool true)], args := [d1, d2] }
  | _ => none }
def matchTakesRow : OpenClaim := { program := "ytaaadbmhcfjooaa", sum := "617139c4ef7acbed0dfe603ff94fda9fde0045fae13cf69da8f4c9c1852d5060", func := "drover/droverlaw05.MatchTakes", spec := "matchTakes", inPlace := ["internal/abi.NoEscape"], unfollowed := true, recurses := true, apart := false }
def MatchTakesSaid : Prop := matchTakesRow.holds Try.pinned (OpenSpec.ofChange matchTakesSpec)

/-- ITS FALSE NEIGHBOUR: 'it returns false'. Refute it at one input. -/
def matchTakesWrong : ChangeSpec := { name := "matchTakes", fn := fun _ => fun
  | [d1, d2] => { results := [.lit (.bool false)], args := [d1, d2] }
  | _ => none }
def MatchTakesWrongFalsely : Prop := matchTakesRow.holds Try.pinned (OpenSpec.ofChange matchTakesWrong)

/-- 'droverlaw05.MatchDecodes': WHATEVER THE INPUT: true; the input reads as it did. -/
def matchDecodesSpec : ChangeSpec := { name := "matchDecodes", fn := fun _ => fun
  | [d] => { results := [.lit (.bool true)], args := [d] }
  | _ => none }
def matchDecodesRow : OpenClaim := { program := "ytaaadbmhcfjooaa", sum := "617139c4ef7acbed0dfe603ff94fda9fde0045fae13cf69da8f4c9c1852d5060", func := "drover/droverlaw05.MatchDecodes", spec := "matchDecodes", inPlace := ["internal/abi.NoEscape"], unfollowed := true, recurses := true, apart := false }
def MatchDecodesSaid : Prop := matchDecodesRow.holds Try.pinned (OpenSpec.ofChange matchDecodesSpec)

/-- ITS FALSE NEIGHBOUR: 'it returns false'. Refute it at one input. -/
def matchDecodesWrong : ChangeSpec := { name := "matchDecodes", fn := fun _ => fun
  | [d] => { results := [.lit (.bool false)], args := [d] }
  | _ => none }
def MatchDecodesWrongFalsely : Prop := matchDecodesRow.holds Try.pinned (OpenSpec.ofChange matchDecodesWrong)

/-- 'droverlaw05.MatchSound': WHATEVER THE INPUT: true; the input reads as it did. -/
def matchSoundSpec : ChangeSpec := { name := "matchSound", fn := fun _ => fun
  | [d1, d2, d3] => { results := [.lit (.bool true)], args := [d1, d2, d3] }
  | _ => none }
def matchSoundRow : OpenClaim := { program := "ytaaadbmhcfjooaa", sum := "617139c4ef7acbed0dfe603ff94fda9fde0045fae13cf69da8f4c9c1852d5060", func := "drover/droverlaw05.MatchSound", spec := "matchSound", inPlace := ["internal/abi.NoEscape"], unfollowed := true, recurses := true, apart := false }
def MatchSoundSaid : Prop := matchSoundRow.holds Try.pinned (OpenSpec.ofChange matchSoundSpec)

/-- ITS FALSE NEIGHBOUR: 'it returns false'. Refute it at one input. -/
def matchSoundWrong : ChangeSpec := { name := "matchSound", fn := fun _ => fun
  | [d1, d2, d3] => { results := [.lit (.bool false)], args := [d1, d2, d3] }
  | _ => none }
def MatchSoundWrongFalsely : Prop := matchSoundRow.holds Try.pinned (OpenSpec.ofChange matchSoundWrong)

/-- 'droverlaw05.MatchBack': WHATEVER THE INPUT: true; the input reads as it did. -/
def matchBackSpec : ChangeSpec := { name := "matchBack", fn := fun _ => fun
  | [d1, d2] => { results := [.lit (.bool true)], args := [d1, d2] }
  | _ => none }
def matchBackRow : OpenClaim := { program := "ytaaadbmhcfjooaa", sum := "617139c4ef7acbed0dfe603ff94fda9fde0045fae13cf69da8f4c9c1852d5060", func := "drover/droverlaw05.MatchBack", spec := "matchBack", inPlace := ["internal/abi.NoEscape"], unfollowed := true, recurses := true, apart := false }
def MatchBackSaid : Prop := matchBackRow.holds Try.pinned (OpenSpec.ofChange matchBackSpec)

/-- ITS FALSE NEIGHBOUR: 'it returns false'. Refute it at one input. -/
def matchBackWrong : ChangeSpec := { name := "matchBack", fn := fun _ => fun
  | [d1, d2] => { results := [.lit (.bool false)], args := [d1, d2] }
  | _ => none }
def MatchBackWrongFalsely : Prop := matchBackRow.holds Try.pinned (OpenSpec.ofChange matchBackWrong)

/- THE SECOND FORM. 'bulk': how many values and letters a reading holds, each counted each time it is reached (what is shared counts as often as it is met; a slice's spare places count too). A statement '..UptoSaid' is the law's where the arguments, and the package variables that the reading takes, are together of bulk at most 1048576: NARROWER than '..Said'. Prove '..Said' where nothing that the law and all that it calls make is longer than what came in: it says more and counts as full. Else prove '..UptoSaid'. A law counts once. -/
mutual
def uptoBulk {H : Type} : DataW H → Nat
  | .lit (.string bytes) => bytes.length + 1
  | .lit _ => 1
  | .nil => 1
  | .ptr d => uptoBulk d + 1
  | .slice elems spare => uptoBulkAll elems + uptoBulkAll spare + 1
  | .agg parts => uptoBulkAll parts + 1
  | .iface _ d => uptoBulk d + 1
  | .map entries => uptoBulkEntries entries + 1
  | .held _ => 1
def uptoBulkAll {H : Type} : List (DataW H) → Nat
  | [] => 0
  | d :: r => uptoBulk d + uptoBulkAll r
def uptoBulkEntries {H : Type} : List (Lit × DataW H) → Nat
  | [] => 0
  | x :: r => uptoBulkEntry x + uptoBulkEntries r
def uptoBulkEntry {H : Type} : Lit × DataW H → Nat
  | (.string bytes, d) => bytes.length + uptoBulk d + 1
  | (_, d) => uptoBulk d + 1
 end
def uptoSmall : (H : Type) → List (DataW H) → Bool := fun _ ds => decide (uptoBulkAll ds ≤ 1048576)
def OpenSpec.upto (s : _root_.Go.ChangeSpec) : _root_.Go.OpenSpec := { _root_.Go.OpenSpec.ofChange s with cond := some uptoSmall }

/-- 'droverlaw05.MatchRight', WHERE WHAT IT READS IS OF BULK AT MOST 1048576: true; the input reads as it did. -/
def matchRightUptoRow : OpenClaim := { program := "ytaaadbmhcfjooaa", sum := "617139c4ef7acbed0dfe603ff94fda9fde0045fae13cf69da8f4c9c1852d5060", func := "drover/droverlaw05.MatchRight", spec := "matchRight", inPlace := ["internal/abi.NoEscape"], unfollowed := true, recurses := true, apart := false, narrowed := true }
def MatchRightUptoSaid : Prop := matchRightUptoRow.holds Try.pinned (OpenSpec.upto matchRightSpec)

/-- 'droverlaw05.MatchEncodes', WHERE WHAT IT READS IS OF BULK AT MOST 1048576: true; the input reads as it did. -/
def matchEncodesUptoRow : OpenClaim := { program := "ytaaadbmhcfjooaa", sum := "617139c4ef7acbed0dfe603ff94fda9fde0045fae13cf69da8f4c9c1852d5060", func := "drover/droverlaw05.MatchEncodes", spec := "matchEncodes", inPlace := ["internal/abi.NoEscape"], unfollowed := true, recurses := true, apart := false, narrowed := true }
def MatchEncodesUptoSaid : Prop := matchEncodesUptoRow.holds Try.pinned (OpenSpec.upto matchEncodesSpec)

/-- 'droverlaw05.MatchPairs', WHERE WHAT IT READS IS OF BULK AT MOST 1048576: true; the input reads as it did. -/
def matchPairsUptoRow : OpenClaim := { program := "ytaaadbmhcfjooaa", sum := "617139c4ef7acbed0dfe603ff94fda9fde0045fae13cf69da8f4c9c1852d5060", func := "drover/droverlaw05.MatchPairs", spec := "matchPairs", inPlace := ["internal/abi.NoEscape"], unfollowed := true, recurses := true, apart := false, narrowed := true }
def MatchPairsUptoSaid : Prop := matchPairsUptoRow.holds Try.pinned (OpenSpec.upto matchPairsSpec)

/-- 'droverlaw05.MatchTakes', WHERE WHAT IT READS IS OF BULK AT MOST 1048576: true; the input reads as it did. -/
def matchTakesUptoRow : OpenClaim := { program := "ytaaadbmhcfjooaa", sum := "617139c4ef7acbed0dfe603ff94fda9fde0045fae13cf69da8f4c9c1852d5060", func := "drover/droverlaw05.MatchTakes", spec := "matchTakes", inPlace := ["internal/abi.NoEscape"], unfollowed := true, recurses := true, apart := false, narrowed := true }
def MatchTakesUptoSaid : Prop := matchTakesUptoRow.holds Try.pinned (OpenSpec.upto matchTakesSpec)

/-- 'droverlaw05.MatchDecodes', WHERE WHAT IT READS IS OF BULK AT MOST 1048576: true; the input reads as it did. -/
def matchDecodesUptoRow : OpenClaim := { program := "ytaaadbmhcfjooaa", sum := "617139c4ef7acbed0dfe603ff94fda9fde0045fae13cf69da8f4c9c1852d5060", func := "drover/droverlaw05.MatchDecodes", spec := "matchDecodes", inPlace := ["internal/abi.NoEscape"], unfollowed := true, recurses := true, apart := false, narrowed := true }
def MatchDecodesUptoSaid : Prop := matchDecodesUptoRow.holds Try.pinned (OpenSpec.upto matchDecodesSpec)

/-- 'droverlaw05.MatchSound', WHERE WHAT IT READS IS OF BULK AT MOST 1048576: true; the input reads as it did. -/
def matchSoundUptoRow : OpenClaim := { program := "ytaaadbmhcfjooaa", sum := "617139c4ef7acbed0dfe603ff94fda9fde0045fae13cf69da8f4c9c1852d5060", func := "drover/droverlaw05.MatchSound", spec := "matchSound", inPlace := ["internal/abi.NoEscape"], unfollowed := true, recurses := true, apart := false, narrowed := true }
def MatchSoundUptoSaid : Prop := matchSoundUptoRow.holds Try.pinned (OpenSpec.upto matchSoundSpec)

/-- 'droverlaw05.MatchBack', WHERE WHAT IT READS IS OF BULK AT MOST 1048576: true; the input reads as it did. -/
def matchBackUptoRow : OpenClaim := { program := "ytaaadbmhcfjooaa", sum := "617139c4ef7acbed0dfe603ff94fda9fde0045fae13cf69da8f4c9c1852d5060", func := "drover/droverlaw05.MatchBack", spec := "matchBack", inPlace := ["internal/abi.NoEscape"], unfollowed := true, recurses := true, apart := false, narrowed := true }
def MatchBackUptoSaid : Prop := matchBackUptoRow.holds Try.pinned (OpenSpec.upto matchBackSpec)

end Rows
end Go.Proofs.Ytaaadbmhcfjooaa
