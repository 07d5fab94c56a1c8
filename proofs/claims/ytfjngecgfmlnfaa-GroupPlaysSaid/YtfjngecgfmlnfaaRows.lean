/-
  No cell of these rows narrows 'for every input' (looked for: loops, veiled, ifaces, maps, wideKeys, modest, calm, conditions, laid).
  DERIVED. THE GIVEN ROWS OF THIS SEAT. 5 by the template 'for every input the law returns true; each argument reads behind the call as it read before'; 0 by the template 'total and deterministic' (their statements: YtfjngecgfmlnfaaTotals.lean).
  GIVEN WITH THE SEED: the statements are not yours to turn. If you find one false, say at which input.
  Laid BY PROGRAM, IN A SANDBOX (cutbox-rows.mjs): the forced cells as the released guide's own fill.sh prints them over the translation d89613af0f6c25ee… (all of the seat's roots in one cut). By AI agents, Wed Nov 11 2026. No macro, syntax, notation, axiom, sorry.
-/
import Derived.Test.YtfjngecgfmlnfaaChecked
import GoSem.Claim
import GoSem.ClaimJoined
import GoSem.ClaimMapViews
import Derived.JoinedTies
import Derived.KernelRfl
namespace Go.Proofs.Ytfjngecgfmlnfaa
/- THE CELL 'sum', in the pinned program and in every row, IS THE sha256 OF THE DUMP (.gsa) THAT YtfjngecgfmlnfaaProg.lean LOADS. Nothing in Lean hashes anything: it is a label: what it is worth is what the hold of that sum in a sandbox is worth. -/
noncomputable def Try.pinned : Pinned := { name := "ytfjngecgfmlnfaa", sum := "d89613af0f6c25ee8918129474935e5ff6ee4702da1cdb16b75ff62726f1464d", checked := Try.checked }
namespace Rows
def none {H : Type} : Left H := { results := [], args := [] }

/-- 'droverlaw10.GroupChooses': WHATEVER THE INPUT: true; the input reads as it did. -/
def groupChoosesSpec : ChangeSpec := { name := "groupChooses", fn := fun _ => fun
  | [d1, d2, d3] => { results := [.lit (.bool true)], args := [d1, d2, d3] }
  | _ => none }
def groupChoosesRow : OpenClaim := { program := "ytfjngecgfmlnfaa", sum := "d89613af0f6c25ee8918129474935e5ff6ee4702da1cdb16b75ff62726f1464d", func := "drover/droverlaw10.GroupChooses", spec := "groupChooses", unfollowed := true, recurses := true, apart := false }
def GroupChoosesSaid : Prop := groupChoosesRow.holds Try.pinned (OpenSpec.ofChange groupChoosesSpec)

/-- ITS FALSE NEIGHBOUR: 'it returns false'. Refute it at one input. -/
def groupChoosesWrong : ChangeSpec := { name := "groupChooses", fn := fun _ => fun
  | [d1, d2, d3] => { results := [.lit (.bool false)], args := [d1, d2, d3] }
  | _ => none }
def GroupChoosesWrongFalsely : Prop := groupChoosesRow.holds Try.pinned (OpenSpec.ofChange groupChoosesWrong)

/-- 'droverlaw10.GroupOne': WHATEVER THE INPUT: true; the input reads as it did. -/
def groupOneSpec : ChangeSpec := { name := "groupOne", fn := fun _ => fun
  | [d1, d2, d3] => { results := [.lit (.bool true)], args := [d1, d2, d3] }
  | _ => none }
def groupOneRow : OpenClaim := { program := "ytfjngecgfmlnfaa", sum := "d89613af0f6c25ee8918129474935e5ff6ee4702da1cdb16b75ff62726f1464d", func := "drover/droverlaw10.GroupOne", spec := "groupOne", unfollowed := true, recurses := true, apart := false }
def GroupOneSaid : Prop := groupOneRow.holds Try.pinned (OpenSpec.ofChange groupOneSpec)

/-- ITS FALSE NEIGHBOUR: 'it returns false'. Refute it at one input. -/
def groupOneWrong : ChangeSpec := { name := "groupOne", fn := fun _ => fun
  | [d1, d2, d3] => { results := [.lit (.bool false)], args := [d1, d2, d3] }
  | _ => none }
def GroupOneWrongFalsely : Prop := groupOneRow.holds Try.pinned (OpenSpec.ofChange groupOneWrong)

/-- 'droverlaw10.GroupPlays': WHATEVER THE INPUT: true; the input reads as it did. -/
def groupPlaysSpec : ChangeSpec := { name := "groupPlays", fn := fun _ => fun
  | [d1, d2] => { results := [.lit (.bool true)], args := [d1, d2] }
  | _ => none }
def groupPlaysRow : OpenClaim := { program := "ytfjngecgfmlnfaa", sum := "d89613af0f6c25ee8918129474935e5ff6ee4702da1cdb16b75ff62726f1464d", func := "drover/droverlaw10.GroupPlays", spec := "groupPlays", unfollowed := true, recurses := true, apart := false }
def GroupPlaysSaid : Prop := groupPlaysRow.holds Try.pinned (OpenSpec.ofChange groupPlaysSpec)

/-- ITS FALSE NEIGHBOUR: 'it returns false'. Refute it at one input. -/
def groupPlaysWrong : ChangeSpec := { name := "groupPlays", fn := fun _ => fun
  | [d1, d2] => { results := [.lit (.bool false)], args := [d1, d2] }
  | _ => none }
def GroupPlaysWrongFalsely : Prop := groupPlaysRow.holds Try.pinned (OpenSpec.ofChange groupPlaysWrong)

/-- 'droverlaw10.GroupRuns': WHATEVER THE INPUT: true; the input reads as it did. -/
def groupRunsSpec : ChangeSpec := { name := "groupRuns", fn := fun _ => fun
  | [d1, d2] => { results := [.lit (.bool true)], args := [d1, d2] }
  | _ => none }
def groupRunsRow : OpenClaim := { program := "ytfjngecgfmlnfaa", sum := "d89613af0f6c25ee8918129474935e5ff6ee4702da1cdb16b75ff62726f1464d", func := "drover/droverlaw10.GroupRuns", spec := "groupRuns", unfollowed := true, recurses := true, apart := false }
def GroupRunsSaid : Prop := groupRunsRow.holds Try.pinned (OpenSpec.ofChange groupRunsSpec)

/-- ITS FALSE NEIGHBOUR: 'it returns false'. Refute it at one input. -/
def groupRunsWrong : ChangeSpec := { name := "groupRuns", fn := fun _ => fun
  | [d1, d2] => { results := [.lit (.bool false)], args := [d1, d2] }
  | _ => none }
def GroupRunsWrongFalsely : Prop := groupRunsRow.holds Try.pinned (OpenSpec.ofChange groupRunsWrong)

/-- 'droverlaw10.GroupNil': WHATEVER THE INPUT: true; the input reads as it did. -/
def groupNilSpec : ChangeSpec := { name := "groupNil", fn := fun _ => fun
  | [d] => { results := [.lit (.bool true)], args := [d] }
  | _ => none }
def groupNilRow : OpenClaim := { program := "ytfjngecgfmlnfaa", sum := "d89613af0f6c25ee8918129474935e5ff6ee4702da1cdb16b75ff62726f1464d", func := "drover/droverlaw10.GroupNil", spec := "groupNil", unfollowed := true, recurses := true, apart := false }
def GroupNilSaid : Prop := groupNilRow.holds Try.pinned (OpenSpec.ofChange groupNilSpec)

/-- ITS FALSE NEIGHBOUR: 'it returns false'. Refute it at one input. -/
def groupNilWrong : ChangeSpec := { name := "groupNil", fn := fun _ => fun
  | [d] => { results := [.lit (.bool false)], args := [d] }
  | _ => none }
def GroupNilWrongFalsely : Prop := groupNilRow.holds Try.pinned (OpenSpec.ofChange groupNilWrong)

/- THE SECOND FORM. 'bulk': how many values and letters a reading holds, each counted each time it is reached (what is shared counts as often as it is met; a slice's spare places count too). A statement '..UptoSaid' is the law's where the arguments, and the package variables that the reading takes, are together of bulk at most 1048576: NARROWER than '..Said'. Prove '..Said' where nothing that the law and all that it calls make is longer than what came in: it says more and counts as full. Else prove '..UptoSaid'. A law counts once. -/
mutual
def uptoBulk {H : Type} : DataW H → Nat
  | .lit (.string bytes) => bytes.length + 1
  | .lit _ => 1
  | .nil => 1
  | .ptr d => uptoBulk d + 1
  | .slice elems spare => uptoBulkAll elems + uptoBulkAll spare + 1
  | .agg parts => uptoBulkAll parts + 1
  | .iface _ d => uptoBulk d + 1
  | .map entries => uptoBulkEntries entries + 1
  | .held _ => 1
def uptoBulkAll {H : Type} : List (DataW H) → Nat
  | [] => 0
  | d :: r => uptoBulk d + uptoBulkAll r
def uptoBulkEntries {H : Type} : List (Lit × DataW H) → Nat
  | [] => 0
  | x :: r => uptoBulkEntry x + uptoBulkEntries r
def uptoBulkEntry {H : Type} : Lit × DataW H → Nat
  | (.string bytes, d) => bytes.length + uptoBulk d + 1
  | (_, d) => uptoBulk d + 1
 end
def uptoSmall : (H : Type) → List (DataW H) → Bool := fun _ ds => decide (uptoBulkAll ds ≤ 1048576)
def OpenSpec.upto (s : _root_.Go.ChangeSpec) : _root_.Go.OpenSpec := { _root_.Go.OpenSpec.ofChange s with cond := some uptoSmall }

/-- 'droverlaw10.GroupChooses', WHERE WHAT IT READS IS OF BULK AT MOST 1048576: true; the input reads as it did. -/
def groupChoosesUptoRow : OpenClaim := { program := "ytfjngecgfmlnfaa", sum := "d89613af0f6c25ee8918129474935e5ff6ee4702da1cdb16b75ff62726f1464d", func := "drover/droverlaw10.GroupChooses", spec := "groupChooses", unfollowed := true, recurses := true, apart := false, narrowed := true }
def GroupChoosesUptoSaid : Prop := groupChoosesUptoRow.holds Try.pinned (OpenSpec.upto groupChoosesSpec)

/-- 'droverlaw10.GroupOne', WHERE WHAT IT READS IS OF BULK AT MOST 1048576: true; the input reads as it did. -/
def groupOneUptoRow : OpenClaim := { program := "ytfjngecgfmlnfaa", sum := "d89613af0f6c25ee8918129474935e5ff6ee4702da1cdb16b75ff62726f1464d", func := "drover/droverlaw10.GroupOne", spec := "groupOne", unfollowed := true, recurses := true, apart := false, narrowed := true }
def GroupOneUptoSaid : Prop := groupOneUptoRow.holds Try.pinned (OpenSpec.upto groupOneSpec)

/-- 'droverlaw10.GroupPlays', WHERE WHAT IT READS IS OF BULK AT MOST 1048576: true; the input reads as it did. -/
def groupPlaysUptoRow : OpenClaim := { program := "ytfjngecgfmlnfaa", sum := "d89613af0f6c25ee8918129474935e5ff6ee4702da1cdb16b75ff62726f1464d", func := "drover/droverlaw10.GroupPlays", spec := "groupPlays", unfollowed := true, recurses := true, apart := false, narrowed := true }
def GroupPlaysUptoSaid : Prop := groupPlaysUptoRow.holds Try.pinned (OpenSpec.upto groupPlaysSpec)

/-- 'droverlaw10.GroupRuns', WHERE WHAT IT READS IS OF BULK AT MOST 1048576: true; the input reads as it did. -/
def groupRunsUptoRow : OpenClaim := { program := "ytfjngecgfmlnfaa", sum := "d89613af0f6c25ee8918129474935e5ff6ee4702da1cdb16b75ff62726f1464d", func := "drover/droverlaw10.GroupRuns", spec := "groupRuns", unfollowed := true, recurses := true, apart := false, narrowed := true }
def GroupRunsUptoSaid : Prop := groupRunsUptoRow.holds Try.pinned (OpenSpec.upto groupRunsSpec)

/-- 'droverlaw10.GroupNil', WHERE WHAT IT READS IS OF BULK AT MOST 1048576: true; the input reads as it did. -/
def groupNilUptoRow : OpenClaim := { program := "ytfjngecgfmlnfaa", sum := "d89613af0f6c25ee8918129474935e5ff6ee4702da1cdb16b75ff62726f1464d", func := "drover/droverlaw10.GroupNil", spec := "groupNil", unfollowed := true, recurses := true, apart := false, narrowed := true }
def GroupNilUptoSaid : Prop := groupNilUptoRow.holds Try.pinned (OpenSpec.upto groupNilSpec)

end Rows
end Go.Proofs.Ytfjngecgfmlnfaa
