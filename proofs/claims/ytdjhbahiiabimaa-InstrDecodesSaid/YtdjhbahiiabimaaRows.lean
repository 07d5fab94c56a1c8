/-
  No cell of these rows narrows 'for every input' (looked for: loops, veiled, ifaces, maps, wideKeys, modest, calm, conditions, laid).
  DERIVED. THE GIVEN ROWS OF THIS SEAT. 5 by the template 'for every input the law returns true; each argument reads behind the call as it read before'; 0 by the template 'total and deterministic' (their statements: YtdjhbahiiabimaaTotals.lean).
  GIVEN WITH THE SEED: the statements are not yours to turn. If you find one false, say at which input.
  Laid BY PROGRAM, IN A SANDBOX (cutbox-rows.mjs): the forced cells as the released guide's own fill.sh prints them over the translation dd99bd62b6cc6775… (all of the seat's roots in one cut). By AI agents, Wed Nov 11 2026. No macro, syntax, notation, axiom, sorry.
-/
import Derived.Test.YtdjhbahiiabimaaChecked
import GoSem.Claim
import GoSem.ClaimJoined
import GoSem.ClaimMapViews
import Derived.JoinedTies
import Derived.KernelRfl
namespace Go.Proofs.Ytdjhbahiiabimaa
/- THE CELL 'sum', in the pinned program and in every row, IS THE sha256 OF THE DUMP (.gsa) THAT YtdjhbahiiabimaaProg.lean LOADS. Nothing in Lean hashes anything: it is a label: what it is worth is what the hold of that sum in a sandbox is worth. -/
noncomputable def Try.pinned : Pinned := { name := "ytdjhbahiiabimaa", sum := "dd99bd62b6cc677542f202cbc77453ee34313d2915be44b0fdbc20b07301401c", checked := Try.checked }
namespace Rows
def none {H : Type} : Left H := { results := [], args := [] }

/-- 'droverlaw07.InstrRight': WHATEVER THE INPUT: true; the input reads as it did. -/
def instrRightSpec : ChangeSpec := { name := "instrRight", fn := fun _ => fun
  | [d] => { results := [.lit (.bool true)], args := [d] }
  | _ => none }
def instrRightRow : OpenClaim := { program := "ytdjhbahiiabimaa", sum := "dd99bd62b6cc677542f202cbc77453ee34313d2915be44b0fdbc20b07301401c", func := "drover/droverlaw07.InstrRight", spec := "instrRight", inPlace := ["internal/abi.NoEscape", "internal/bytealg.MakeNoZero"], unfollowed := true, recurses := true, apart := false }
def InstrRightSaid : Prop := instrRightRow.holds Try.pinned (OpenSpec.ofChange instrRightSpec)

/-- ITS FALSE NEIGHBOUR: 'it returns false'. Refute it at one input. -/
def instrRightWrong : ChangeSpec := { name := "instrRight", fn := fun _ => fun
  | [d] => { results := [.lit (.bool false)], args := [d] }
  | _ => none }
def InstrRightWrongFalsely : Prop := instrRightRow.holds Try.pinned (OpenSpec.ofChange instrRightWrong)

/-- 'droverlaw07.InstrEncodes': WHATEVER THE INPUT: true; the input reads as it did. -/
def instrEncodesSpec : ChangeSpec := { name := "instrEncodes", fn := fun _ => fun
  | [d] => { results := [.lit (.bool true)], args := [d] }
  | _ => none }
def instrEncodesRow : OpenClaim := { program := "ytdjhbahiiabimaa", sum := "dd99bd62b6cc677542f202cbc77453ee34313d2915be44b0fdbc20b07301401c", func := "drover/droverlaw07.InstrEncodes", spec := "instrEncodes", inPlace := ["internal/abi.NoEscape", "internal/bytealg.MakeNoZero"], unfollowed := true, recurses := true, apart := false }
def InstrEncodesSaid : Prop := instrEncodesRow.holds Try.pinned (OpenSpec.ofChange instrEncodesSpec)

/-- ITS FALSE NEIGHBOUR: 'it returns false'. Refute it at one input. -/
def instrEncodesWrong : ChangeSpec := { name := "instrEncodes", fn := fun _ => fun
  | [d] => { results := [.lit (.bool false)], args := [d] }
  | _ => none }
def InstrEncodesWrongFalsely : Prop := instrEncodesRow.holds Try.pinned (OpenSpec.ofChange instrEncodesWrong)

/-- 'droverlaw07.InstrDecodes': WHATEVER THE INPUT: true; the input reads as it did. -/
def instrDecodesSpec : ChangeSpec := { name := "instrDecodes", fn := fun _ => fun
  | [d1, d2] => { results := [.lit (.bool true)], args := [d1, d2] }
  | _ => none }
def instrDecodesRow : OpenClaim := { program := "ytdjhbahiiabimaa", sum := "dd99bd62b6cc677542f202cbc77453ee34313d2915be44b0fdbc20b07301401c", func := "drover/droverlaw07.InstrDecodes", spec := "instrDecodes", inPlace := ["internal/abi.NoEscape", "internal/bytealg.MakeNoZero"], unfollowed := true, recurses := true, apart := false }
def InstrDecodesSaid : Prop := instrDecodesRow.holds Try.pinned (OpenSpec.ofChange instrDecodesSpec)

/-- ITS FALSE NEIGHBOUR: 'it returns false'. Refute it at one input. -/
def instrDecodesWrong : ChangeSpec := { name := "instrDecodes", fn := fun _ => fun
  | [d1, d2] => { results := [.lit (.bool false)], args := [d1, d2] }
  | _ => none }
def InstrDecodesWrongFalsely : Prop := instrDecodesRow.holds Try.pinned (OpenSpec.ofChange instrDecodesWrong)

/-- 'droverlaw07.InstrBack': WHATEVER THE INPUT: true; the input reads as it did. -/
def instrBackSpec : ChangeSpec := { name := "instrBack", fn := fun _ => fun
  | [d1, d2, d3] => { results := [.lit (.bool true)], args := [d1, d2, d3] }
  | _ => none }
def instrBackRow : OpenClaim := { program := "ytdjhbahiiabimaa", sum := "dd99bd62b6cc677542f202cbc77453ee34313d2915be44b0fdbc20b07301401c", func := "drover/droverlaw07.InstrBack", spec := "instrBack", inPlace := ["internal/abi.NoEscape", "internal/bytealg.MakeNoZero"], unfollowed := true, recurses := true, apart := false }
def InstrBackSaid : Prop := instrBackRow.holds Try.pinned (OpenSpec.ofChange instrBackSpec)

/-- ITS FALSE NEIGHBOUR: 'it returns false'. Refute it at one input. -/
def instrBackWrong : ChangeSpec := { name := "instrBack", fn := fun _ => fun
  | [d1, d2, d3] => { results := [.lit (.bool false)], args := [d1, d2, d3] }
  | _ => none }
def InstrBackWrongFalsely : Prop := instrBackRow.holds Try.pinned (OpenSpec.ofChange instrBackWrong)

/-- 'droverlaw07.InstrGoes': WHATEVER THE INPUT: true; the input reads as it did. -/
def instrGoesSpec : ChangeSpec := { name := "instrGoes", fn := fun _ => fun
  | [d1, d2] => { results := [.lit (.bool true)], args := [d1, d2] }
  | _ => none }
def instrGoesRow : OpenClaim := { program := "ytdjhbahiiabimaa", sum := "dd99bd62b6cc677542f202cbc77453ee34313d2915be44b0fdbc20b07301401c", func := "drover/droverlaw07.InstrGoes", spec := "instrGoes", inPlace := ["internal/abi.NoEscape", "internal/bytealg.MakeNoZero"], unfollowed := true, recurses := true, apart := false }
def InstrGoesSaid : Prop := instrGoesRow.holds Try.pinned (OpenSpec.ofChange instrGoesSpec)

/-- ITS FALSE NEIGHBOUR: 'it returns false'. Refute it at one input. -/
def instrGoesWrong : ChangeSpec := { name := "instrGoes", fn := fun _ => fun
  | [d1, d2] => { results := [.lit (.bool false)], args := [d1, d2] }
  | _ => none }
def InstrGoesWrongFalsely : Prop := instrGoesRow.holds Try.pinned (OpenSpec.ofChange instrGoesWrong)

/- THE SECOND FORM. 'bulk': how many values and letters a reading holds, each counted each time it is reached (what is shared counts as often as it is met; a slice's spare places count too). A statement '..UptoSaid' is the law's where the arguments, and the package variables that the reading takes, are together of bulk at most 1048576: NARROWER than '..Said'. Prove '..Said' where nothing that the law and all that it calls make is longer than what came in: it says more and counts as full. Else prove '..UptoSaid'. A law counts once. -/
mutual
def uptoBulk {H : Type} : DataW H → Nat
  | .lit (.string bytes) => bytes.length + 1
  | .lit _ => 1
  | .nil => 1
  | .ptr d => uptoBulk d + 1
  | .slice elems spare => uptoBulkAll elems + uptoBulkAll spare + 1
  | .agg parts => uptoBulkAll parts + 1
  | .iface _ d => uptoBulk d + 1
  | .map entries => uptoBulkEntries entries + 1
  | .held _ => 1
def uptoBulkAll {H : Type} : List (DataW H) → Nat
  | [] => 0
  | d :: r => uptoBulk d + uptoBulkAll r
def uptoBulkEntries {H : Type} : List (Lit × DataW H) → Nat
  | [] => 0
  | x :: r => uptoBulkEntry x + uptoBulkEntries r
def uptoBulkEntry {H : Type} : Lit × DataW H → Nat
  | (.string bytes, d) => bytes.length + uptoBulk d + 1
  | (_, d) => uptoBulk d + 1
 end
def uptoSmall : (H : Type) → List (DataW H) → Bool := fun _ ds => decide (uptoBulkAll ds ≤ 1048576)
def OpenSpec.upto (s : _root_.Go.ChangeSpec) : _root_.Go.OpenSpec := { _root_.Go.OpenSpec.ofChange s with cond := some uptoSmall }

/-- 'droverlaw07.InstrRight', WHERE WHAT IT READS IS OF BULK AT MOST 1048576: true; the input reads as it did. -/
def instrRightUptoRow : OpenClaim := { program := "ytdjhbahiiabimaa", sum := "dd99bd62b6cc677542f202cbc77453ee34313d2915be44b0fdbc20b07301401c", func := "drover/droverlaw07.InstrRight", spec := "instrRight", inPlace := ["internal/abi.NoEscape", "internal/bytealg.MakeNoZero"], unfollowed := true, recurses := true, apart := false, narrowed := true }
def InstrRightUptoSaid : Prop := instrRightUptoRow.holds Try.pinned (OpenSpec.upto instrRightSpec)

/-- 'droverlaw07.InstrEncodes', WHERE WHAT IT READS IS OF BULK AT MOST 1048576: true; the input reads as it did. -/
def instrEncodesUptoRow : OpenClaim := { program := "ytdjhbahiiabimaa", sum := "dd99bd62b6cc677542f202cbc77453ee34313d2915be44b0fdbc20b07301401c", func := "drover/droverlaw07.InstrEncodes", spec := "instrEncodes", inPlace := ["internal/abi.NoEscape", "internal/bytealg.MakeNoZero"], unfollowed := true, recurses := true, apart := false, narrowed := true }
def InstrEncodesUptoSaid : Prop := instrEncodesUptoRow.holds Try.pinned (OpenSpec.upto instrEncodesSpec)

/-- 'droverlaw07.InstrDecodes', WHERE WHAT IT READS IS OF BULK AT MOST 1048576: true; the input reads as it did. -/
def instrDecodesUptoRow : OpenClaim := { program := "ytdjhbahiiabimaa", sum := "dd99bd62b6cc677542f202cbc77453ee34313d2915be44b0fdbc20b07301401c", func := "drover/droverlaw07.InstrDecodes", spec := "instrDecodes", inPlace := ["internal/abi.NoEscape", "internal/bytealg.MakeNoZero"], unfollowed := true, recurses := true, apart := false, narrowed := true }
def InstrDecodesUptoSaid : Prop := instrDecodesUptoRow.holds Try.pinned (OpenSpec.upto instrDecodesSpec)

/-- 'droverlaw07.InstrBack', WHERE WHAT IT READS IS OF BULK AT MOST 1048576: true; the input reads as it did. -/
def instrBackUptoRow : OpenClaim := { program := "ytdjhbahiiabimaa", sum := "dd99bd62b6cc677542f202cbc77453ee34313d2915be44b0fdbc20b07301401c", func := "drover/droverlaw07.InstrBack", spec := "instrBack", inPlace := ["internal/abi.NoEscape", "internal/bytealg.MakeNoZero"], unfollowed := true, recurses := true, apart := false, narrowed := true }
def InstrBackUptoSaid : Prop := instrBackUptoRow.holds Try.pinned (OpenSpec.upto instrBackSpec)

/-- 'droverlaw07.InstrGoes', WHERE WHAT IT READS IS OF BULK AT MOST 1048576: true; the input reads as it did. -/
def instrGoesUptoRow : OpenClaim := { program := "ytdjhbahiiabimaa", sum := "dd99bd62b6cc677542f202cbc77453ee34313d2915be44b0fdbc20b07301401c", func := "drover/droverlaw07.InstrGoes", spec := "instrGoes", inPlace := ["internal/abi.NoEscape", "internal/bytealg.MakeNoZero"], unfollowed := true, recurses := true, apart := false, narrowed := true }
def InstrGoesUptoSaid : Prop := instrGoesUptoRow.holds Try.pinned (OpenSpec.upto instrGoesSpec)

end Rows
end Go.Proofs.Ytdjhbahiiabimaa
