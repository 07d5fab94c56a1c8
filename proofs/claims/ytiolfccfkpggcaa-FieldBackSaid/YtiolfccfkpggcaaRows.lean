/-
  No cell of these rows narrows 'for every input' (looked for: loops, veiled, ifaces, maps, wideKeys, modest, calm, conditions, laid).
  DERIVED. THE GIVEN ROWS OF THIS SEAT. 5 by the template 'for every input the law returns true; each argument reads behind the call as it read before'; 0 by the template 'total and deterministic' (their statements: YtiolfccfkpggcaaTotals.lean).
  GIVEN WITH THE SEED: the statements are not yours to turn. If you find one false, say at which input.
  Laid BY PROGRAM, IN A SANDBOX (cutbox-rows.mjs): the forced cells as the released guide's own fill.sh prints them over the translation 2b00feba690397d8… (all of the seat's roots in one cut). By AI agents, Wed Nov 11 2026. No macro, syntax, notation, axiom, sorry.
-/
import Derived.Test.YtiolfccfkpggcaaChecked
import GoSem.Claim
import GoSem.ClaimJoined
import GoSem.ClaimMapViews
import Derived.JoinedTies
import Derived.KernelRfl
namespace Go.Proofs.Ytiolfccfkpggcaa
/- THE CELL 'sum', in the pinned program and in every row, IS THE sha256 OF THE DUMP (.gsa) THAT YtiolfccfkpggcaaProg.lean LOADS. Nothing in Lean hashes anything: it is a label: what it is worth is what the hold of that sum in a sandbox is worth. -/
noncomputable def Try.pinned : Pinned := { name := "ytiolfccfkpggcaa", sum := "2b00feba690397d8507ff5bd1f590e48c804c275acdfaea1d6cb6cffb75aa3e6", checked := Try.checked }
namespace Rows
def none {H : Type} : Left H := { results := [], args := [] }

/-- 'droverlaw04.FieldGets': WHATEVER THE INPUT: true; the input reads as it did. -/
def fieldGetsSpec : ChangeSpec := { name := "fieldGets", fn := fun _ => fun
  | [d1, d2] => { results := [.lit (.bool true)], args := [d1, d2] }
  | _ => none }
def fieldGetsRow : OpenClaim := { program := "ytiolfccfkpggcaa", sum := "2b00feba690397d8507ff5bd1f590e48c804c275acdfaea1d6cb6cffb75aa3e6", func := "drover/droverlaw04.FieldGets", spec := "fieldGets", apart := false }
def FieldGetsSaid : Prop := fieldGetsRow.holds Try.pinned (OpenSpec.ofChange fieldGetsSpec)

/-- ITS FALSE NEIGHBOUR: 'it returns false'. Refute it at one input. -/
def fieldGetsWrong : ChangeSpec := { name := "fieldGets", fn := fun _ => fun
  | [d1, d2] => { results := [.lit (.bool false)], args := [d1, d2] }
  | _ => none }
def FieldGetsWrongFalsely : Prop := fieldGetsRow.holds Try.pinned (OpenSpec.ofChange fieldGetsWrong)

/-- 'droverlaw04.FieldValues': WHATEVER THE INPUT: true; the input reads as it did. -/
def fieldValuesSpec : ChangeSpec := { name := "fieldValues", fn := fun _ => fun
  | [d] => { results := [.lit (.bool true)], args := [d] }
  | _ => none }
def fieldValuesRow : OpenClaim := { program := "ytiolfccfkpggcaa", sum := "2b00feba690397d8507ff5bd1f590e48c804c275acdfaea1d6cb6cffb75aa3e6", func := "drover/droverlaw04.FieldValues", spec := "fieldValues", apart := false }
def FieldValuesSaid : Prop := fieldValuesRow.holds Try.pinned (OpenSpec.ofChange fieldValuesSpec)

/-- ITS FALSE NEIGHBOUR: 'it returns false'. Refute it at one input. -/
def fieldValuesWrong : ChangeSpec := { name := "fieldValues", fn := fun _ => fun
  | [d] => { results := [.lit (.bool false)], args := [d] }
  | _ => none }
def FieldValuesWrongFalsely : Prop := fieldValuesRow.holds Try.pinned (OpenSpec.ofChange fieldValuesWrong)

/-- 'droverlaw04.FieldTags': WHATEVER THE INPUT: true; the input reads as it did. -/
def fieldTagsSpec : ChangeSpec := { name := "fieldTags", fn := fun _ => fun
  | [d1, d2] => { results := [.lit (.bool true)], args := [d1, d2] }
  | _ => none }
def fieldTagsRow : OpenClaim := { program := "ytiolfccfkpggcaa", sum := "2b00feba690397d8507ff5bd1f590e48c804c275acdfaea1d6cb6cffb75aa3e6", func := "drover/droverlaw04.FieldTags", spec := "fieldTags", apart := false }
def FieldTagsSaid : Prop := fieldTagsRow.holds Try.pinned (OpenSpec.ofChange fieldTagsSpec)

/-- ITS FALSE NEIGHBOUR: 'it returns false'. Refute it at one input. -/
def fieldTagsWrong : ChangeSpec := { name := "fieldTags", fn := fun _ => fun
  | [d1, d2] => { results := [.lit (.bool false)], args := [d1, d2] }
  | _ => none }
def FieldTagsWrongFalsely : Prop := fieldTagsRow.holds Try.pinned (OpenSpec.ofChange fieldTagsWrong)

/-- 'droverlaw04.FieldPuts': WHATEVER THE INPUT: true; the input reads as it did. -/
def fieldPutsSpec : ChangeSpec := { name := "fieldPuts", fn := fun _ => fun
  | [d1, d2, d3] => { results := [.lit (.bool true)], args := [d1, d2, d3] }
  | _ => none }
def fieldPutsRow : OpenClaim := { program := "ytiolfccfkpggcaa", sum := "2b00feba690397d8507ff5bd1f590e48c804c275acdfaea1d6cb6cffb75aa3e6", func := "drover/droverlaw04.FieldPuts", spec := "fieldPuts", apart := false }
def FieldPutsSaid : Prop := fieldPutsRow.holds Try.pinned (OpenSpec.ofChange fieldPutsSpec)

/-- ITS FALSE NEIGHBOUR: 'it returns false'. Refute it at one input. -/
def fieldPutsWrong : ChangeSpec := { name := "fieldPuts", fn := fun _ => fun
  | [d1, d2, d3] => { results := [.lit (.bool false)], args := [d1, d2, d3] }
  | _ => none }
def FieldPutsWrongFalsely : Prop := fieldPutsRow.holds Try.pinned (OpenSpec.ofChange fieldPutsWrong)

/-- 'droverlaw04.FieldBack': WHATEVER THE INPUT: true; the input reads as it did. -/
def fieldBackSpec : ChangeSpec := { name := "fieldBack", fn := fun _ => fun
  | [d1, d2, d3] => { results := [.lit (.bool true)], args := [d1, d2, d3] }
  | _ => none }
def fieldBackRow : OpenClaim := { program := "ytiolfccfkpggcaa", sum := "2b00feba690397d8507ff5bd1f590e48c804c275acdfaea1d6cb6cffb75aa3e6", func := "drover/droverlaw04.FieldBack", spec := "fieldBack", apart := false }
def FieldBackSaid : Prop := fieldBackRow.holds Try.pinned (OpenSpec.ofChange fieldBackSpec)

/-- ITS FALSE NEIGHBOUR: 'it returns false'. Refute it at one input. -/
def fieldBackWrong : ChangeSpec := { name := "fieldBack", fn := fun _ => fun
  | [d1, d2, d3] => { results := [.lit (.bool false)], args := [d1, d2, d3] }
  | _ => none }
def FieldBackWrongFalsely : Prop := fieldBackRow.holds Try.pinned (OpenSpec.ofChange fieldBackWrong)

/- THE SECOND FORM. 'bulk': how many values and letters a reading holds, each counted each time it is reached (what is shared counts as often as it is met; a slice's spare places count too). A statement '..UptoSaid' is the law's where the arguments, and the package variables that the reading takes, are together of bulk at most 1048576: NARROWER than '..Said'. Prove '..Said' where nothing that the law and all that it calls make is longer than what came in: it says more and counts as full. Else prove '..UptoSaid'. A law counts once. -/
mutual
def uptoBulk {H : Type} : DataW H → Nat
  | .lit (.string bytes) => bytes.length + 1
  | .lit _ => 1
  | .nil => 1
  | .ptr d => uptoBulk d + 1
  | .slice elems spare => uptoBulkAll elems + uptoBulkAll spare + 1
  | .agg parts => uptoBulkAll parts + 1
  | .iface _ d => uptoBulk d + 1
  | .map entries => uptoBulkEntries entries + 1
  | .held _ => 1
def uptoBulkAll {H : Type} : List (DataW H) → Nat
  | [] => 0
  | d :: r => uptoBulk d + uptoBulkAll r
def uptoBulkEntries {H : Type} : List (Lit × DataW H) → Nat
  | [] => 0
  | x :: r => uptoBulkEntry x + uptoBulkEntries r
def uptoBulkEntry {H : Type} : Lit × DataW H → Nat
  | (.string bytes, d) => bytes.length + uptoBulk d + 1
  | (_, d) => uptoBulk d + 1
 end
def uptoSmall : (H : Type) → List (DataW H) → Bool := fun _ ds => decide (uptoBulkAll ds ≤ 1048576)
def OpenSpec.upto (s : _root_.Go.ChangeSpec) : _root_.Go.OpenSpec := { _root_.Go.OpenSpec.ofChange s with cond := some uptoSmall }

/-- 'droverlaw04.FieldGets', WHERE WHAT IT READS IS OF BULK AT MOST 1048576: true; the input reads as it did. -/
def fieldGetsUptoRow : OpenClaim := { program := "ytiolfccfkpggcaa", sum := "2b00feba690397d8507ff5bd1f590e48c804c275acdfaea1d6cb6cffb75aa3e6", func := "drover/droverlaw04.FieldGets", spec := "fieldGets", apart := false, narrowed := true }
def FieldGetsUptoSaid : Prop := fieldGetsUptoRow.holds Try.pinned (OpenSpec.upto fieldGetsSpec)

/-- 'droverlaw04.FieldValues', WHERE WHAT IT READS IS OF BULK AT MOST 1048576: true; the input reads as it did. -/
def fieldValuesUptoRow : OpenClaim := { program := "ytiolfccfkpggcaa", sum := "2b00feba690397d8507ff5bd1f590e48c804c275acdfaea1d6cb6cffb75aa3e6", func := "drover/droverlaw04.FieldValues", spec := "fieldValues", apart := false, narrowed := true }
def FieldValuesUptoSaid : Prop := fieldValuesUptoRow.holds Try.pinned (OpenSpec.upto fieldValuesSpec)

/-- 'droverlaw04.FieldTags', WHERE WHAT IT READS IS OF BULK AT MOST 1048576: true; the input reads as it did. -/
def fieldTagsUptoRow : OpenClaim := { program := "ytiolfccfkpggcaa", sum := "2b00feba690397d8507ff5bd1f590e48c804c275acdfaea1d6cb6cffb75aa3e6", func := "drover/droverlaw04.FieldTags", spec := "fieldTags", apart := false, narrowed := true }
def FieldTagsUptoSaid : Prop := fieldTagsUptoRow.holds Try.pinned (OpenSpec.upto fieldTagsSpec)

/-- 'droverlaw04.FieldPuts', WHERE WHAT IT READS IS OF BULK AT MOST 1048576: true; the input reads as it did. -/
def fieldPutsUptoRow : OpenClaim := { program := "ytiolfccfkpggcaa", sum := "2b00feba690397d8507ff5bd1f590e48c804c275acdfaea1d6cb6cffb75aa3e6", func := "drover/droverlaw04.FieldPuts", spec := "fieldPuts", apart := false, narrowed := true }
def FieldPutsUptoSaid : Prop := fieldPutsUptoRow.holds Try.pinned (OpenSpec.upto fieldPutsSpec)

/-- 'droverlaw04.FieldBack', WHERE WHAT IT READS IS OF BULK AT MOST 1048576: true; the input reads as it did. -/
def fieldBackUptoRow : OpenClaim := { program := "ytiolfccfkpggcaa", sum := "2b00feba690397d8507ff5bd1f590e48c804c275acdfaea1d6cb6cffb75aa3e6", func := "drover/droverlaw04.FieldBack", spec := "fieldBack", apart := false, narrowed := true }
def FieldBackUptoSaid : Prop := fieldBackUptoRow.holds Try.pinned (OpenSpec.upto fieldBackSpec)

end Rows
end Go.Proofs.Ytiolfccfkpggcaa
