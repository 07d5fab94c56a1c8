/-
  No cell of these rows narrows 'for every input' (looked for: loops, veiled, ifaces, maps, wideKeys, modest, calm, conditions, laid).
  DERIVED. THE GIVEN ROWS OF THIS SEAT. 6 by the template 'for every input the law returns true; each argument reads behind the call as it read before'; 0 by the template 'total and deterministic' (their statements: YtnemolbppebmkaaTotals.lean).
  GIVEN WITH THE SEED: the statements are not yours to turn. If you find one false, say at which input.
  Laid BY PROGRAM, IN A SANDBOX (cutbox-rows.mjs): the forced cells as the released guide's own fill.sh prints them over the translation 87a604b1e5ec7ecc… (all of the seat's roots in one cut). By AI agents, Wed Nov 11 2026. No macro, syntax, notation, axiom, sorry.
-/
import Derived.Test.YtnemolbppebmkaaChecked
import GoSem.Claim
import GoSem.ClaimJoined
import GoSem.ClaimMapViews
import Derived.JoinedTies
import Derived.KernelRfl
namespace Go.Proofs.Ytnemolbppebmkaa
/- THE CELL 'sum', in the pinned program and in every row, IS THE sha256 OF THE DUMP (.gsa) THAT YtnemolbppebmkaaProg.lean LOADS. Nothing in Lean hashes anything: it is a label: what it is worth is what the hold of that sum in a sandbox is worth. -/
noncomputable def Try.pinned : Pinned := { name := "ytnemolbppebmkaa", sum := "87a604b1e5ec7eccd66aee3d89845bd0678610d13a28782d0ff63b79cf1e87c7", checked := Try.checked }
namespace Rows
def none {H : Type} : Left H := { results := [], args := [] }

/-- 'droverlaw09.MeterPlays': WHATEVER THE INPUT: true; the input reads as it did. -/
def meterPlaysSpec : ChangeSpec := { name := "meterPlays", fn := fun _ => fun
  | [d1, d2, d3] => { results := [.lit (.bool true)], args := [d1, d2, d3] }
  | _ => none }
def meterPlaysRow : OpenClaim := { program := "ytnemolbppebmkaa", sum := "87a604b1e5ec7eccd66aee3d89845bd0678610d13a28782d0ff63b79cf1e87c7", func := "drover/droverlaw09.MeterPlays", spec := "meterPlays", apart := false }
def MeterPlaysSaid : Prop := meterPlaysRow.holds Try.pinned (OpenSpec.ofChange meterPlaysSpec)

/-- ITS FALSE NEIGHBOUR: 'it returns false'. Refute it at one input. -/
def meterPlaysWrong : ChangeSpec := { name := "meterPlays", fn := fun _ => fun
  | [d1, d2, d3] => { results := [.lit (.bool false)], args := [d1, d2, d3] }
  | _ => none }
def MeterPlaysWrongFalsely : Prop := meterPlaysRow.holds Try.pinned (OpenSpec.ofChange meterPlaysWrong)

/-- 'droverlaw09.MeterBounds': WHATEVER THE INPUT: true; the input reads as it did. -/
def meterBoundsSpec : ChangeSpec := { name := "meterBounds", fn := fun _ => fun
  | [d1, d2, d3] => { results := [.lit (.bool true)], args := [d1, d2, d3] }
  | _ => none }
def meterBoundsRow : OpenClaim := { program := "ytnemolbppebmkaa", sum := "87a604b1e5ec7eccd66aee3d89845bd0678610d13a28782d0ff63b79cf1e87c7", func := "drover/droverlaw09.MeterBounds", spec := "meterBounds", apart := false }
def MeterBoundsSaid : Prop := meterBoundsRow.holds Try.pinned (OpenSpec.ofChange meterBoundsSpec)

/-- ITS FALSE NEIGHBOUR: 'it returns false'. Refute it at one input. -/
def meterBoundsWrong : ChangeSpec := { name := "meterBounds", fn := fun _ => fun
  | [d1, d2, d3] => { results := [.lit (.bool false)], args := [d1, d2, d3] }
  | _ => none }
def MeterBoundsWrongFalsely : Prop := meterBoundsRow.holds Try.pinned (OpenSpec.ofChange meterBoundsWrong)

/-- 'droverlaw09.MeterFair': WHATEVER THE INPUT: true; the input reads as it did. -/
def meterFairSpec : ChangeSpec := { name := "meterFair", fn := fun _ => fun
  | [d1, d2, d3] => { results := [.lit (.bool true)], args := [d1, d2, d3] }
  | _ => none }
def meterFairRow : OpenClaim := { program := "ytnemolbppebmkaa", sum := "87a604b1e5ec7eccd66aee3d89845bd0678610d13a28782d0ff63b79cf1e87c7", func := "drover/droverlaw09.MeterFair", spec := "meterFair", apart := false }
def MeterFairSaid : Prop := meterFairRow.holds Try.pinned (OpenSpec.ofChange meterFairSpec)

/-- ITS FALSE NEIGHBOUR: 'it returns false'. Refute it at one input. -/
def meterFairWrong : ChangeSpec := { name := "meterFair", fn := fun _ => fun
  | [d1, d2, d3] => { results := [.lit (.bool false)], args := [d1, d2, d3] }
  | _ => none }
def MeterFairWrongFalsely : Prop := meterFairRow.holds Try.pinned (OpenSpec.ofChange meterFairWrong)

/-- 'droverlaw09.MeterNil': WHATEVER THE INPUT: true; the input reads as it did. -/
def meterNilSpec : ChangeSpec := { name := "meterNil", fn := fun _ => fun
  | [d] => { results := [.lit (.bool true)], args := [d] }
  | _ => none }
def meterNilRow : OpenClaim := { program := "ytnemolbppebmkaa", sum := "87a604b1e5ec7eccd66aee3d89845bd0678610d13a28782d0ff63b79cf1e87c7", func := "drover/droverlaw09.MeterNil", spec := "meterNil", apart := false }
def MeterNilSaid : Prop := meterNilRow.holds Try.pinned (OpenSpec.ofChange meterNilSpec)

/-- ITS FALSE NEIGHBOUR: 'it returns false'. Refute it at one input. -/
def meterNilWrong : ChangeSpec := { name := "meterNil", fn := fun _ => fun
  | [d] => { results := [.lit (.bool false)], args := [d] }
  | _ => none }
def MeterNilWrongFalsely : Prop := meterNilRow.holds Try.pinned (OpenSpec.ofChange meterNilWrong)

/-- 'droverlaw09.MeterFull': WHATEVER THE INPUT: true; the input reads as it did. -/
def meterFullSpec : ChangeSpec := { name := "meterFull", fn := fun _ => fun
  | [d1, d2, d3] => { results := [.lit (.bool true)], args := [d1, d2, d3] }
  | _ => none }
def meterFullRow : OpenClaim := { program := "ytnemolbppebmkaa", sum := "87a604b1e5ec7eccd66aee3d89845bd0678610d13a28782d0ff63b79cf1e87c7", func := "drover/droverlaw09.MeterFull", spec := "meterFull", apart := false }
def MeterFullSaid : Prop := meterFullRow.holds Try.pinned (OpenSpec.ofChange meterFullSpec)

/-- ITS FALSE NEIGHBOUR: 'it returns false'. Refute it at one input. -/
def meterFullWrong : ChangeSpec := { name := "meterFull", fn := fun _ => fun
  | [d1, d2, d3] => { results := [.lit (.bool false)], args := [d1, d2, d3] }
  | _ => none }
def MeterFullWrongFalsely : Prop := meterFullRow.holds Try.pinned (OpenSpec.ofChange meterFullWrong)

/-- 'droverlaw09.MeterTakes': WHATEVER THE INPUT: true; the input reads as it did. -/
def meterTakesSpec : ChangeSpec := { name := "meterTakes", fn := fun _ => fun
  | [d1, d2] => { results := [.lit (.bool true)], args := [d1, d2] }
  | _ => none }
def meterTakesRow : OpenClaim := { program := "ytnemolbppebmkaa", sum := "87a604b1e5ec7eccd66aee3d89845bd0678610d13a28782d0ff63b79cf1e87c7", func := "drover/droverlaw09.MeterTakes", spec := "meterTakes", apart := false }
def MeterTakesSaid : Prop := meterTakesRow.holds Try.pinned (OpenSpec.ofChange meterTakesSpec)

/-- ITS FALSE NEIGHBOUR: 'it returns false'. Refute it at one input. -/
def meterTakesWrong : ChangeSpec := { name := "meterTakes", fn := fun _ => fun
  | [d1, d2] => { results := [.lit (.bool false)], args := [d1, d2] }
  | _ => none }
def MeterTakesWrongFalsely : Prop := meterTakesRow.holds Try.pinned (OpenSpec.ofChange meterTakesWrong)

/- THE SECOND FORM. 'bulk': how many values and letters a reading holds, each counted each time it is reached (what is shared counts as often as it is met; a slice's spare places count too). A statement '..UptoSaid' is the law's where the arguments, and the package variables that the reading takes, are together of bulk at most 1048576: NARROWER than '..Said'. Prove '..Said' where nothing that the law and all that it calls make is longer than what came in: it says more and counts as full. Else prove '..UptoSaid'. A law counts once. -/
mutual
def uptoBulk {H : Type} : DataW H → Nat
  | .lit (.string bytes) => bytes.length + 1
  | .lit _ => 1
  | .nil => 1
  | .ptr d => uptoBulk d + 1
  | .slice elems spare => uptoBulkAll elems + uptoBulkAll spare + 1
  | .agg parts => uptoBulkAll parts + 1
  | .iface _ d => uptoBulk d + 1
  | .map entries => uptoBulkEntries entries + 1
  | .held _ => 1
def uptoBulkAll {H : Type} : List (DataW H) → Nat
  | [] => 0
  | d :: r => uptoBulk d + uptoBulkAll r
def uptoBulkEntries {H : Type} : List (Lit × DataW H) → Nat
  | [] => 0
  | x :: r => uptoBulkEntry x + uptoBulkEntries r
def uptoBulkEntry {H : Type} : Lit × DataW H → Nat
  | (.string bytes, d) => bytes.length + uptoBulk d + 1
  | (_, d) => uptoBulk d + 1
 end
def uptoSmall : (H : Type) → List (DataW H) → Bool := fun _ ds => decide (uptoBulkAll ds ≤ 1048576)
def OpenSpec.upto (s : _root_.Go.ChangeSpec) : _root_.Go.OpenSpec := { _root_.Go.OpenSpec.ofChange s with cond := some uptoSmall }

/-- 'droverlaw09.MeterPlays', WHERE WHAT IT READS IS OF BULK AT MOST 1048576: true; the input reads as it did. -/
def meterPlaysUptoRow : OpenClaim := { program := "ytnemolbppebmkaa", sum := "87a604b1e5ec7eccd66aee3d89845bd0678610d13a28782d0ff63b79cf1e87c7", func := "drover/droverlaw09.MeterPlays", spec := "meterPlays", apart := false, narrowed := true }
def MeterPlaysUptoSaid : Prop := meterPlaysUptoRow.holds Try.pinned (OpenSpec.upto meterPlaysSpec)

/-- 'droverlaw09.MeterBounds', WHERE WHAT IT READS IS OF BULK AT MOST 1048576: true; the input reads as it did. -/
def meterBoundsUptoRow : OpenClaim := { program := "ytnemolbppebmkaa", sum := "87a604b1e5ec7eccd66aee3d89845bd0678610d13a28782d0ff63b79cf1e87c7", func := "drover/droverlaw09.MeterBounds", spec := "meterBounds", apart := false, narrowed := true }
def MeterBoundsUptoSaid : Prop := meterBoundsUptoRow.holds Try.pinned (OpenSpec.upto meterBoundsSpec)

/-- 'droverlaw09.MeterFair', WHERE WHAT IT READS IS OF BULK AT MOST 1048576: true; the input reads as it did. -/
def meterFairUptoRow : OpenClaim := { program := "ytnemolbppebmkaa", sum := "87a604b1e5ec7eccd66aee3d89845bd0678610d13a28782d0ff63b79cf1e87c7", func := "drover/droverlaw09.MeterFair", spec := "meterFair", apart := false, narrowed := true }
def MeterFairUptoSaid : Prop := meterFairUptoRow.holds Try.pinned (OpenSpec.upto meterFairSpec)

/-- 'droverlaw09.MeterNil', WHERE WHAT IT READS IS OF BULK AT MOST 1048576: true; the input reads as it did. -/
def meterNilUptoRow : OpenClaim := { program := "ytnemolbppebmkaa", sum := "87a604b1e5ec7eccd66aee3d89845bd0678610d13a28782d0ff63b79cf1e87c7", func := "drover/droverlaw09.MeterNil", spec := "meterNil", apart := false, narrowed := true }
def MeterNilUptoSaid : Prop := meterNilUptoRow.holds Try.pinned (OpenSpec.upto meterNilSpec)

/-- 'droverlaw09.MeterFull', WHERE WHAT IT READS IS OF BULK AT MOST 1048576: true; the input reads as it did. -/
def meterFullUptoRow : OpenClaim := { program := "ytnemolbppebmkaa", sum := "87a604b1e5ec7eccd66aee3d89845bd0678610d13a28782d0ff63b79cf1e87c7", func := "drover/droverlaw09.MeterFull", spec := "meterFull", apart := false, narrowed := true }
def MeterFullUptoSaid : Prop := meterFullUptoRow.holds Try.pinned (OpenSpec.upto meterFullSpec)

/-- 'droverlaw09.MeterTakes', WHERE WHAT IT READS IS OF BULK AT MOST 1048576: true; the input reads as it did. -/
def meterTakesUptoRow : OpenClaim := { program := "ytnemolbppebmkaa", sum := "87a604b1e5ec7eccd66aee3d89845bd0678610d13a28782d0ff63b79cf1e87c7", func := "drover/droverlaw09.MeterTakes", spec := "meterTakes", apart := false, narrowed := true }
def MeterTakesUptoSaid : Prop := meterTakesUptoRow.holds Try.pinned (OpenSpec.upto meterTakesSpec)

end Rows
end Go.Proofs.Ytnemolbppebmkaa
