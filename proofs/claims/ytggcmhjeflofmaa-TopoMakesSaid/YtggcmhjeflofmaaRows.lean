/-
  No cell of these rows narrows 'for every input' (looked for: loops, veiled, ifaces, maps, wideKeys, modest, calm, conditions, laid).
  DERIVED. THE GIVEN ROWS OF THIS SEAT. 7 by the template 'for every input the law returns true; each argument reads behind the call as it read before'; 0 by the template 'total and deterministic' (their statements: YtggcmhjeflofmaaTotals.lean).
  GIVEN WITH THE SEED: the statements are not yours to turn. If you find one false, say at which input.
  Laid BY PROGRAM, IN A SANDBOX (cutbox-rows.mjs): the forced cells as the released guide's own fill.sh prints them over the translation fe7c8ec227f2bc3d… (all of the seat's roots in one cut). By AI agents, Wed Nov 11 2026. No macro, syntax, notation, axiom, sorry.
-/
import Derived.Test.YtggcmhjeflofmaaChecked
import GoSem.Claim
import GoSem.ClaimJoined
import GoSem.ClaimMapViews
import Derived.JoinedTies
import Derived.KernelRfl
namespace Go.Proofs.Ytggcmhjeflofmaa
/- THE CELL 'sum', in the pinned program and in every row, IS THE sha256 OF THE DUMP (.gsa) THAT YtggcmhjeflofmaaProg.lean LOADS. Nothing in Lean hashes anything: it is a label: what it is worth is what the hold of that sum in a sandbox is worth. -/
noncomputable def Try.pinned : Pinned := { name := "ytggcmhjeflofmaa", sum := "fe7c8ec227f2bc3d00b053d8dd57fcc3ce3d40931c1eeca54937655b7cc81e25", checked := Try.checked }
namespace Rows
def none {H : Type} : Left H := { results := [], args := [] }

/-- 'droverlaw14.TopoReaches': WHATEVER THE INPUT: true; the input reads as it did. -/
def topoReachesSpec : ChangeSpec := { name := "topoReaches", fn := fun _ => fun
  | [d1, d2, d3] => { results := [.lit (.bool true)], args := [d1, d2, d3] }
  | _ => none }
def topoReachesRow : OpenClaim := { program := "ytggcmhjeflofmaa", sum := "fe7c8ec227f2bc3d00b053d8dd57fcc3ce3d40931c1eeca54937655b7cc81e25", func := "drover/droverlaw14.TopoReaches", spec := "topoReaches", recurses := true, plainKeys := false, apart := false }
def TopoReachesSaid : Prop := topoReachesRow.holds Try.pinned (OpenSpec.ofChange topoReachesSpec)

/-- ITS FALSE NEIGHBOUR: 'it returns false'. Refute it at one input. -/
def topoReachesWrong : ChangeSpec := { name := "topoReaches", fn := fun _ => fun
  | [d1, d2, d3] => { results := [.lit (.bool false)], args := [d1, d2, d3] }
  | _ => none }
def TopoReachesWrongFalsely : Prop := topoReachesRow.holds Try.pinned (OpenSpec.ofChange topoReachesWrong)

/-- 'droverlaw14.TopoBoth': WHATEVER THE INPUT: true; the input reads as it did. -/
def topoBothSpec : ChangeSpec := { name := "topoBoth", fn := fun _ => fun
  | [d1, d2, d3] => { results := [.lit (.bool true)], args := [d1, d2, d3] }
  | _ => none }
def topoBothRow : OpenClaim := { program := "ytggcmhjeflofmaa", sum := "fe7c8ec227f2bc3d00b053d8dd57fcc3ce3d40931c1eeca54937655b7cc81e25", func := "drover/droverlaw14.TopoBoth", spec := "topoBoth", recurses := true, plainKeys := false, apart := false }
def TopoBothSaid : Prop := topoBothRow.holds Try.pinned (OpenSpec.ofChange topoBothSpec)

/-- ITS FALSE NEIGHBOUR: 'it returns false'. Refute it at one input. -/
def topoBothWrong : ChangeSpec := { name := "topoBoth", fn := fun _ => fun
  | [d1, d2, d3] => { results := [.lit (.bool false)], args := [d1, d2, d3] }
  | _ => none }
def TopoBothWrongFalsely : Prop := topoBothRow.holds Try.pinned (OpenSpec.ofChange topoBothWrong)

/-- 'droverlaw14.TopoFew': WHATEVER THE INPUT: true; the input reads as it did. -/
def topoFewSpec : ChangeSpec := { name := "topoFew", fn := fun _ => fun
  | [d1, d2, d3] => { results := [.lit (.bool true)], args := [d1, d2, d3] }
  | _ => none }
def topoFewRow : OpenClaim := { program := "ytggcmhjeflofmaa", sum := "fe7c8ec227f2bc3d00b053d8dd57fcc3ce3d40931c1eeca54937655b7cc81e25", func := "drover/droverlaw14.TopoFew", spec := "topoFew", recurses := true, plainKeys := false, apart := false }
def TopoFewSaid : Prop := topoFewRow.holds Try.pinned (OpenSpec.ofChange topoFewSpec)

/-- ITS FALSE NEIGHBOUR: 'it returns false'. Refute it at one input. -/
def topoFewWrong : ChangeSpec := { name := "topoFew", fn := fun _ => fun
  | [d1, d2, d3] => { results := [.lit (.bool false)], args := [d1, d2, d3] }
  | _ => none }
def TopoFewWrongFalsely : Prop := topoFewRow.holds Try.pinned (OpenSpec.ofChange topoFewWrong)

/-- 'droverlaw14.TopoHomes': WHATEVER THE INPUT: true; the input reads as it did. -/
def topoHomesSpec : ChangeSpec := { name := "topoHomes", fn := fun _ => fun
  | [d1, d2, d3] => { results := [.lit (.bool true)], args := [d1, d2, d3] }
  | _ => none }
def topoHomesRow : OpenClaim := { program := "ytggcmhjeflofmaa", sum := "fe7c8ec227f2bc3d00b053d8dd57fcc3ce3d40931c1eeca54937655b7cc81e25", func := "drover/droverlaw14.TopoHomes", spec := "topoHomes", recurses := true, plainKeys := false, apart := false }
def TopoHomesSaid : Prop := topoHomesRow.holds Try.pinned (OpenSpec.ofChange topoHomesSpec)

/-- ITS FALSE NEIGHBOUR: 'it returns false'. Refute it at one input. -/
def topoHomesWrong : ChangeSpec := { name := "topoHomes", fn := fun _ => fun
  | [d1, d2, d3] => { results := [.lit (.bool false)], args := [d1, d2, d3] }
  | _ => none }
def TopoHomesWrongFalsely : Prop := topoHomesRow.holds Try.pinned (OpenSpec.ofChange topoHomesWrong)

/-- 'droverlaw14.TopoBack': WHATEVER THE INPUT: true; the input reads as it did. -/
def topoBackSpec : ChangeSpec := { name := "topoBack", fn := fun _ => fun
  | [d1, d2] => { results := [.lit (.bool true)], args := [d1, d2] }
  | _ => none }
def topoBackRow : OpenClaim := { program := "ytggcmhjeflofmaa", sum := "fe7c8ec227f2bc3d00b053d8dd57fcc3ce3d40931c1eeca54937655b7cc81e25", func := "drover/droverlaw14.TopoBack", spec := "topoBack", recurses := true, plainKeys := false, apart := false }
def TopoBackSaid : Prop := topoBackRow.holds Try.pinned (OpenSpec.ofChange topoBackSpec)

/-- ITS FALSE NEIGHBOUR: 'it returns false'. Refute it at one input. -/
def topoBackWrong : ChangeSpec := { name := "topoBack", fn := fun _ => fun
  | [d1, d2] => { results := [.lit (.bool false)], args := [d1, d2] }
  | _ => none }
def TopoBackWrongFalsely : Prop := topoBackRow.holds Try.pinned (OpenSpec.ofChange topoBackWrong)

/-- 'droverlaw14.TopoMakes': WHATEVER THE INPUT: true; the input reads as it did. -/
def topoMakesSpec : ChangeSpec := { name := "topoMakes", fn := fun _ => fun
  | [d1, d2, d3] => { results := [.lit (.bool true)], args := [d1, d2, d3] }
  | _ => none }
def topoMakesRow : OpenClaim := { program := "ytggcmhjeflofmaa", sum := "fe7c8ec227f2bc3d00b053d8dd57fcc3ce3d40931c1eeca54937655b7cc81e25", func := "drover/droverlaw14.TopoMakes", spec := "topoMakes", recurses := true, plainKeys := false, apart := false }
def TopoMakesSaid : Prop := topoMakesRow.holds Try.pinned (OpenSpec.ofChange topoMakesSpec)

/-- ITS FALSE NEIGHBOUR: 'it returns false'. Refute it at one input. -/
def topoMakesWrong : ChangeSpec := { name := "topoMakes", fn := fun _ => fun
  | [d1, d2, d3] => { results := [.lit (.bool false)], args := [d1, d2, d3] }
  | _ => none }
def TopoMakesWrongFalsely : Prop := topoMakesRow.holds Try.pinned (OpenSpec.ofChange topoMakesWrong)

/-- 'droverlaw14.TopoNil': WHATEVER THE INPUT: true; the input reads as it did. -/
def topoNilSpec : ChangeSpec := { name := "topoNil", fn := fun _ => fun
  | [d1, d2] => { results := [.lit (.bool true)], args := [d1, d2] }
  | _ => none }
def topoNilRow : OpenClaim := { program := "ytggcmhjeflofmaa", sum := "fe7c8ec227f2bc3d00b053d8dd57fcc3ce3d40931c1eeca54937655b7cc81e25", func := "drover/droverlaw14.TopoNil", spec := "topoNil", recurses := true, plainKeys := false, apart := false }
def TopoNilSaid : Prop := topoNilRow.holds Try.pinned (OpenSpec.ofChange topoNilSpec)

/-- ITS FALSE NEIGHBOUR: 'it returns false'. Refute it at one input. -/
def topoNilWrong : ChangeSpec := { name := "topoNil", fn := fun _ => fun
  | [d1, d2] => { results := [.lit (.bool false)], args := [d1, d2] }
  | _ => none }
def TopoNilWrongFalsely : Prop := topoNilRow.holds Try.pinned (OpenSpec.ofChange topoNilWrong)

/- THE SECOND FORM. 'bulk': how many values and letters a reading holds, each counted each time it is reached (what is shared counts as often as it is met; a slice's spare places count too). A statement '..UptoSaid' is the law's where the arguments, and the package variables that the reading takes, are together of bulk at most 1048576: NARROWER than '..Said'. Prove '..Said' where nothing that the law and all that it calls make is longer than what came in: it says more and counts as full. Else prove '..UptoSaid'. A law counts once. -/
mutual
def uptoBulk {H : Type} : DataW H → Nat
  | .lit (.string bytes) => bytes.length + 1
  | .lit _ => 1
  | .nil => 1
  | .ptr d => uptoBulk d + 1
  | .slice elems spare => uptoBulkAll elems + uptoBulkAll spare + 1
  | .agg parts => uptoBulkAll parts + 1
  | .iface _ d => uptoBulk d + 1
  | .map entries => uptoBulkEntries entries + 1
  | .held _ => 1
def uptoBulkAll {H : Type} : List (DataW H) → Nat
  | [] => 0
  | d :: r => uptoBulk d + uptoBulkAll r
def uptoBulkEntries {H : Type} : List (Lit × DataW H) → Nat
  | [] => 0
  | x :: r => uptoBulkEntry x + uptoBulkEntries r
def uptoBulkEntry {H : Type} : Lit × DataW H → Nat
  | (.string bytes, d) => bytes.length + uptoBulk d + 1
  | (_, d) => uptoBulk d + 1
 end
def uptoSmall : (H : Type) → List (DataW H) → Bool := fun _ ds => decide (uptoBulkAll ds ≤ 1048576)
def OpenSpec.upto (s : _root_.Go.ChangeSpec) : _root_.Go.OpenSpec := { _root_.Go.OpenSpec.ofChange s with cond := some uptoSmall }

/-- 'droverlaw14.TopoReaches', WHERE WHAT IT READS IS OF BULK AT MOST 1048576: true; the input reads as it did. -/
def topoReachesUptoRow : OpenClaim := { program := "ytggcmhjeflofmaa", sum := "fe7c8ec227f2bc3d00b053d8dd57fcc3ce3d40931c1eeca54937655b7cc81e25", func := "drover/droverlaw14.TopoReaches", spec := "topoReaches", recurses := true, plainKeys := false, apart := false, narrowed := true }
def TopoReachesUptoSaid : Prop := topoReachesUptoRow.holds Try.pinned (OpenSpec.upto topoReachesSpec)

/-- 'droverlaw14.TopoBoth', WHERE WHAT IT READS IS OF BULK AT MOST 1048576: true; the input reads as it did. -/
def topoBothUptoRow : OpenClaim := { program := "ytggcmhjeflofmaa", sum := "fe7c8ec227f2bc3d00b053d8dd57fcc3ce3d40931c1eeca54937655b7cc81e25", func := "drover/droverlaw14.TopoBoth", spec := "topoBoth", recurses := true, plainKeys := false, apart := false, narrowed := true }
def TopoBothUptoSaid : Prop := topoBothUptoRow.holds Try.pinned (OpenSpec.upto topoBothSpec)

/-- 'droverlaw14.TopoFew', WHERE WHAT IT READS IS OF BULK AT MOST 1048576: true; the input reads as it did. -/
def topoFewUptoRow : OpenClaim := { program := "ytggcmhjeflofmaa", sum := "fe7c8ec227f2bc3d00b053d8dd57fcc3ce3d40931c1eeca54937655b7cc81e25", func := "drover/droverlaw14.TopoFew", spec := "topoFew", recurses := true, plainKeys := false, apart := false, narrowed := true }
def TopoFewUptoSaid : Prop := topoFewUptoRow.holds Try.pinned (OpenSpec.upto topoFewSpec)

/-- 'droverlaw14.TopoHomes', WHERE WHAT IT READS IS OF BULK AT MOST 1048576: true; the input reads as it did. -/
def topoHomesUptoRow : OpenClaim := { program := "ytggcmhjeflofmaa", sum := "fe7c8ec227f2bc3d00b053d8dd57fcc3ce3d40931c1eeca54937655b7cc81e25", func := "drover/droverlaw14.TopoHomes", spec := "topoHomes", recurses := true, plainKeys := false, apart := false, narrowed := true }
def TopoHomesUptoSaid : Prop := topoHomesUptoRow.holds Try.pinned (OpenSpec.upto topoHomesSpec)

/-- 'droverlaw14.TopoBack', WHERE WHAT IT READS IS OF BULK AT MOST 1048576: true; the input reads as it did. -/
def topoBackUptoRow : OpenClaim := { program := "ytggcmhjeflofmaa", sum := "fe7c8ec227f2bc3d00b053d8dd57fcc3ce3d40931c1eeca54937655b7cc81e25", func := "drover/droverlaw14.TopoBack", spec := "topoBack", recurses := true, plainKeys := false, apart := false, narrowed := true }
def TopoBackUptoSaid : Prop := topoBackUptoRow.holds Try.pinned (OpenSpec.upto topoBackSpec)

/-- 'droverlaw14.TopoMakes', WHERE WHAT IT READS IS OF BULK AT MOST 1048576: true; the input reads as it did. -/
def topoMakesUptoRow : OpenClaim := { program := "ytggcmhjeflofmaa", sum := "fe7c8ec227f2bc3d00b053d8dd57fcc3ce3d40931c1eeca54937655b7cc81e25", func := "drover/droverlaw14.TopoMakes", spec := "topoMakes", recurses := true, plainKeys := false, apart := false, narrowed := true }
def TopoMakesUptoSaid : Prop := topoMakesUptoRow.holds Try.pinned (OpenSpec.upto topoMakesSpec)

/-- 'droverlaw14.TopoNil', WHERE WHAT IT READS IS OF BULK AT MOST 1048576: true; the input reads as it did. -/
def topoNilUptoRow : OpenClaim := { program := "ytggcmhjeflofmaa", sum := "fe7c8ec227f2bc3d00b053d8dd57fcc3ce3d40931c1eeca54937655b7cc81e25", func := "drover/droverlaw14.TopoNil", spec := "topoNil", recurses := true, plainKeys := false, apart := false, narrowed := true }
def TopoNilUptoSaid : Prop := topoNilUptoRow.holds Try.pinned (OpenSpec.upto topoNilSpec)

end Rows
end Go.Proofs.Ytggcmhjeflofmaa
