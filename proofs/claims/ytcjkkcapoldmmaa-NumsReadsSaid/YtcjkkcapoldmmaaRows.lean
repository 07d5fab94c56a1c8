/-
  No cell of these rows narrows 'for every input' (looked for: loops, veiled, ifaces, maps, wideKeys, modest, calm, conditions, laid).
  DERIVED. THE GIVEN ROWS OF THIS SEAT. 5 by the template 'for every input the law returns true; each argument reads behind the call as it read before'; 0 by the template 'total and deterministic' (their statements: YtcjkkcapoldmmaaTotals.lean).
  GIVEN WITH THE SEED: the statements are not yours to turn. If you find one false, say at which input.
  Laid BY PROGRAM, IN A SANDBOX (cutbox-rows.mjs): the forced cells as the released guide's own fill.sh prints them over the translation 82e194ad3fa9590e… (all of the seat's roots in one cut). By AI agents, Wed Nov 11 2026. No macro, syntax, notation, axiom, sorry.
-/
import Derived.Test.YtcjkkcapoldmmaaChecked
import GoSem.Claim
import GoSem.ClaimJoined
import GoSem.ClaimMapViews
import Derived.JoinedTies
import Derived.KernelRfl
namespace Go.Proofs.Ytcjkkcapoldmmaa
/- THE CELL 'sum', in the pinned program and in every row, IS THE sha256 OF THE DUMP (.gsa) THAT YtcjkkcapoldmmaaProg.lean LOADS. Nothing in Lean hashes anything: it is a label: what it is worth is what the hold of that sum in a sandbox is worth. -/
noncomputable def Try.pinned : Pinned := { name := "ytcjkkcapoldmmaa", sum := "82e194ad3fa9590e07dd52ee10081e08e332e8fbfac7a31b2618b643313254f7", checked := Try.checked }
namespace Rows
def none {H : Type} : Left H := { results := [], args := [] }

/-- 'droverlaw01.NumsPuts': WHATEVER THE INPUT: true; the input reads as it did. -/
def numsPutsSpec : ChangeSpec := { name := "numsPuts", fn := fun _ => fun
  | [d1, d2] => { results := [.lit (.bool true)], args := [d1, d2] }
  | _ => none }
def numsPutsRow : OpenClaim := { program := "ytcjkkcapoldmmaa", sum := "82e194ad3fa9590e07dd52ee10081e08e332e8fbfac7a31b2618b643313254f7", func := "drover/droverlaw01.NumsPuts", spec := "numsPuts", apart := false }
def NumsPutsSaid : Prop := numsPutsRow.holds Try.pinned (OpenSpec.ofChange numsPutsSpec)

/-- ITS FALSE NEIGHBOUR: 'it returns false'. Refute it at one input. -/
def numsPutsWrong : ChangeSpec := { name := "numsPuts", fn := fun _ => fun
  | [d1, d2] => { results := [.lit (.bool false)], args := [d1, d2] }
  | _ => none }
def NumsPutsWrongFalsely : Prop := numsPutsRow.holds Try.pinned (OpenSpec.ofChange numsPutsWrong)

/-- 'droverlaw01.NumsOne': WHATEVER THE INPUT: true; the input reads as it did. -/
def numsOneSpec : ChangeSpec := { name := "numsOne", fn := fun _ => fun
  | [d1, d2] => { results := [.lit (.bool true)], args := [d1, d2] }
  | _ => none }
def numsOneRow : OpenClaim := { program := "ytcjkkcapoldmmaa", sum := "82e194ad3fa9590e07dd52ee10081e08e332e8fbfac7a31b2618b643313254f7", func := "drover/droverlaw01.NumsOne", spec := "numsOne", apart := false }
def NumsOneSaid : Prop := numsOneRow.holds Try.pinned (OpenSpec.ofChange numsOneSpec)

/-- ITS FALSE NEIGHBOUR: 'it returns false'. Refute it at one input. -/
def numsOneWrong : ChangeSpec := { name := "numsOne", fn := fun _ => fun
  | [d1, d2] => { results := [.lit (.bool false)], args := [d1, d2] }
  | _ => none }
def NumsOneWrongFalsely : Prop := numsOneRow.holds Try.pinned (OpenSpec.ofChange numsOneWrong)

/-- 'droverlaw01.NumsNil': WHATEVER THE INPUT: true; the input reads as it did. -/
def numsNilSpec : ChangeSpec := { name := "numsNil", fn := fun _ => fun
  | [d] => { results := [.lit (.bool true)], args := [d] }
  | _ => none }
def numsNilRow : OpenClaim := { program := "ytcjkkcapoldmmaa", sum := "82e194ad3fa9590e07dd52ee10081e08e332e8fbfac7a31b2618b643313254f7", func := "drover/droverlaw01.NumsNil", spec := "numsNil", apart := false }
def NumsNilSaid : Prop := numsNilRow.holds Try.pinned (OpenSpec.ofChange numsNilSpec)

/-- ITS FALSE NEIGHBOUR: 'it returns false'. Refute it at one input. -/
def numsNilWrong : ChangeSpec := { name := "numsNil", fn := fun _ => fun
  | [d] => { results := [.lit (.bool false)], args := [d] }
  | _ => none }
def NumsNilWrongFalsely : Prop := numsNilRow.holds Try.pinned (OpenSpec.ofChange numsNilWrong)

/-- 'droverlaw01.NumsReads': WHATEVER THE INPUT: true; the input reads as it did. -/
def numsReadsSpec : ChangeSpec := { name := "numsReads", fn := fun _ => fun
  | [d1, d2] => { results := [.lit (.bool true)], args := [d1, d2] }
  | _ => none }
def numsReadsRow : OpenClaim := { program := "ytcjkkcapoldmmaa", sum := "82e194ad3fa9590e07dd52ee10081e08e332e8fbfac7a31b2618b643313254f7", func := "drover/droverlaw01.NumsReads", spec := "numsReads", apart := false }
def NumsReadsSaid : Prop := numsReadsRow.holds Try.pinned (OpenSpec.ofChange numsReadsSpec)

/-- ITS FALSE NEIGHBOUR: 'it returns false'. Refute it at one input. -/
def numsReadsWrong : ChangeSpec := { name := "numsReads", fn := fun _ => fun
  | [d1, d2] => { results := [.lit (.bool false)], args := [d1, d2] }
  | _ => none }
def NumsReadsWrongFalsely : Prop := numsReadsRow.holds Try.pinned (OpenSpec.ofChange numsReadsWrong)

/-- 'droverlaw01.NumsBack': WHATEVER THE INPUT: true; the input reads as it did. -/
def numsBackSpec : ChangeSpec := { name := "numsBack", fn := fun _ => fun
  | [d1, d2, d3] => { results := [.lit (.bool true)], args := [d1, d2, d3] }
  | _ => none }
def numsBackRow : OpenClaim := { program := "ytcjkkcapoldmmaa", sum := "82e194ad3fa9590e07dd52ee10081e08e332e8fbfac7a31b2618b643313254f7", func := "drover/droverlaw01.NumsBack", spec := "numsBack", apart := false }
def NumsBackSaid : Prop := numsBackRow.holds Try.pinned (OpenSpec.ofChange numsBackSpec)

/-- ITS FALSE NEIGHBOUR: 'it returns false'. Refute it at one input. -/
def numsBackWrong : ChangeSpec := { name := "numsBack", fn := fun _ => fun
  | [d1, d2, d3] => { results := [.lit (.bool false)], args := [d1, d2, d3] }
  | _ => none }
def NumsBackWrongFalsely : Prop := numsBackRow.holds Try.pinned (OpenSpec.ofChange numsBackWrong)

/- THE SECOND FORM. 'bulk': how many values and letters a reading holds, each counted each time it is reached (what is shared counts as often as it is met; a slice's spare places count too). A statement '..UptoSaid' is the law's where the arguments, and the package variables that the reading takes, are together of bulk at most 1048576: NARROWER than '..Said'. Prove '..Said' where nothing that the law and all that it calls make is longer than what came in: it says more and counts as full. Else prove '..UptoSaid'. A law counts once. -/
mutual
def uptoBulk {H : Type} : DataW H → Nat
  | .lit (.string bytes) => bytes.length + 1
  | .lit _ => 1
  | .nil => 1
  | .ptr d => uptoBulk d + 1
  | .slice elems spare => uptoBulkAll elems + uptoBulkAll spare + 1
  | .agg parts => uptoBulkAll parts + 1
  | .iface _ d => uptoBulk d + 1
  | .map entries => uptoBulkEntries entries + 1
  | .held _ => 1
def uptoBulkAll {H : Type} : List (DataW H) → Nat
  | [] => 0
  | d :: r => uptoBulk d + uptoBulkAll r
def uptoBulkEntries {H : Type} : List (Lit × DataW H) → Nat
  | [] => 0
  | x :: r => uptoBulkEntry x + uptoBulkEntries r
def uptoBulkEntry {H : Type} : Lit × DataW H → Nat
  | (.string bytes, d) => bytes.length + uptoBulk d + 1
  | (_, d) => uptoBulk d + 1
 end
def uptoSmall : (H : Type) → List (DataW H) → Bool := fun _ ds => decide (uptoBulkAll ds ≤ 1048576)
def OpenSpec.upto (s : _root_.Go.ChangeSpec) : _root_.Go.OpenSpec := { _root_.Go.OpenSpec.ofChange s with cond := some uptoSmall }

/-- 'droverlaw01.NumsPuts', WHERE WHAT IT READS IS OF BULK AT MOST 1048576: true; the input reads as it did. -/
def numsPutsUptoRow : OpenClaim := { program := "ytcjkkcapoldmmaa", sum := "82e194ad3fa9590e07dd52ee10081e08e332e8fbfac7a31b2618b643313254f7", func := "drover/droverlaw01.NumsPuts", spec := "numsPuts", apart := false, narrowed := true }
def NumsPutsUptoSaid : Prop := numsPutsUptoRow.holds Try.pinned (OpenSpec.upto numsPutsSpec)

/-- 'droverlaw01.NumsOne', WHERE WHAT IT READS IS OF BULK AT MOST 1048576: true; the input reads as it did. -/
def numsOneUptoRow : OpenClaim := { program := "ytcjkkcapoldmmaa", sum := "82e194ad3fa9590e07dd52ee10081e08e332e8fbfac7a31b2618b643313254f7", func := "drover/droverlaw01.NumsOne", spec := "numsOne", apart := false, narrowed := true }
def NumsOneUptoSaid : Prop := numsOneUptoRow.holds Try.pinned (OpenSpec.upto numsOneSpec)

/-- 'droverlaw01.NumsNil', WHERE WHAT IT READS IS OF BULK AT MOST 1048576: true; the input reads as it did. -/
def numsNilUptoRow : OpenClaim := { program := "ytcjkkcapoldmmaa", sum := "82e194ad3fa9590e07dd52ee10081e08e332e8fbfac7a31b2618b643313254f7", func := "drover/droverlaw01.NumsNil", spec := "numsNil", apart := false, narrowed := true }
def NumsNilUptoSaid : Prop := numsNilUptoRow.holds Try.pinned (OpenSpec.upto numsNilSpec)

/-- 'droverlaw01.NumsReads', WHERE WHAT IT READS IS OF BULK AT MOST 1048576: true; the input reads as it did. -/
def numsReadsUptoRow : OpenClaim := { program := "ytcjkkcapoldmmaa", sum := "82e194ad3fa9590e07dd52ee10081e08e332e8fbfac7a31b2618b643313254f7", func := "drover/droverlaw01.NumsReads", spec := "numsReads", apart := false, narrowed := true }
def NumsReadsUptoSaid : Prop := numsReadsUptoRow.holds Try.pinned (OpenSpec.upto numsReadsSpec)

/-- 'droverlaw01.NumsBack', WHERE WHAT IT READS IS OF BULK AT MOST 1048576: true; the input reads as it did. -/
def numsBackUptoRow : OpenClaim := { program := "ytcjkkcapoldmmaa", sum := "82e194ad3fa9590e07dd52ee10081e08e332e8fbfac7a31b2618b643313254f7", func := "drover/droverlaw01.NumsBack", spec := "numsBack", apart := false, narrowed := true }
def NumsBackUptoSaid : Prop := numsBackUptoRow.holds Try.pinned (OpenSpec.upto numsBackSpec)

end Rows
end Go.Proofs.Ytcjkkcapoldmmaa
