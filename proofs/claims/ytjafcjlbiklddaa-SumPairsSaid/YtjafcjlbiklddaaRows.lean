/-
  No cell of these rows narrows 'for every input' (looked for: loops, veiled, ifaces, maps, wideKeys, modest, calm, conditions, laid).
  DERIVED. THE GIVEN ROWS OF THIS SEAT. 5 by the template 'for every input the law returns true; each argument reads behind the call as it read before'; 0 by the template 'total and deterministic' (their statements: YtjafcjlbiklddaaTotals.lean).
  GIVEN WITH THE SEED: the statements are not yours to turn. If you find one false, say at which input.
  Laid BY PROGRAM, IN A SANDBOX (cutbox-rows.mjs): the forced cells as the released guide's own fill.sh prints them over the translation ee6360a654e22bd8… (all of the seat's roots in one cut). By AI agents, Wed Nov 11 2026. No macro, syntax, notation, axiom, sorry.
-/
import Derived.Test.YtjafcjlbiklddaaChecked
import GoSem.Claim
import GoSem.ClaimJoined
import GoSem.ClaimMapViews
import Derived.JoinedTies
import Derived.KernelRfl
namespace Go.Proofs.Ytjafcjlbiklddaa
/- THE CELL 'sum', in the pinned program and in every row, IS THE sha256 OF THE DUMP (.gsa) THAT YtjafcjlbiklddaaProg.lean LOADS. Nothing in Lean hashes anything: it is a label: what it is worth is what the hold of that sum in a sandbox is worth. -/
noncomputable def Try.pinned : Pinned := { name := "ytjafcjlbiklddaa", sum := "ee6360a654e22bd8960f26445349dfee5dbc83d451615828b5709b2231776231", checked := Try.checked }
namespace Rows
def none {H : Type} : Left H := { results := [], args := [] }

/-- 'droverlaw02.SumPairs': WHATEVER THE INPUT: true; the input reads as it did. -/
def sumPairsSpec : ChangeSpec := { name := "sumPairs", fn := fun _ => fun
  | [d] => { results := [.lit (.bool true)], args := [d] }
  | _ => none }
def sumPairsRow : OpenClaim := { program := "ytjafcjlbiklddaa", sum := "ee6360a654e22bd8960f26445349dfee5dbc83d451615828b5709b2231776231", func := "drover/droverlaw02.SumPairs", spec := "sumPairs", apart := false }
def SumPairsSaid : Prop := sumPairsRow.holds Try.pinned (OpenSpec.ofChange sumPairsSpec)

/-- ITS FALSE NEIGHBOUR: 'it returns false'. Refute it at one input. -/
def sumPairsWrong : ChangeSpec := { name := "sumPairs", fn := fun _ => fun
  | [d] => { results := [.lit (.bool false)], args := [d] }
  | _ => none }
def SumPairsWrongFalsely : Prop := sumPairsRow.holds Try.pinned (OpenSpec.ofChange sumPairsWrong)

/-- 'droverlaw02.SumSums': WHATEVER THE INPUT: true; the input reads as it did. -/
def sumSumsSpec : ChangeSpec := { name := "sumSums", fn := fun _ => fun
  | [d] => { results := [.lit (.bool true)], args := [d] }
  | _ => none }
def sumSumsRow : OpenClaim := { program := "ytjafcjlbiklddaa", sum := "ee6360a654e22bd8960f26445349dfee5dbc83d451615828b5709b2231776231", func := "drover/droverlaw02.SumSums", spec := "sumSums", apart := false }
def SumSumsSaid : Prop := sumSumsRow.holds Try.pinned (OpenSpec.ofChange sumSumsSpec)

/-- ITS FALSE NEIGHBOUR: 'it returns false'. Refute it at one input. -/
def sumSumsWrong : ChangeSpec := { name := "sumSums", fn := fun _ => fun
  | [d] => { results := [.lit (.bool false)], args := [d] }
  | _ => none }
def SumSumsWrongFalsely : Prop := sumSumsRow.holds Try.pinned (OpenSpec.ofChange sumSumsWrong)

/-- 'droverlaw02.SumRight': WHATEVER THE INPUT: true; the input reads as it did. -/
def sumRightSpec : ChangeSpec := { name := "sumRight", fn := fun _ => fun
  | [d] => { results := [.lit (.bool true)], args := [d] }
  | _ => none }
def sumRightRow : OpenClaim := { program := "ytjafcjlbiklddaa", sum := "ee6360a654e22bd8960f26445349dfee5dbc83d451615828b5709b2231776231", func := "drover/droverlaw02.SumRight", spec := "sumRight", apart := false }
def SumRightSaid : Prop := sumRightRow.holds Try.pinned (OpenSpec.ofChange sumRightSpec)

/-- ITS FALSE NEIGHBOUR: 'it returns false'. Refute it at one input. -/
def sumRightWrong : ChangeSpec := { name := "sumRight", fn := fun _ => fun
  | [d] => { results := [.lit (.bool false)], args := [d] }
  | _ => none }
def SumRightWrongFalsely : Prop := sumRightRow.holds Try.pinned (OpenSpec.ofChange sumRightWrong)

/-- 'droverlaw02.SumJoins': WHATEVER THE INPUT: true; the input reads as it did. -/
def sumJoinsSpec : ChangeSpec := { name := "sumJoins", fn := fun _ => fun
  | [d1, d2, d3] => { results := [.lit (.bool true)], args := [d1, d2, d3] }
  | _ => none }
def sumJoinsRow : OpenClaim := { program := "ytjafcjlbiklddaa", sum := "ee6360a654e22bd8960f26445349dfee5dbc83d451615828b5709b2231776231", func := "drover/droverlaw02.SumJoins", spec := "sumJoins", apart := false }
def SumJoinsSaid : Prop := sumJoinsRow.holds Try.pinned (OpenSpec.ofChange sumJoinsSpec)

/-- ITS FALSE NEIGHBOUR: 'it returns false'. Refute it at one input. -/
def sumJoinsWrong : ChangeSpec := { name := "sumJoins", fn := fun _ => fun
  | [d1, d2, d3] => { results := [.lit (.bool false)], args := [d1, d2, d3] }
  | _ => none }
def SumJoinsWrongFalsely : Prop := sumJoinsRow.holds Try.pinned (OpenSpec.ofChange sumJoinsWrong)

/-- 'droverlaw02.SumBoth': WHATEVER THE INPUT: true; the input reads as it did. -/
def sumBothSpec : ChangeSpec := { name := "sumBoth", fn := fun _ => fun
  | [d1, d2] => { results := [.lit (.bool true)], args := [d1, d2] }
  | _ => none }
def sumBothRow : OpenClaim := { program := "ytjafcjlbiklddaa", sum := "ee6360a654e22bd8960f26445349dfee5dbc83d451615828b5709b2231776231", func := "drover/droverlaw02.SumBoth", spec := "sumBoth", apart := false }
def SumBothSaid : Prop := sumBothRow.holds Try.pinned (OpenSpec.ofChange sumBothSpec)

/-- ITS FALSE NEIGHBOUR: 'it returns false'. Refute it at one input. -/
def sumBothWrong : ChangeSpec := { name := "sumBoth", fn := fun _ => fun
  | [d1, d2] => { results := [.lit (.bool false)], args := [d1, d2] }
  | _ => none }
def SumBothWrongFalsely : Prop := sumBothRow.holds Try.pinned (OpenSpec.ofChange sumBothWrong)

/- THE SECOND FORM. 'bulk': how many values and letters a reading holds, each counted each time it is reached (what is shared counts as often as it is met; a slice's spare places count too). A statement '..UptoSaid' is the law's where the arguments, and the package variables that the reading takes, are together of bulk at most 1048576: NARROWER than '..Said'. Prove '..Said' where nothing that the law and all that it calls make is longer than what came in: it says more and counts as full. Else prove '..UptoSaid'. A law counts once. -/
mutual
def uptoBulk {H : Type} : DataW H → Nat
  | .lit (.string bytes) => bytes.length + 1
  | .lit _ => 1
  | .nil => 1
  | .ptr d => uptoBulk d + 1
  | .slice elems spare => uptoBulkAll elems + uptoBulkAll spare + 1
  | .agg parts => uptoBulkAll parts + 1
  | .iface _ d => uptoBulk d + 1
  | .map entries => uptoBulkEntries entries + 1
  | .held _ => 1
def uptoBulkAll {H : Type} : List (DataW H) → Nat
  | [] => 0
  | d :: r => uptoBulk d + uptoBulkAll r
def uptoBulkEntries {H : Type} : List (Lit × DataW H) → Nat
  | [] => 0
  | x :: r => uptoBulkEntry x + uptoBulkEntries r
def uptoBulkEntry {H : Type} : Lit × DataW H → Nat
  | (.string bytes, d) => bytes.length + uptoBulk d + 1
  | (_, d) => uptoBulk d + 1
 end
def uptoSmall : (H : Type) → List (DataW H) → Bool := fun _ ds => decide (uptoBulkAll ds ≤ 1048576)
def OpenSpec.upto (s : _root_.Go.ChangeSpec) : _root_.Go.OpenSpec := { _root_.Go.OpenSpec.ofChange s with cond := some uptoSmall }

/-- 'droverlaw02.SumPairs', WHERE WHAT IT READS IS OF BULK AT MOST 1048576: true; the input reads as it did. -/
def sumPairsUptoRow : OpenClaim := { program := "ytjafcjlbiklddaa", sum := "ee6360a654e22bd8960f26445349dfee5dbc83d451615828b5709b2231776231", func := "drover/droverlaw02.SumPairs", spec := "sumPairs", apart := false, narrowed := true }
def SumPairsUptoSaid : Prop := sumPairsUptoRow.holds Try.pinned (OpenSpec.upto sumPairsSpec)

/-- 'droverlaw02.SumSums', WHERE WHAT IT READS IS OF BULK AT MOST 1048576: true; the input reads as it did. -/
def sumSumsUptoRow : OpenClaim := { program := "ytjafcjlbiklddaa", sum := "ee6360a654e22bd8960f26445349dfee5dbc83d451615828b5709b2231776231", func := "drover/droverlaw02.SumSums", spec := "sumSums", apart := false, narrowed := true }
def SumSumsUptoSaid : Prop := sumSumsUptoRow.holds Try.pinned (OpenSpec.upto sumSumsSpec)

/-- 'droverlaw02.SumRight', WHERE WHAT IT READS IS OF BULK AT MOST 1048576: true; the input reads as it did. -/
def sumRightUptoRow : OpenClaim := { program := "ytjafcjlbiklddaa", sum := "ee6360a654e22bd8960f26445349dfee5dbc83d451615828b5709b2231776231", func := "drover/droverlaw02.SumRight", spec := "sumRight", apart := false, narrowed := true }
def SumRightUptoSaid : Prop := sumRightUptoRow.holds Try.pinned (OpenSpec.upto sumRightSpec)

/-- 'droverlaw02.SumJoins', WHERE WHAT IT READS IS OF BULK AT MOST 1048576: true; the input reads as it did. -/
def sumJoinsUptoRow : OpenClaim := { program := "ytjafcjlbiklddaa", sum := "ee6360a654e22bd8960f26445349dfee5dbc83d451615828b5709b2231776231", func := "drover/droverlaw02.SumJoins", spec := "sumJoins", apart := false, narrowed := true }
def SumJoinsUptoSaid : Prop := sumJoinsUptoRow.holds Try.pinned (OpenSpec.upto sumJoinsSpec)

/-- 'droverlaw02.SumBoth', WHERE WHAT IT READS IS OF BULK AT MOST 1048576: true; the input reads as it did. -/
def sumBothUptoRow : OpenClaim := { program := "ytjafcjlbiklddaa", sum := "ee6360a654e22bd8960f26445349dfee5dbc83d451615828b5709b2231776231", func := "drover/droverlaw02.SumBoth", spec := "sumBoth", apart := false, narrowed := true }
def SumBothUptoSaid : Prop := sumBothUptoRow.holds Try.pinned (OpenSpec.upto sumBothSpec)

end Rows
end Go.Proofs.Ytjafcjlbiklddaa
