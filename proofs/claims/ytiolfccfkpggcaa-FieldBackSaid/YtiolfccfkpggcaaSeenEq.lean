/- Two packets in a switch compared. -/
import Derived.Test.YtiolfccfkpggcaaTSeen
import Derived.Laws.StructEq
namespace Go.Proofs.Ytiolfccfkpggcaa
open Go.RowKit
set_option linter.unusedVariables false

set_option maxRecDepth 100000 in
theorem eq_rSeen (s : Seen) (W : World) : (binOp .eql 32 (valSeen s) (valSeen s)).run Try.prog W = .ok (.bool true) W := by
  have h1 : Try.prog.stoodInHeld 32 = false := by kernel_rfl
  have h2 : Try.prog.stoodInHeld 25 = false := by kernel_rfl
  simp [go_sem, Try.underlying32, Try.underlying25, Try.underlying3, Try.underlying22, Try.underlying23, Try.underlying9, h1, h2]
end Go.Proofs.Ytiolfccfkpggcaa
