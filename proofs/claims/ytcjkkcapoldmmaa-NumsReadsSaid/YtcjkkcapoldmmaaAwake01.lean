/- The chapter's examples of layer 1: the walk of awake. -/
import Derived.Test.YtcjkkcapoldmmaaPut
namespace Go.Proofs.Ytcjkkcapoldmmaa
open Go.RowKit
set_option linter.unusedVariables false

theorem putEx1 : putR 258 3 = ([0, 1, 2], 0) := by decide
theorem putEx2 : putR 256 1 = ([], 1) := by decide

set_option maxRecDepth 100000 in
theorem awake01 (w : World) : Calls Try.prog 10 #[] w fun x w' => x = .returned (.bool true) ∧ Below w.heap.size w w' := by
  have H1 := Lib.hid (fun w => Put_any w 258 3 (by decide) (by decide))
  have H2 := Lib.hid (fun w => Put_any w 256 1 (by decide) (by decide))
  rw [putEx1] at H1
  rw [putEx2] at H2
  go_enter Try.func10, Try.ntmps10
  go_wp2_with fail
  refine (H1.out _).mono ?_
  rintro e w1 ⟨rfl, h1⟩
  go_wp2_with fail
  refine (H2.out _).mono ?_
  rintro e w2 ⟨rfl, h2⟩
  go_wp2
  go_ret
  exact ⟨rfl, h1.trans (h2.mono h1.size)⟩
end Go.Proofs.Ytcjkkcapoldmmaa
