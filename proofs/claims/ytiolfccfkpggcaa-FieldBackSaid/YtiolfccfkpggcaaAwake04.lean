/- The chapter's examples. -/
import Derived.Test.YtiolfccfkpggcaaFieldGet
namespace Go.Proofs.Ytiolfccfkpggcaa
open Go.RowKit
set_option linter.unusedVariables false

set_option maxRecDepth 100000 in
theorem awake04 (w : World) : Calls Try.prog 13 #[] w fun x w' => x = .returned (.bool true) ∧ Below w.heap.size w w' := by
  have HG := Lib.hid (fun W => Get_any W ⟨0, 0, ⟨0, 0, 0, 34997, 0, 0, 0, 0, 0, 0, ByteArray.empty⟩⟩ 5 (by decide) (by decide))
  have e : getF ⟨0, 0, ⟨0, 0, 0, 34997, 0, 0, 0, 0, 0, 0, ByteArray.empty⟩⟩ 5 = (0, 20) := rfl
  rw [e] at HG
  clear e
  have HW := Lib.hid (fun W => Width_any W 3)
  rw [widthF_3] at HW
  go_enter Try.func13, Try.ntmps13
  go_wp2_with fail
  refine (HG.out _).mono ?_
  rintro x w1 ⟨rfl, b1⟩
  go_wp2_with fail
  refine (HW.out _).mono ?_
  rintro x w2 ⟨rfl, rfl⟩
  go_wp2
  go_ret
  exact ⟨rfl, b1⟩

end Go.Proofs.Ytiolfccfkpggcaa
