/- A new reader. -/
import Derived.Test.YtdjhbahiiabimaaReaderNum
namespace Go.Proofs.Ytdjhbahiiabimaa
open Go.RowKit
set_option linter.unusedVariables false

theorem Read_any (w : World) (s : ByteArray) :
    Calls Try.prog 41 #[.string s] w fun x w' => ∃ g, x = .returned (.pointer (some ⟨g, 0, none⟩)) ∧ w.heap.size ≤ g ∧ RdAt w' g s 0 ∧ Below w.heap.size w w' := by
  go_enter Try.func41, Try.ntmps41
  go_wp2
  go_ret
  exact ⟨_, rfl, Nat.le_refl _, BlkAt.new _ _ _, (Below.refl _ _).alloc (Nat.le_refl _) _⟩
end Go.Proofs.Ytdjhbahiiabimaa
