/- droverref06's code and size. -/
import Derived.Test.YtdjhbahiiabimaaRefA
namespace Go.Proofs.Ytdjhbahiiabimaa
open Go.RowKit
set_option linter.unusedVariables false
set_option linter.unusedSimpArgs false

set_option maxRecDepth 100000 in
set_option maxHeartbeats 4000000 in
theorem r6code_any (w : World) (f : Int) : Calls Try.prog 52 #[.int .i64 f] w fun x w' => x = .returned (.int .i64 (codeF f).1) ∧ w = w' := by
  by_cases h : f = 3 ∨ f = 5 ∨ f = 6 ∨ f = 8 ∨ f = 9
  · rcases h with rfl | rfl | rfl | rfl | rfl
    all_goals
      go_enter Try.func52, Try.ntmps52
      go_wp2_with fail
      go_ret
      exact ⟨rfl, rfl⟩
  · have e : codeF f = (0, 0) := by unfold codeF; simp only [not_or] at h; obtain ⟨a, b, c, d, e⟩ := h; simp [a, b, c, d, e]
    rw [e]
    have h3 : (f == 3) = false := by simp; omega
    have h5 : (f == 5) = false := by simp; omega
    have h6 : (f == 6) = false := by simp; omega
    have h8 : (f == 8) = false := by simp; omega
    have h9 : (f == 9) = false := by simp; omega
    clear e h
    go_enter Try.func52, Try.ntmps52
    go_wp2_with fail
    go_ret
    exact ⟨rfl, rfl⟩
/-- How many bytes a field's value is. -/
def size6 (f : Int) : Int := if f = 5 ∨ f = 6 then 4 else 2
set_option maxRecDepth 100000 in
set_option maxHeartbeats 4000000 in
theorem r6size_any (w : World) (f : Int) : Calls Try.prog 53 #[.int .i64 f] w fun x w' => x = .returned (.int .i64 (size6 f)) ∧ w = w' := by
  by_cases h : f = 5 ∨ f = 6
  · rcases h with rfl | rfl
    all_goals
      go_enter Try.func53, Try.ntmps53
      go_wp2_with fail
      go_ret
      exact ⟨rfl, rfl⟩
  · have e : size6 f = 2 := by unfold size6; rw [if_neg h]
    rw [e]
    have h5 : (f == 5) = false := by simp; omega
    have h6 : (f == 6) = false := by simp; omega
    clear e h
    go_enter Try.func53, Try.ntmps53
    go_wp2_with fail
    go_ret
    exact ⟨rfl, rfl⟩
end Go.Proofs.Ytdjhbahiiabimaa
