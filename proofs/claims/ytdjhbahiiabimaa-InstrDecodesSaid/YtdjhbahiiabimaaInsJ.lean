/- The chapter's examples: plain. -/
import Derived.Test.YtdjhbahiiabimaaInsH
namespace Go.Proofs.Ytdjhbahiiabimaa
open Go.RowKit
set_option linter.unusedVariables false
set_option linter.unusedSimpArgs false

theorem enc2_awake : encR ⟨0, 0, .slice none 0 0, [], .slice none 0 0, [], .slice none 0 0, [], false, 0, 0, 0, 2⟩ = ([0, 1, 0, 8, 2, 0, 0, 0], 0) := by kernel_rfl
theorem dec2_awake : decI 2 9 ⟨#[0, 1, 0, 8, 2, 0, 0, 0]⟩ noPart 0 = (noPart, 23) := by kernel_rfl
theorem enc0 (a : Int) (h : ¬ (a < 0 ∨ 7 < a)) : encR ⟨a, 0, .slice none 0 0, [], .slice none 0 0, [], .slice none 0 0, [], false, 0, 0, 0, 0⟩ = ([], 0) := by
  have h1 : rightE ⟨a, 0, .slice none 0 0, [], .slice none 0 0, [], .slice none 0 0, [], false, 0, 0, 0, 0⟩ = 0 := by
    have e1 : (decide (a < 0) || decide (7 < a)) = false := by simp; omega
    have e2 : (actEnc []).2 = 0 := by kernel_rfl
    have e3 : metaBad 0 0 = false := by kernel_rfl
    unfold rightE
    simp only [e1, e2, e3]
    simp [gotoBad]
  unfold encR
  rw [if_pos h1]
  rfl
theorem enc0_bad (a : Int) (h : a < 0 ∨ 7 < a) : encR ⟨a, 0, .slice none 0 0, [], .slice none 0 0, [], .slice none 0 0, [], false, 0, 0, 0, 0⟩ = ([], 26) := by
  have h1 : rightE ⟨a, 0, .slice none 0 0, [], .slice none 0 0, [], .slice none 0 0, [], false, 0, 0, 0, 0⟩ = 26 := by
    have e1 : (decide (a < 0) || decide (7 < a)) = true := by simpa using h
    unfold rightE
    simp only [e1]
    rfl
  unfold encR
  rw [h1]
  rfl
theorem rightE_bad (a b : Int) (h : a < 0 ∨ 7 < a) : rightE ⟨a, 0, .slice none 0 0, [], .slice none 0 0, [], .slice none 0 0, [], false, 0, 0, 0, b⟩ = 26 := by
  have e1 : (decide (a < 0) || decide (7 < a)) = true := by simpa using h
  unfold rightE
  simp only [e1]
  rfl
theorem rightE_go (a b : Int) (h : ¬ (a < 0 ∨ 7 < a)) : rightE ⟨a, 0, .slice none 0 0, [], .slice none 0 0, [], .slice none 0 0, [], false, 0, 0, 0, b⟩ = if b = 0 ∨ a < b ∧ b ≤ 7 then 0 else 23 := by
  have e1 : (decide (a < 0) || decide (7 < a)) = false := by simp; omega
  have e2 : (actEnc []).2 = 0 := by kernel_rfl
  have e3 : metaBad 0 0 = false := by kernel_rfl
  by_cases hg : b = 0 ∨ a < b ∧ b ≤ 7
  · have e4 : gotoBad a b = false := by
      unfold gotoBad
      rcases hg with rfl | hg
      · rfl
      · have h1 : decide (b ≤ a) = false := decide_eq_false (by omega)
        have h2 : decide (7 < b) = false := decide_eq_false (by omega)
        rw [h1, h2]; simp
    rw [if_pos hg]
    unfold rightE
    simp only [e1, e2, e3, e4]
    rfl
  · have e4 : gotoBad a b = true := by
      unfold gotoBad
      have h0 : (b != 0) = true := by simp; omega
      rw [h0]
      simp
      omega
    rw [if_neg hg]
    unfold rightE
    simp only [e1, e2, e3, e4]
    rfl
theorem ok_goto (w : World) (a b : Int) : EntOk w ⟨a, 0, .slice none 0 0, [], .slice none 0 0, [], .slice none 0 0, [], false, 0, 0, 0, b⟩ :=
  ⟨ReadL.nil _ _ _, ReadL.nil _ _ _, by simp, by simp, by simp, by simp, by simp, by simp⟩
end Go.Proofs.Ytdjhbahiiabimaa
