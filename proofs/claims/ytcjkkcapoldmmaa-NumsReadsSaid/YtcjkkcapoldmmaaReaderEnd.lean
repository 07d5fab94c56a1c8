/- The walk of nums' Reader.End. -/
import Derived.Test.YtcjkkcapoldmmaaReader
namespace Go.Proofs.Ytcjkkcapoldmmaa
open Go.RowKit
set_option linter.unusedVariables false
theorem toList_ne {s : ByteArray} (h : s.size ≠ 0) : s.toList ≠ [] := by
  intro e
  apply h
  rw [ByteArray.toList_eq] at e
  rw [← size_data, e]; rfl
theorem End_any (w : World) (g : Nat) (s : ByteArray) (e : Int) (hr : RdAt w g s e) :
    Calls Try.prog 14 #[.pointer (some ⟨g, 0, none⟩)] w fun x w' => x = .returned (.int .i64 (endR s e)) ∧ w = w' := by
  have hc0 := hr.cell 0 (.string s) rfl
  have hc1 := hr.cell 1 (.int .i64 e) rfl
  clear hr
  by_cases he : e = 0
  · subst he
    by_cases hz : s.size = 0
    · obtain rfl : s = ⟨#[]⟩ := by
        have := ByteArray.size_eq_zero_iff.mp hz
        exact this
      clear hz
      go_enter Try.func14, Try.ntmps14
      go_wp2
      go_ret
      exact ⟨rfl, rfl⟩
    · have hfin : endR s 0 = 12 := by simp [endR, hz]
      rw [hfin]
      have hl : s.toList ≠ [] := toList_ne hz
      have hl1 : s.toList.isEmpty = false := by simpa using hl
      clear hfin hz
      go_enter Try.func14, Try.ntmps14
      go_wp2
      go_ret
      exact ⟨rfl, rfl⟩
  · have hfin : endR s e = e := by simp [endR, he]
    rw [hfin]
    have he' : (e == 0) = false := beq_eq_false_iff_ne.mpr he
    clear he hfin
    go_enter Try.func14, Try.ntmps14
    go_wp2
    go_ret
    exact ⟨rfl, rfl⟩

theorem End_nil (w : World) :
    Calls Try.prog 14 #[.pointer none] w fun x w' => x = .returned (.int .i64 2) ∧ w = w' := by
  go_enter Try.func14, Try.ntmps14
  go_wp2
  go_ret
  exact ⟨rfl, rfl⟩

theorem Read_any (w : World) (s : ByteArray) :
    Calls Try.prog 15 #[.string s] w fun x w' => ∃ g, x = .returned (.pointer (some ⟨g, 0, none⟩)) ∧ w.heap.size ≤ g ∧ RdAt w' g s 0 ∧ Below w.heap.size w w' := by
  go_enter Try.func15, Try.ntmps15
  go_wp2
  go_ret
  exact ⟨_, rfl, Nat.le_refl _, BlkAt.new _ _ _, (Below.refl _ _).alloc (Nat.le_refl _) _⟩
end Go.Proofs.Ytcjkkcapoldmmaa
