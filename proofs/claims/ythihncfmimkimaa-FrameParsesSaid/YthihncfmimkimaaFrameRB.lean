/- The reference's at, behind, part, head. -/
import Derived.Test.YthihncfmimkimaaFrameRA
namespace Go.Proofs.Ythihncfmimkimaa
open Go.RowKit
set_option linter.unusedVariables false
set_option linter.unusedSimpArgs false

set_option maxRecDepth 100000 in
set_option maxHeartbeats 2000000 in
theorem at_any (w : World) (l : List UInt8) (i n : Nat) (hi : i + n ≤ 64) (hl : l.length ≤ 1000000) :
    Calls Try.prog 41 #[.string (str l), .int .i64 i, .int .i64 n] w fun x w' => x = .returned (.string (str (atL l i n))) ∧ Below w.heap.size w w' := by
  have hz := zeros_str 64 w
  have hm : (Instr.makeSlice 35 (.int .i64 64) (.int .i64 64)).run Try.prog w = .ok (.slice (some ⟨w.heap.size, 0, none⟩) 64 64) (w.alloc (.cells (zerosA 64) 5)) := put_make w 64 (by decide)
  have HB := Lib.hid ((Below.refl w.heap.size w).alloc (Nat.le_refl _) (.cells (zerosA 64) 5))
  have hlz : (List.replicate 64 (0 : UInt8)).length = 64 := List.length_replicate
  have HR : Hid (str (atL l i n) = (str (l ++ List.replicate 64 0)).extract i (i + n)) := Lib.hid (by rw [str_extract]; unfold atL; rw [Nat.add_sub_cancel_left])
  generalize atL l i n = R at *
  generalize List.replicate 64 (0 : UInt8) = zz at *
  have t1 : decide ((l.length : Int) + 64 < (i : Int) + (n : Int)) = false := by simp; omega
  have e1 : ((i : Int) + (n : Int)) = ((i + n : Nat) : Int) := by omega
  have t2 : (i : Int) ≤ (l.length : Int) + 64 := by omega
  have t3 : (i : Int) + (n : Int) ≤ (l.length : Int) + 64 := by omega
  have e2 : ((i : Int) + (n : Int)).toNat = i + n := by omega
  clear e1
  go_enter Try.func41, Try.ntmps41
  go_wp2_with fail
  go_ret
  exact ⟨ret_str HR.out.symm, HB.out⟩
theorem behind_any (w : World) (l : List UInt8) (i : Nat) (hi : i ≤ 1000) (hl : l.length ≤ 1000000) :
    Calls Try.prog 42 #[.string (str l), .int .i64 i] w fun x w' => x = .returned (.string (str (l.drop i))) ∧ w = w' := by
  by_cases h : l.length < i
  · have t1 : decide (l.length < i) = true := decide_eq_true h
    have HR : Hid (l.drop i = []) := Lib.hid (List.drop_eq_nil_of_le (by omega))
    clear h
    go_enter Try.func42, Try.ntmps42
    go_wp2_with fail
    go_ret
    exact ⟨ret_str (by rw [HR.out]; rfl), rfl⟩
  · have t1 : decide (l.length < i) = false := decide_eq_false h
    have t4 : i ≤ l.length := by omega
    have t2 : (i : Int) ≤ (l.length : Int) := by omega
    have HR : Hid ((str l).extract i l.length = str (l.drop i)) := Lib.hid (by rw [str_extract, List.take_of_length_le (by rw [List.length_drop]; omega)])
    clear h
    go_enter Try.func42, Try.ntmps42
    go_wp2_with fail
    go_ret
    exact ⟨ret_str HR.out, rfl⟩
end Go.Proofs.Ythihncfmimkimaa
