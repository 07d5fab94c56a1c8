/- What is wrong with tests: the plain law, and the bits in it. -/
import Derived.Test.YtaaadbmhcfjooaaMatchB2
import Derived.Laws.Bits64b
namespace Go.Proofs.Ytaaadbmhcfjooaa
open Go.RowKit
set_option linter.unusedVariables false

theorem nat_andNot (a b : Nat) (ha : a < 2 ^ 64) (hb : b < 2 ^ 64) : (a &&& (18446744073709551615 - b) = 0) ↔ (a &&& b = a) := by
  have e : (18446744073709551615 - b) = 2 ^ 64 - (b + 1) := by omega
  rw [e]
  constructor
  · intro h
    apply Nat.eq_of_testBit_eq
    intro i
    have h2 := congrArg (fun x => x.testBit i) h
    simp only [Nat.testBit_and, Nat.zero_testBit, Nat.testBit_two_pow_sub_succ hb] at h2
    rw [Nat.testBit_and]
    by_cases hi : i < 64
    · simp only [hi, decide_true, Bool.true_and] at h2
      cases ha' : a.testBit i <;> cases hb' : b.testBit i <;> simp_all
    · have : a.testBit i = false := Nat.testBit_lt_two_pow (Nat.lt_of_lt_of_le ha (Nat.pow_le_pow_right (by decide) (by omega)))
      rw [this]; rfl
  · intro h
    apply Nat.eq_of_testBit_eq
    intro i
    have h2 := congrArg (fun x => x.testBit i) h
    simp only [Nat.testBit_and] at h2
    simp only [Nat.testBit_and, Nat.zero_testBit, Nat.testBit_two_pow_sub_succ hb]
    cases ha' : a.testBit i <;> cases hb' : b.testBit i <;> simp_all
/-- A number of 64 bits. -/
def U64 (n : Int) : Prop := 0 ≤ n ∧ n ≤ 18446744073709551615
theorem andNot_iff {a b : Int} (ha : U64 a) (hb : U64 b) : (bits .andNot .u64 a b = 0) ↔ (bits .and .u64 a b = a) := by
  obtain ⟨h1, h2⟩ := ha
  obtain ⟨h3, h4⟩ := hb
  rw [u64_andNot a b h1 (by omega) h3 (by omega), u64_and a b h1 (by omega) h3 (by omega)]
  have := nat_andNot a.toNat b.toNat (by omega) (by omega)
  omega
theorem greatF_U64 (f : Int) : U64 (greatF f) := by
  unfold U64
  rcases fcases f with rfl | rfl | rfl | rfl | rfl | rfl | rfl | rfl | rfl | ⟨_, _, _, _, _, _, _, _, _, h⟩
  case inr.inr.inr.inr.inr.inr.inr.inr.inr =>
    have hg : greatF f = 0 := by unfold greatF; rw [widthF_none h]; rfl
    rw [hg]; decide
  all_goals decide
def okT (t : Test) : Prop := U64 t.fValue ∧ U64 t.fMask

/-- Is anything wrong with a test behind others but its field? -/
def badT (ahead : List Test) (last : Int) (t : Test) : Bool :=
  decide (t.fField ≤ last) || t.fMask == 0 || !(bits .andNot .u64 t.fMask (greatF t.fField) == 0) || !(bits .andNot .u64 t.fValue t.fMask == 0) || !(basedF ahead t.fField)
/-- What is wrong with a test behind others. -/
def rightC (ahead : List Test) (last : Int) (t : Test) : Int := if widthF t.fField = 0 then 20 else if badT ahead last t then 21 else 0
def rightFrom (ahead : List Test) (last : Int) : List Test → Int
  | [] => 0
  | t :: ts => if rightC ahead last t = 0 then rightFrom (ahead ++ [t]) t.fField ts else rightC ahead last t
/-- What is wrong with tests. -/
def rightF (l : List Test) : Int := rightFrom [] 0 l
/-- The field of the test ahead of place k; 0: there is none. -/
def lastF (l : List Test) (k : Nat) : Int := if h : 0 < k ∧ k ≤ l.length then (l[k - 1]'(by omega)).fField else 0
theorem lastF_succ (l : List Test) (k : Nat) (hk : k < l.length) : lastF l (k + 1) = l[k].fField := by
  unfold lastF
  rw [dif_pos ⟨by omega, by omega⟩]
  rfl
/-- All is right with the first k of them. -/
def SoFar (l : List Test) (k : Nat) : Prop := rightF l = rightFrom (l.take k) (lastF l k) (l.drop k)
theorem SoFar.start (l : List Test) : SoFar l 0 := by
  unfold SoFar rightF lastF
  simp
theorem SoFar.next {l : List Test} {k : Nat} (h : SoFar l k) (hk : k < l.length) (h0 : rightC (l.take k) (lastF l k) l[k] = 0) : SoFar l (k + 1) := by
  unfold SoFar at *
  rw [h, List.drop_eq_getElem_cons hk, rightFrom, if_pos h0, lastF_succ l k hk, List.take_succ_eq_append_getElem hk]
theorem SoFar.stop {l : List Test} {k : Nat} (h : SoFar l k) (hk : k < l.length) (h0 : rightC (l.take k) (lastF l k) l[k] ≠ 0) : rightF l = rightC (l.take k) (lastF l k) l[k] := by
  unfold SoFar at h
  rw [h, List.drop_eq_getElem_cons hk, rightFrom, if_neg h0]
theorem SoFar.all {l : List Test} {k : Nat} (h : SoFar l k) (hk : l.length ≤ k) : rightF l = 0 := by
  unfold SoFar at h
  rw [h, List.drop_eq_nil_of_le hk, rightFrom]
theorem rightC_none {ahead : List Test} {last : Int} {t : Test} (h : widthF t.fField = 0) : rightC ahead last t = 20 := by unfold rightC; rw [if_pos h]
theorem rightC_bad {ahead : List Test} {last : Int} {t : Test} (h : widthF t.fField ≠ 0) (hb : badT ahead last t = true) : rightC ahead last t = 21 := by unfold rightC; rw [if_neg h, if_pos hb]
theorem rightC_good {ahead : List Test} {last : Int} {t : Test} (h : widthF t.fField ≠ 0) (hb : badT ahead last t = false) : rightC ahead last t = 0 := by unfold rightC; rw [if_neg h, hb]; rfl
end Go.Proofs.Ytaaadbmhcfjooaa
