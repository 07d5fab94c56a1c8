/- May a link be? -/
import Derived.Test.YtggcmhjeflofmaaTLink
import Derived.Test.YtggcmhjeflofmaaTopoA
import Derived.Test.YtggcmhjeflofmaaHeldG
import Derived.Test.YtggcmhjeflofmaaQuiet2
import Derived.Deep.Cut
import Derived.Deep.DeepCutAuto
import Derived.Outline
namespace Go.Proofs.Ytggcmhjeflofmaa
open Go.RowKit Go.Maps
set_option linter.unusedVariables false
set_option linter.unusedSimpArgs false

def ordF (a b : Nat) : Option Ordering := FloatKind.f64.format.order a b
def geF (a b : Nat) : Bool := ordF a b == some .gt || ordF a b == some .eq
def leF (a b : Nat) : Bool := ordF a b == some .lt || ordF a b == some .eq
theorem run_ge (w : World) (t : TypeId) (a b : Nat) : (binOp .geq t (.float .f64 a) (.float .f64 b)).run Try.prog w = .ok (.bool (geF a b)) w := by
  simp [binOp, Op.floatCmp, geF, ordF]
theorem run_le (w : World) (t : TypeId) (a b : Nat) : (binOp .leq t (.float .f64 a) (.float .f64 b)).run Try.prog w = .ok (.bool (leF a b)) w := by
  simp [binOp, Op.floatCmp, leF, ordF]
def costOk (c : Nat) : Bool := geF c 0 && leF c 4741671816366391296
def rightL (x : Link) (size : Int) : Bool := (decide (1 ≤ x.fA ∧ x.fA ≤ size ∧ 1 ≤ x.fPortA ∧ x.fPortA ≤ 16) && costOk x.fCost) &&
  (if x.fB < 0 then decide (-64 ≤ x.fB ∧ x.fPortB = 0) else decide (x.fB ≠ 0 ∧ x.fB ≤ size ∧ x.fB ≠ x.fA ∧ 1 ≤ x.fPortB ∧ x.fPortB ≤ 16))
theorem rbool {a b : Bool} (h : a = b) : Ending.returned (.bool a) = .returned (.bool b) := by rw [h]

set_option maxRecDepth 100000 in
set_option maxHeartbeats 8000000 in
theorem right_any (w : World) (x : Link) (size : Int) : Calls Try.prog 28 #[valLink x, .int .i64 size] w fun e w' => e = .returned (.bool (rightL x size)) ∧ Below w.heap.size w w' := by
  obtain ⟨a, pa, b, pb, c⟩ := x
  have HR : Hid (rightL ⟨a, pa, b, pb, c⟩ size = ((decide (1 ≤ a ∧ a ≤ size ∧ 1 ≤ pa ∧ pa ≤ 16) && (geF c 0 && leF c 4741671816366391296)) && (if b < 0 then decide (-64 ≤ b ∧ pb = 0) else decide (b ≠ 0 ∧ b ≤ size ∧ b ≠ a ∧ 1 ≤ pb ∧ pb ≤ 16)))) := Lib.hid rfl
  generalize rightL ⟨a, pa, b, pb, c⟩ size = R at *
  by_cases hG : FloatKind.f64.format.order c 0 = some .gt ∨ FloatKind.f64.format.order c 0 = some .eq
  case neg =>
    simp only [not_or] at hG
    have g1 : (FloatKind.f64.format.order c 0 == some Ordering.gt) = false := by simpa using hG.1
    have g2 : (FloatKind.f64.format.order c 0 == some Ordering.eq) = false := by simpa using hG.2
    have e : R = false := by rw [HR.out]; simp [geF, ordF, g1, g2]
    subst e
    clear HR hG
    go_enter Try.func28, Try.ntmps28
    go_upto_region 1 with fail
    refine one_box_wp ?_
    intro W hb1 hbel hsz
    have K : Hid (KR w.heap.size w [(w.heap.size, 52, #[.int .i64 a, .int .i64 pa, .int .i64 b, .int .i64 pb, .float .f64 c])] W) := Lib.hid ((KR.start hbel hbel.size).add hb1)
    clear hb1 hbel hsz
    have c0 := (K.out.at 0 rfl).cell 0 _ rfl
    have c1 := (K.out.at 0 rfl).cell 1 _ rfl
    have c2 := (K.out.at 0 rfl).cell 2 _ rfl
    have c3 := (K.out.at 0 rfl).cell 3 _ rfl
    have c4 := (K.out.at 0 rfl).cell 4 _ rfl
    go_wp2_with fail
    all_goals first | (exfalso; omega) | (go_ret; exact ⟨rfl, K.out.below⟩)
  have hG1 : geF c 0 = true := by rcases hG with h | h <;> simp [geF, ordF, h]
  by_cases hL : FloatKind.f64.format.order c 4741671816366391296 = some .lt ∨ FloatKind.f64.format.order c 4741671816366391296 = some .eq
  case neg =>
    simp only [not_or] at hL
    have g1 : (FloatKind.f64.format.order c 4741671816366391296 == some Ordering.lt) = false := by simpa using hL.1
    have g2 : (FloatKind.f64.format.order c 4741671816366391296 == some Ordering.eq) = false := by simpa using hL.2
    have e : R = false := by rw [HR.out]; simp [leF, ordF, g1, g2]
    subst e
    clear HR hL hG1
    rcases hG with hG | hG
    all_goals
      go_enter Try.func28, Try.ntmps28
      go_upto_region 1 with fail
      refine one_box_wp ?_
      intro W hb1 hbel hsz
      have K : Hid (KR w.heap.size w [(w.heap.size, 52, #[.int .i64 a, .int .i64 pa, .int .i64 b, .int .i64 pb, .float .f64 c])] W) := Lib.hid ((KR.start hbel hbel.size).add hb1)
      clear hb1 hbel hsz
      have c0 := (K.out.at 0 rfl).cell 0 _ rfl
      have c1 := (K.out.at 0 rfl).cell 1 _ rfl
      have c2 := (K.out.at 0 rfl).cell 2 _ rfl
      have c3 := (K.out.at 0 rfl).cell 3 _ rfl
      have c4 := (K.out.at 0 rfl).cell 4 _ rfl
      go_wp2_with fail
      all_goals first | (exfalso; omega) | (go_ret; exact ⟨rfl, K.out.below⟩)
  have hL1 : leF c 4741671816366391296 = true := by rcases hL with h | h <;> simp [leF, ordF, h]
  rw [hG1, hL1] at HR
  simp only [Bool.and_true] at HR
  clear hG1 hL1
  by_cases hb : b < 0
  · replace HR : Hid (R = decide ((1 ≤ a ∧ a ≤ size ∧ 1 ≤ pa ∧ pa ≤ 16) ∧ (-64 ≤ b ∧ pb = 0))) := Lib.hid (by rw [HR.out, if_pos hb]; simp [Bool.decide_and])
    rcases hG with hG | hG <;> rcases hL with hL | hL
    all_goals
      go_enter Try.func28, Try.ntmps28
      go_upto_region 1 with fail
      refine one_box_wp ?_
      intro W hb1 hbel hsz
      have K : Hid (KR w.heap.size w [(w.heap.size, 52, #[.int .i64 a, .int .i64 pa, .int .i64 b, .int .i64 pb, .float .f64 c])] W) := Lib.hid ((KR.start hbel hbel.size).add hb1)
      clear hb1 hbel hsz
      have c0 := (K.out.at 0 rfl).cell 0 _ rfl
      have c1 := (K.out.at 0 rfl).cell 1 _ rfl
      have c2 := (K.out.at 0 rfl).cell 2 _ rfl
      have c3 := (K.out.at 0 rfl).cell 3 _ rfl
      have c4 := (K.out.at 0 rfl).cell 4 _ rfl
      go_wp2_with fail
      all_goals
        go_ret
        exact ⟨rbool (by rw [HR.out]; first | rfl | (rw [Bool.eq_iff_iff]; simp only [decide_eq_true_eq, beq_iff_eq, bne_iff_ne, ne_eq, Bool.false_eq_true, iff_false, false_iff, iff_true, true_iff]; omega) | (rw [Bool.eq_iff_iff]; simp; omega) | (rw [Bool.eq_iff_iff]; simp)), K.out.below⟩
  · replace HR : Hid (R = decide ((1 ≤ a ∧ a ≤ size ∧ 1 ≤ pa ∧ pa ≤ 16) ∧ (b ≠ 0 ∧ b ≤ size ∧ b ≠ a ∧ 1 ≤ pb ∧ pb ≤ 16))) := Lib.hid (by rw [HR.out, if_neg hb]; simp [Bool.decide_and])
    rcases hG with hG | hG <;> rcases hL with hL | hL
    all_goals
      go_enter Try.func28, Try.ntmps28
      go_upto_region 1 with fail
      refine one_box_wp ?_
      intro W hb1 hbel hsz
      have K : Hid (KR w.heap.size w [(w.heap.size, 52, #[.int .i64 a, .int .i64 pa, .int .i64 b, .int .i64 pb, .float .f64 c])] W) := Lib.hid ((KR.start hbel hbel.size).add hb1)
      clear hb1 hbel hsz
      have c0 := (K.out.at 0 rfl).cell 0 _ rfl
      have c1 := (K.out.at 0 rfl).cell 1 _ rfl
      have c2 := (K.out.at 0 rfl).cell 2 _ rfl
      have c3 := (K.out.at 0 rfl).cell 3 _ rfl
      have c4 := (K.out.at 0 rfl).cell 4 _ rfl
      go_wp2_with fail
      all_goals
        go_ret
        exact ⟨rbool (by rw [HR.out]; first | rfl | (rw [Bool.eq_iff_iff]; simp only [decide_eq_true_eq, beq_iff_eq, bne_iff_ne, ne_eq, Bool.false_eq_true, iff_false, false_iff, iff_true, true_iff]; omega) | (rw [Bool.eq_iff_iff]; simp; omega) | (rw [Bool.eq_iff_iff]; simp)), K.out.below⟩
end Go.Proofs.Ytggcmhjeflofmaa
