/- The reference of topologies: in, uses. -/
import Derived.Test.YtggcmhjeflofmaaTopoL
namespace Go.Proofs.Ytggcmhjeflofmaa
open Go.RowKit Go.Maps
set_option linter.unusedVariables false
set_option linter.unusedSimpArgs false

def inF (n lo hi : Int) : Bool := decide (lo ≤ n) && decide (n ≤ hi)
def rightR (x : Link) (size : Int) : Bool := inF x.fA 1 size && (inF x.fPortA 1 16 && (!(x.fB == x.fA) && (!(x.fB == 0) && (inF x.fB (-64) size && ((!(decide (0 < x.fB) && !inF x.fPortB 1 16)) && ((!(decide (x.fB < 0) && (x.fPortB != 0))) && costOk x.fCost))))))
theorem rightR_eq (x : Link) (size : Int) : rightL x size = rightR x size := by
  unfold rightL rightR inF
  obtain ⟨a, pa, b, pb, c⟩ := x
  simp only
  cases costOk c
  · simp
  · rw [Bool.eq_iff_iff]
    by_cases hb : b < 0
    · simp [hb]; omega
    · simp [hb]; omega

set_option maxRecDepth 100000 in
theorem in_any (w : World) (n lo hi : Int) : Calls Try.prog 30 #[.int .i64 n, .int .i64 lo, .int .i64 hi] w fun e w' => e = .returned (.bool (inF n lo hi)) ∧ w = w' := by
  have HR : Hid (inF n lo hi = _) := Lib.hid (by unfold inF; rfl)
  generalize inF n lo hi = R at *
  go_enter Try.func30, Try.ntmps30
  go_wp2_with fail
  all_goals
    go_ret
    have q := HR.out
    exact ⟨rbool (by rw [q]; rw [Bool.eq_iff_iff]; first | (simp; done) | (simp; omega) | (simp [*]; done) | (simp [*]; omega)), rfl⟩
set_option maxRecDepth 100000 in
set_option maxHeartbeats 4000000 in
theorem uses_any (w : World) (x : Link) (sw p : Int) : Calls Try.prog 31 #[valLink x, .int .i64 sw, .int .i64 p] w fun e w' => e = .returned (.bool (usesL x sw p)) ∧ Below w.heap.size w w' := by
  have HR : Hid (usesL x sw p = _) := Lib.hid (by unfold usesL; rfl)
  generalize usesL x sw p = R at *
  obtain ⟨a, pa, b, pb, c⟩ := x
  simp only at *
  go_enter Try.func31, Try.ntmps31
  go_upto_region 1 with fail
  refine one_box_wp ?_
  intro W hb1 hbel hsz
  have K : Hid (KR w.heap.size w [(w.heap.size, 52, #[.int .i64 a, .int .i64 pa, .int .i64 b, .int .i64 pb, .float .f64 c])] W) := Lib.hid ((KR.start hbel hbel.size).add hb1)
  clear hb1 hbel hsz
  have c0 := (K.out.at 0 rfl).cell 0 _ rfl
  have c1 := (K.out.at 0 rfl).cell 1 _ rfl
  have c2 := (K.out.at 0 rfl).cell 2 _ rfl
  have c3 := (K.out.at 0 rfl).cell 3 _ rfl
  go_wp2_with fail
  all_goals
    go_ret
    have q := HR.out
    exact ⟨rbool (by rw [q]; rw [Bool.eq_iff_iff]; first | (simp; done) | (simp; omega) | (simp [*]; done) | (simp [*]; omega)), K.out.below⟩
end Go.Proofs.Ytggcmhjeflofmaa
