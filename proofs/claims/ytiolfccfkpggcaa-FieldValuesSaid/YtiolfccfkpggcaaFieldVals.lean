/- Values, and the reference's: a loop over Get that appends. -/
import Derived.Test.YtiolfccfkpggcaaFieldRef
import Derived.Test.YtiolfccfkpggcaaFieldPlain
import Derived.Test.YtiolfccfkpggcaaOwn
import Derived.Laws.OwnMore
namespace Go.Proofs.Ytiolfccfkpggcaa
open Go.RowKit
set_option linter.unusedVariables false

def encU64 (n : Int) : List Value := [.int .u64 n]
theorem encU64_len (n : Int) : (encU64 n).length = 1 := rfl
theorem encU64_one (n : Int) : ∀ u ∈ encU64 n, u.oneCell' = true := by intro u hu; simp [encU64] at hu; subst hu; rfl
theorem u64Info : (Try.prog.info? 22).map (fun i => (i.zero, i.size, i.bytes)) = some (some (.int .u64 0), 1, 8) := by kernel_rfl
def valsTo (s : Seen) (k : Nat) : List Int := (List.range k).map fun (j : Nat) => (getF s (j : Int)).1
theorem valsTo_succ (s : Seen) (k : Nat) : valsTo s (k + 1) = valsTo s k ++ [(getF s (k : Int)).1] := by simp [valsTo, List.range_succ]
theorem valsTo_length (s : Seen) (k : Nat) : (valsTo s k).length = k := by simp [valsTo]
theorem valsTo_one (s : Seen) : valsTo s 1 = [0] := by
  have : getF s 0 = (0, 20) := by unfold getF; rw [hasF_none (by omega)]; rfl
  simp [valsTo, this]

set_option maxRecDepth 100000 in
set_option maxHeartbeats 4000000 in
theorem Values_any (w : World) (s : Seen) (h0 : 0 ≤ s.fMeta) (h1 : s.fMeta < 18446744073709551616) :
    Calls Try.prog 14 #[valSeen s] w fun x w' => ∃ v B, w.heap.size ≤ B ∧ x = .returned v ∧ OwnL w' B 22 1 encU64 v (valsTo s 10) ∧ Below w.heap.size w w' := by
  have HG := Lib.hid (fun W (f : Nat) => Get_any W s (f : Int) h0 h1)
  clear h0 h1
  go_enter Try.func14, Try.ntmps14
  go_upto_region 1 with fail
  refine one_box_wp ?_
  intro W hb1 hbel hsz
  have HB := Lib.hid (And.intro hb1 (And.intro hbel hsz.out))
  clear hb1 hbel hsz
  have HBW := Lib.hid (Below.refl W.heap.size W)
  have HLT := Lib.hid (Nat.le_of_lt HB.out.2.2)
  go_wp2_with fail
  generalize hB : W.heap.size = B at *
  have HEB := Lib.hid hB
  go_loopw [3, 7] (fun v iv wr => ∃ k : Nat, k ≤ 10 ∧ iv = .int .i64 k ∧ OwnL wr B 22 1 encU64 v (valsTo s k) ∧ Below B W wr) (fun _ iv _ => 10 - (intOf iv).toNat)
  case atStart => exact ⟨0, Nat.zero_le _, rfl, OwnL.nil _ _ _ _ _, HBW.out⟩
  case round =>
    obtain ⟨k, hk, rfl, hown, hbw⟩ := hrel
    have Hown := Lib.hid hown
    have Hbw := Lib.hid hbw
    clear hown hbw
    by_cases hlt : k < 10
    · have d1 : decide ((k : Int) < 10) = true := by simp; omega
      have HBx := Lib.hid (HB.out.1.below Hbw.out HB.out.2.2)
      go_wp2_with (first
        | (refine wpList_load_row rfl 27 _ rfl _ rfl _ _ (0, 0) _ HBx.out Try.underlying27 rfl (by kernel_rfl) ?_)
        | fail)
      refine (HG.out _ k).mono ?_
      rintro x w5 ⟨rfl, b5⟩
      have Hown5 := Lib.hid (Hown.out.belowAll b5)
      have hB5 : B ≤ wr.heap.size := by rw [← HEB.out]; exact Hbw.out.size
      have Hb5 := Lib.hid (Hbw.out.trans (b5.mono hB5))
      have HB5 := Lib.hid (Nat.le_trans hB5 b5.size)
      clear b5 hB5 HBx Hown Hbw
      go_wp2_with (at_builtin; go_must (refine app_one Hown5.out (getF s k).1 Try.underlying37 u64Info rfl (by decide) encU64_len encU64_one rfl rfl rfl rfl ?c1 ?c2 ?c3 ?_))
      case c1 => rw [valsTo_length]; omega
      case c2 => rw [valsTo_length]; omega
      case c3 => exact HB5.out
      intro v' w6 hown1 hgrow _
      rw [← valsTo_succ] at hown1
      have Hown1 := Lib.hid hown1
      have Hb1 := Lib.hid (below_grown Hb5.out hgrow HB5.out Hown5.out)
      clear hown1 hgrow Hown5 Hb5
      go_wp2
      go_roundw
      case rel => exact ⟨k + 1, by omega, by go_num, Hown1.out, Hb1.out⟩
      case measure => simp [intOf]; omega
    · obtain rfl : k = 10 := by omega
      have d1 : decide (((10 : Nat) : Int) < 10) = false := by simp
      go_wp2
      go_ret
      exact ⟨_, B, HLT.out, rfl, Hown.out, HB.out.2.1.trans (Hbw.out.mono HLT.out)⟩
set_option maxRecDepth 100000 in
set_option maxHeartbeats 4000000 in
theorem rValues_any (w : World) (s : Seen) (h0 : 0 ≤ s.fMeta) (h1 : s.fMeta < 18446744073709551616) :
    Calls Try.prog 15 #[valSeen s] w fun x w' => ∃ v B, w.heap.size ≤ B ∧ x = .returned v ∧ OwnL w' B 22 1 encU64 v (valsTo s 10) ∧ Below w.heap.size w w' := by
  have HG := Lib.hid (fun W (f : Nat) => rGet_any W s (f : Int) h0 h1)
  clear h0 h1
  go_enter Try.func15, Try.ntmps15
  go_upto_region 1 with fail
  refine one_box_wp ?_
  intro W hb1 hbel hsz
  have HB := Lib.hid (And.intro hb1 (And.intro hbel hsz.out))
  clear hb1 hbel hsz
  have HBW := Lib.hid (Below.refl W.heap.size W)
  have HLT := Lib.hid (Nat.le_of_lt HB.out.2.2)
  have HLit : Hid (OwnL (W.alloc (.cells #[.int .u64 0] 22)) W.heap.size 22 1 encU64 (.slice (some ⟨W.heap.size, 0, none⟩) 1 1) [0]) := World.ownsRow_lit W #[.int .u64 0] 1 (Nat.le_refl _) (by decide) rfl
  have HBW2 := Lib.hid ((Below.refl W.heap.size W).alloc (Nat.le_refl _) (.cells #[.int .u64 0] 22))
  go_wp2_with fail
  generalize hB : W.heap.size = B at *
  have HEB := Lib.hid hB
  go_loopw [3, 4] (fun v iv wr => ∃ k : Nat, 1 ≤ k ∧ k ≤ 10 ∧ iv = .int .i64 k ∧ OwnL wr B 22 1 encU64 v (valsTo s k) ∧ Below B W wr) (fun _ iv _ => 10 - (intOf iv).toNat)
  case atStart => exact ⟨1, Nat.le_refl _, by omega, rfl, by rw [valsTo_one]; exact HLit.out, HBW2.out⟩
  case round =>
    obtain ⟨k, hk1, hk, rfl, hown, hbw⟩ := hrel
    have Hown := Lib.hid hown
    have Hbw := Lib.hid hbw
    clear hown hbw
    by_cases hlt : k < 10
    · have d1 : decide ((k : Int) ≤ 9) = true := by simp; omega
      have HBx := Lib.hid (HB.out.1.below Hbw.out HB.out.2.2)
      go_wp2_with (first
        | (refine wpList_load_row rfl 32 _ rfl _ rfl _ _ (0, 0) _ HBx.out Try.underlying32 rfl (by kernel_rfl) ?_)
        | fail)
      refine (HG.out _ k).mono ?_
      rintro x w5 ⟨rfl, b5⟩
      have Hown5 := Lib.hid (Hown.out.belowAll b5)
      have hB5 : B ≤ wr.heap.size := by rw [← HEB.out]; exact Hbw.out.size
      have Hb5 := Lib.hid (Hbw.out.trans (b5.mono hB5))
      have HB5 := Lib.hid (Nat.le_trans hB5 b5.size)
      clear b5 hB5 HBx Hown Hbw
      go_wp2_with (at_builtin; go_must (refine app_one Hown5.out (getF s k).1 Try.underlying37 u64Info rfl (by decide) encU64_len encU64_one rfl rfl rfl rfl ?c1 ?c2 ?c3 ?_))
      case c1 => rw [valsTo_length]; omega
      case c2 => rw [valsTo_length]; omega
      case c3 => exact HB5.out
      intro v' w6 hown1 hgrow _
      rw [← valsTo_succ] at hown1
      have Hown1 := Lib.hid hown1
      have Hb1 := Lib.hid (below_grown Hb5.out hgrow HB5.out Hown5.out)
      clear hown1 hgrow Hown5 Hb5
      go_wp2
      go_roundw
      case rel => exact ⟨k + 1, by omega, by omega, by go_num, Hown1.out, Hb1.out⟩
      case measure => simp [intOf]; omega
    · obtain rfl : k = 10 := by omega
      have d1 : decide (((10 : Nat) : Int) ≤ 9) = false := by decide
      go_wp2
      go_ret
      exact ⟨_, B, HLT.out, rfl, Hown.out, HB.out.2.1.trans (Hbw.out.mono HLT.out)⟩
end Go.Proofs.Ytiolfccfkpggcaa
