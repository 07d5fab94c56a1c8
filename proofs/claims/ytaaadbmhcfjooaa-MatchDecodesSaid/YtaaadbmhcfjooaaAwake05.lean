/- The chapter's examples. -/
import Derived.Test.YtaaadbmhcfjooaaMatchG
namespace Go.Proofs.Ytaaadbmhcfjooaa
open Go.RowKit
set_option linter.unusedVariables false

theorem enc0 : encB [] = [0, 1, 0, 4, 0, 0, 0, 0] := by decide
theorem enc1 : encB [⟨1, 3, 4294967295⟩] = [0, 1, 0, 12, 128, 0, 0, 4, 0, 0, 0, 3, 0, 0, 0, 0] := by decide
theorem right1 : rightF [⟨1, 3, 4294967295⟩] = 0 := by
  have h1 : bits .andNot .u64 4294967295 (greatF 1) = 0 := (andNot_iff (by unfold U64; decide) (greatF_U64 1)).2 (by
    rw [u64_and _ _ (by decide) (by decide) (by decide) (by decide)]; decide)
  have h2 : bits .andNot .u64 3 4294967295 = 0 := (andNot_iff (by unfold U64; decide) (by unfold U64; decide)).2 (by
    rw [u64_and _ _ (by decide) (by decide) (by decide) (by decide)]; decide)
  have hb : badT [] 0 ⟨1, 3, 4294967295⟩ = false := by
    show (decide ((1 : Int) ≤ 0) || (4294967295 : Int) == 0 || !(bits .andNot .u64 4294967295 (greatF 1) == 0) || !(bits .andNot .u64 3 4294967295 == 0) || !(basedF [] 1)) = false
    rw [h1, h2]
    decide
  have hc : rightC [] 0 ⟨1, 3, 4294967295⟩ = 0 := rightC_good (by decide) hb
  unfold rightF rightFrom
  rw [if_pos hc]
  rfl

set_option maxRecDepth 100000 in
set_option maxHeartbeats 4000000 in
theorem awake05 (w : World) : Calls Try.prog 12 #[] w fun x w' => x = .returned (.bool true) ∧ Below w.heap.size w w' := by
  have HE0 : Hid (∀ W, Calls Try.prog 13 #[.slice none 0 0] W fun x w' => x = .returned (.tuple #[.string ⟨#[0, 1, 0, 4, 0, 0, 0, 0]⟩, .int .i64 0]) ∧ Below W.heap.size W w') := Lib.hid fun W => by
    have := Encode_any W _ [] (ReadL.nil W 3 encTest) (fun t ht => absurd ht List.not_mem_nil)
    rw [if_pos (show rightF [] = 0 from rfl), enc0] at this
    exact this
  have HE1 : Hid (∀ W g, BlkAt W g 48 #[.int .i64 1, .int .u64 3, .int .u64 4294967295] → Calls Try.prog 13 #[.slice (some ⟨g, 0, none⟩) 1 1] W fun x w' =>
      x = .returned (.tuple #[.string ⟨#[0, 1, 0, 12, 128, 0, 0, 4, 0, 0, 0, 3, 0, 0, 0, 0]⟩, .int .i64 0]) ∧ Below W.heap.size W w') := Lib.hid fun W g hb => by
    have hr : ReadL W 3 encTest (.slice (some ⟨g, 0, none⟩) 1 1) [⟨1, 3, 4294967295⟩] := by
      refine ⟨_, 1, rfl, Nat.le_refl _, by unfold maxLen; decide, .inr ⟨g, 0, rfl, hb.lt, fun i j u hi hu => ?_⟩⟩
      obtain rfl : i = 0 := by simpa using hi
      rw [show 0 + (0 * 3 + j) = j by omega, cell_of_row W g j _ _ (0, 0) hb]
      simpa [encTest] using hu
    have := Encode_any W _ [⟨1, 3, 4294967295⟩] hr (fun t ht => by
      obtain rfl : t = ⟨1, 3, 4294967295⟩ := by simpa using ht
      unfold okT U64; decide)
    rw [if_pos right1, enc1, right1] at this
    exact this
  go_enter Try.func12, Try.ntmps12
  go_wp2_with fail
  refine (HE0.out _).mono ?_
  rintro e w1 ⟨rfl, b1⟩
  have HB1 := Lib.hid b1
  clear b1
  have hb := BlkAt.new w1 48 #[.int .i64 1, .int .u64 3, .int .u64 4294967295]
  have HBk := Lib.hid hb
  have HBl := Lib.hid ((Below.refl w1.heap.size w1).alloc (Nat.le_refl _) (.cells #[.int .i64 1, .int .u64 3, .int .u64 4294967295] 48))
  clear hb
  go_wp2_with fail
  refine (HE1.out _ _ HBk.out).mono ?_
  rintro e w2 ⟨rfl, b2⟩
  have HB2 := Lib.hid (HB1.out.trans ((HBl.out.trans (b2.mono HBl.out.size)).mono HB1.out.size))
  clear b2
  go_wp2
  go_ret
  exact ⟨rfl, HB2.out⟩
end Go.Proofs.Ytaaadbmhcfjooaa
