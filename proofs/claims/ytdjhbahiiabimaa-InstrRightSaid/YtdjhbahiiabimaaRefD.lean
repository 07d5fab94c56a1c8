/- droverref06.bytes, of the kinds that say no field. -/
import Derived.Test.YtdjhbahiiabimaaRefC
namespace Go.Proofs.Ytdjhbahiiabimaa
open Go.RowKit
set_option linter.unusedVariables false
set_option linter.unusedSimpArgs false
attribute [local go_sem] beL_length

set_option maxRecDepth 100000 in
set_option maxHeartbeats 4000000 in
theorem r6bytes4_any (w : World) (k f v : Int) (hk : k = 1 ∨ k = 2 ∨ k = 3 ∨ k = 4) (h0 : 0 ≤ v) : Calls Try.prog 38 #[.agg #[.int .i64 k, .int .i64 f, .int .u64 v]] w fun x w' => x = .returned (.string (str (laidA k f v))) ∧ Below w.heap.size w w' := by
  have HP := Lib.hid (fun W => r3Put_any W v 4 h0 (by decide) (by decide))
  rcases hk with rfl | rfl | rfl | rfl
  · have HL : Hid (laidA 1 f v = [0, 0, 0, 16] ++ (beL 4 v.toNat ++ [255, 255, 0, 0, 0, 0, 0, 0])) := Lib.hid rfl
    have hl : (beL 4 v.toNat).length = 4 := beL_length _ _
    generalize beL 4 v.toNat = P at *
    go_enter Try.func38, Try.ntmps38
    go_upto_region 1 with fail
    refine one_box_wp ?_
    intro W hb1 hbel hsz
    have K : Hid (KR w.heap.size w [(w.heap.size, 67, #[.int .i64 1, .int .i64 f, .int .u64 v])] W) := Lib.hid ((KR.start hbel hbel.size).add hb1)
    clear hb1 hbel hsz
    have c0 := (K.out.at 0 rfl).cell 0 _ rfl
    have c2 := (K.out.at 0 rfl).cell 2 _ rfl
    go_wp2_with fail
    refine (HP.out _).mono ?_
    rintro x w' ⟨rfl, hb⟩
    have HB := Lib.hid (K.out.call hb).below
    clear hb HP K c0 c2
    go_wp2_with fail
    go_ret
    exact ⟨by rw [HL.out]; rfl, HB.out⟩
  · have HL : Hid (laidA 2 f v = [0, 22, 0, 8] ++ beL 4 v.toNat) := Lib.hid rfl
    have hl : (beL 4 v.toNat).length = 4 := beL_length _ _
    generalize beL 4 v.toNat = P at *
    go_enter Try.func38, Try.ntmps38
    go_upto_region 1 with fail
    refine one_box_wp ?_
    intro W hb1 hbel hsz
    have K : Hid (KR w.heap.size w [(w.heap.size, 67, #[.int .i64 2, .int .i64 f, .int .u64 v])] W) := Lib.hid ((KR.start hbel hbel.size).add hb1)
    clear hb1 hbel hsz
    have c0 := (K.out.at 0 rfl).cell 0 _ rfl
    have c2 := (K.out.at 0 rfl).cell 2 _ rfl
    go_wp2_with fail
    refine (HP.out _).mono ?_
    rintro x w' ⟨rfl, hb⟩
    have HB := Lib.hid (K.out.call hb).below
    clear hb HP K c0 c2
    go_wp2_with fail
    go_ret
    exact ⟨by rw [HL.out]; rfl, HB.out⟩
  all_goals
    clear HP
    go_enter Try.func38, Try.ntmps38
    go_upto_region 1 with fail
    refine one_box_wp ?_
    intro W hb1 hbel hsz
    have HB := Lib.hid hbel
    have c0 := hb1.cell 0 _ rfl
    clear hb1 hbel hsz
    go_wp2_with fail
    go_ret
    exact ⟨rfl, HB.out⟩
end Go.Proofs.Ytdjhbahiiabimaa
