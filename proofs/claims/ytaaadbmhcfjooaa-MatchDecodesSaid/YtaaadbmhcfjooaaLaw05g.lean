/- The walk of MatchDecodes. -/
import Derived.Test.YtaaadbmhcfjooaaAwake05
import Derived.Test.YtaaadbmhcfjooaaMatchJ
import Derived.Test.YtaaadbmhcfjooaaMatchN
import Derived.Test.YtaaadbmhcfjooaaMatchY
namespace Go.Proofs.Ytaaadbmhcfjooaa
open Go.RowKit
set_option linter.unusedVariables false

set_option maxRecDepth 100000 in
set_option maxHeartbeats 8000000 in
theorem MatchDecodes_walk (w : World) (t : ByteArray) (ht : t.size ≤ 140737488351232) :
    Calls Try.prog 7 #[.string t] w fun x w' => x = .returned (.bool true) ∧ Below w.heap.size w w' := by
  obtain ⟨Rl, rfl⟩ : ∃ R, t = str R := ⟨_, (str_of t).symm⟩
  rw [str_size] at ht
  by_cases h1 : 1000 < Rl.length
  · have d1 : decide ((1000 : Int) < Rl.length) = true := by simp; omega
    clear h1
    go_enter Try.func7, Try.ntmps7
    go_wp2_with fail
    refine (awake05 _).mono ?_
    rintro x w1 ⟨rfl, b1⟩
    go_wp2
    go_ret
    exact ⟨rfl, b1⟩
  have d1 : decide ((1000 : Int) < Rl.length) = false := by simp; omega
  have H1 : Hid (∀ W, Calls Try.prog 24 #[.string (str Rl)] W (DecPost W (decF (str Rl)))) := Lib.hid (fun W => Decode_any W (str Rl) (by rw [str_size]; omega))
  have H2 : Hid (∀ W, Calls Try.prog 25 #[.string (str Rl)] W (DecPost W (decF (str Rl)))) := Lib.hid (fun W => by
    have := rDecode_any W Rl (by omega)
    rwa [refD_eq] at this)
  generalize decF (str Rl) = r at *
  obtain ⟨m, n, f⟩ := r
  have HSs := Lib.hid (same_self m)
  have tn : (n == n) = true := by simp
  have tf : (f == f) = true := by simp
  clear h1 ht
  go_enter Try.func7, Try.ntmps7
  go_wp2_with fail
  refine (H1.out _).mono ?_
  rintro x w1 ⟨v1, rfl, o1, b1⟩
  have HB1 := Lib.hid b1
  have HO1 := Lib.hid o1
  clear b1 o1 H1
  go_wp2_with fail
  refine (H2.out _).mono ?_
  rintro x w2 ⟨v2, rfl, o2, b2⟩
  have HB2 := Lib.hid (HB1.out.trans (b2.mono HB1.out.size))
  have HSm := Lib.hid (rSame_any w2 v1 v2 m m (ReadL.of_own (HO1.out.belowAll b2) encTest_len) (ReadL.of_own o2 encTest_len))
  rw [HSs.out] at HSm
  clear b2 o2 HB1 HO1 H2 HSs
  go_wp2_with fail
  refine HSm.out.mono ?_
  rintro x w3 ⟨rfl, b3⟩
  have HB3 := Lib.hid (HB2.out.trans (b3.mono HB2.out.size))
  clear b3 HB2 HSm
  go_wp2_with fail
  refine (awake05 _).mono ?_
  rintro x w4 ⟨rfl, b4⟩
  have HB4 := Lib.hid (HB3.out.trans (b4.mono HB3.out.size))
  clear b4 HB3
  go_wp2
  go_ret
  exact ⟨rfl, HB4.out⟩
end Go.Proofs.Ytaaadbmhcfjooaa
