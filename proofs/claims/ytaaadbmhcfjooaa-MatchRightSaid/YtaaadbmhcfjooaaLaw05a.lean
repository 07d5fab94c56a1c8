/- The walk of MatchRight. -/
import Derived.Test.YtaaadbmhcfjooaaAwake05
import Derived.Test.YtaaadbmhcfjooaaMatchE
namespace Go.Proofs.Ytaaadbmhcfjooaa
open Go.RowKit
set_option linter.unusedVariables false

theorem okT_of {w : World} {t : Test} (h : okTest w t) : okT t := by
  have h1 := wf_u64 h.2.1
  have h2 := wf_u64 h.2.2.1
  exact ⟨h1, h2⟩

set_option maxRecDepth 100000 in
set_option maxHeartbeats 4000000 in
theorem MatchRight_walk (w : World) (v : Value) (l : List Test) (hv : ReadL w 3 encTest v l) (hok : ∀ x ∈ l, okTest w x) :
    Calls Try.prog 3 #[v] w fun x w' => x = .returned (.bool true) ∧ Below w.heap.size w w' := by
  have HR := Lib.hid (Right_any w v l hv)
  have HrR := Lib.hid (fun W hW => rRight_any W v l (ReadL.below hv hW (Nat.le_refl w.heap.size)) (fun t ht => okT_of (hok t ht)))
  obtain ⟨a, cap, rfl, hcap, hmax, hcells⟩ := hv
  clear hcells hok hcap hmax
  by_cases hl : 40 < l.length
  · have d1 : decide (40 < l.length) = true := by simpa using hl
    go_enter Try.func3, Try.ntmps3
    go_wp2_with fail
    refine (awake05 _).mono ?_
    rintro x w1 ⟨rfl, b1⟩
    go_wp2
    go_ret
    exact ⟨rfl, b1⟩
  · have d1 : decide (40 < l.length) = false := by simpa using hl
    generalize rightF l = r at *
    have d2 : (r == r) = true := by simp
    go_enter Try.func3, Try.ntmps3
    go_wp2_with fail
    refine HR.out.mono ?_
    rintro x w1 ⟨rfl, b1⟩
    have HB1 := Lib.hid b1
    clear b1
    go_wp2_with fail
    refine (HrR.out _ HB1.out).mono ?_
    rintro x w2 ⟨rfl, b2⟩
    have HB2 := Lib.hid (HB1.out.trans (b2.mono HB1.out.size))
    clear b2
    go_wp2_with fail
    refine (awake05 _).mono ?_
    rintro x w3 ⟨rfl, b3⟩
    have HB3 := Lib.hid (HB2.out.trans (b3.mono HB2.out.size))
    clear b3
    go_wp2
    go_ret
    exact ⟨rfl, HB3.out⟩
end Go.Proofs.Ytaaadbmhcfjooaa
