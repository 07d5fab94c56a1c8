/- The walk of MatchEncodes. -/
import Derived.Test.YtaaadbmhcfjooaaAwake05
import Derived.Test.YtaaadbmhcfjooaaMatchE
import Derived.Test.YtaaadbmhcfjooaaMatchQ
namespace Go.Proofs.Ytaaadbmhcfjooaa
open Go.RowKit
set_option linter.unusedVariables false

theorem okT_of {w : World} {t : Test} (h : okTest w t) : okT t := by
  have h1 := wf_u64 h.2.1
  have h2 := wf_u64 h.2.2.1
  exact ⟨h1, h2⟩

set_option maxRecDepth 100000 in
set_option maxHeartbeats 4000000 in
theorem rEncode_any (w : World) (v : Value) (l : List Test) (h : ReadL w 3 encTest v l) (hok : ∀ t ∈ l, okT t) :
    Calls Try.prog 14 #[v] w fun e w' => e = .returned (.tuple #[.string (if rightF l = 0 then str (encB l) else ⟨#[]⟩), .int .i64 (rightF l)]) ∧ Below w.heap.size w w' := by
  have HRi := Lib.hid (rRight_any w v l h hok)
  by_cases hr : rightF l = 0
  case neg =>
    have tr : (rightF l == 0) = false := beq_eq_false_iff_ne.mpr hr
    have tn : (rightF l != 0) = true := by simp [hr]
    rw [if_neg hr]
    clear h hok hr
    generalize rightF l = r at *
    go_enter Try.func14, Try.ntmps14
    go_wp2_with fail
    refine HRi.out.mono ?_
    rintro e w' ⟨rfl, hb⟩
    go_wp2
    go_ret2
    exact ⟨rfl, hb⟩
  rw [if_pos hr]
  obtain ⟨hfit, hlen⟩ := right_fit hok hr
  have HBy := Lib.hid (fun W hW => rBytes_any W v l (ReadL.below h hW (Nat.le_refl w.heap.size)) hfit hlen)
  rw [hr] at HRi ⊢
  clear h hok hr hfit hlen
  generalize encB l = bs at *
  go_enter Try.func14, Try.ntmps14
  go_wp2_with fail
  refine HRi.out.mono ?_
  rintro e w1 ⟨rfl, b1⟩
  have HB1 := Lib.hid b1
  clear b1 HRi
  go_wp2_with fail
  refine (HBy.out _ HB1.out).mono ?_
  rintro e w2 ⟨rfl, b2⟩
  have HB2 := Lib.hid (HB1.out.trans (b2.mono HB1.out.size))
  clear b2 HBy
  go_wp2
  go_ret2
  exact ⟨rfl, HB2.out⟩

set_option maxRecDepth 100000 in
set_option maxHeartbeats 4000000 in
theorem MatchEncodes_walk (w : World) (v : Value) (l : List Test) (hv : ReadL w 3 encTest v l) (hok : ∀ x ∈ l, okTest w x) :
    Calls Try.prog 4 #[v] w fun x w' => x = .returned (.bool true) ∧ Below w.heap.size w w' := by
  have H1 := Lib.hid (Encode_any w v l hv (fun t ht => okT_of (hok t ht)))
  have H2 := Lib.hid (fun W hW => rEncode_any W v l (ReadL.below hv hW (Nat.le_refl w.heap.size)) (fun t ht => okT_of (hok t ht)))
  obtain ⟨a, cap, rfl, hcap, hmax, hcells⟩ := hv
  clear hcells hok hcap hmax
  by_cases hl : 40 < l.length
  · have d1 : decide (40 < l.length) = true := by simpa using hl
    go_enter Try.func4, Try.ntmps4
    go_wp2_with fail
    refine (awake05 _).mono ?_
    rintro x w1 ⟨rfl, b1⟩
    go_wp2
    go_ret
    exact ⟨rfl, b1⟩
  · have d1 : decide (40 < l.length) = false := by simpa using hl
    generalize (if rightF l = 0 then str (encB l) else ⟨#[]⟩) = bs at *
    generalize rightF l = r at *
    have d2 : (r == r) = true := by simp
    go_enter Try.func4, Try.ntmps4
    go_wp2_with fail
    refine H1.out.mono ?_
    rintro x w1 ⟨rfl, b1⟩
    have HB1 := Lib.hid b1
    clear b1
    go_wp2_with fail
    refine (H2.out _ HB1.out).mono ?_
    rintro x w2 ⟨rfl, b2⟩
    have HB2 := Lib.hid (HB1.out.trans (b2.mono HB1.out.size))
    clear b2
    go_wp2_with fail
    refine (awake05 _).mono ?_
    rintro x w3 ⟨rfl, b3⟩
    have HB3 := Lib.hid (HB2.out.trans (b3.mono HB2.out.size))
    clear b3
    go_wp2
    go_ret
    exact ⟨rfl, HB3.out⟩
end Go.Proofs.Ytaaadbmhcfjooaa
