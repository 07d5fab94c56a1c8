/- The walk of MatchPairs. -/
import Derived.Test.YtaaadbmhcfjooaaAwake05
import Derived.Test.YtaaadbmhcfjooaaMatchI
import Derived.Test.YtaaadbmhcfjooaaMatchJ
import Derived.Test.YtaaadbmhcfjooaaMatchK
namespace Go.Proofs.Ytaaadbmhcfjooaa
open Go.RowKit
set_option linter.unusedVariables false

theorem okT_of {w : World} {t : Test} (h : okTest w t) : okT t := by
  have h1 := wf_u64 h.2.1
  have h2 := wf_u64 h.2.2.1
  exact ⟨h1, h2⟩

set_option maxRecDepth 100000 in
set_option maxHeartbeats 4000000 in
theorem MatchPairs_walk (w : World) (va : Value) (a : List Test) (hva : ReadL w 3 encTest va a) (oka : ∀ x ∈ a, okTest w x) (vb : Value) (b : List Test) (hvb : ReadL w 3 encTest vb b) (okb : ∀ x ∈ b, okTest w x) :
    Calls Try.prog 5 #[va, vb] w fun x w' => x = .returned (.bool true) ∧ Below w.heap.size w w' := by
  have A := fun W (hW : Below w.heap.size w W) => ReadL.below hva hW (Nat.le_refl w.heap.size)
  have B := fun W (hW : Below w.heap.size w W) => ReadL.below hvb hW (Nat.le_refl w.heap.size)
  have H1 := Lib.hid (fun W hW => Same_any W va vb a b (A W hW) (B W hW))
  have H2 := Lib.hid (fun W hW => rSame_any W va vb a b (A W hW) (B W hW))
  have H3 := Lib.hid (fun W hW => Covers_any W va vb a b (A W hW) (B W hW))
  have H4 := Lib.hid (fun W hW => rCovers_any W va vb a b (A W hW) (B W hW) (fun t ht => okT_of (oka t ht)) (fun t ht => okT_of (okb t ht)))
  have H5 := Lib.hid (fun W hW => Meets_any W va vb a b (A W hW) (B W hW))
  have H6 := Lib.hid (fun W hW => rMeets_any W va vb a b (A W hW) (B W hW))
  clear A B oka okb
  obtain ⟨xa, xc, rfl, _, _, _⟩ := hva
  obtain ⟨ya, yc, rfl, _, _, _⟩ := hvb
  have HB0 := Lib.hid (Below.refl w.heap.size w)
  by_cases h1 : 40 < a.length
  · have d1 : decide (40 < a.length) = true := by simpa using h1
    go_enter Try.func5, Try.ntmps5
    go_wp2_with fail
    refine (awake05 _).mono ?_
    rintro x w1 ⟨rfl, b1⟩
    go_wp2
    go_ret
    exact ⟨rfl, b1⟩
  have d1 : decide (40 < a.length) = false := by simpa using h1
  by_cases h2 : 40 < b.length
  · have d2 : decide (40 < b.length) = true := by simpa using h2
    go_enter Try.func5, Try.ntmps5
    go_wp2_with fail
    refine (awake05 _).mono ?_
    rintro x w1 ⟨rfl, b1⟩
    go_wp2
    go_ret
    exact ⟨rfl, b1⟩
  have d2 : decide (40 < b.length) = false := by simpa using h2
  generalize sameF a b = r1 at *
  generalize coverF a b = r2 at *
  generalize meetF a b = r3 at *
  have t1 : (r1 == r1) = true := by simp
  have t2 : (r2 == r2) = true := by simp
  have t3 : (r3 == r3) = true := by simp
  go_enter Try.func5, Try.ntmps5
  go_wp2_with fail
  refine (H1.out _ HB0.out).mono ?_
  rintro x w1 ⟨rfl, b1⟩
  have HB1 := Lib.hid (HB0.out.trans (b1.mono (Nat.le_refl _)))
  clear b1 H1
  go_wp2_with fail
  refine (H2.out _ HB1.out).mono ?_
  rintro x w2 ⟨rfl, b2⟩
  have HB2 := Lib.hid (HB1.out.trans (b2.mono HB1.out.size))
  clear b2 H2 HB1
  go_wp2_with fail
  refine (H3.out _ HB2.out).mono ?_
  rintro x w3 ⟨rfl, b3⟩
  have HB3 := Lib.hid (HB2.out.trans (b3.mono HB2.out.size))
  clear b3 H3 HB2
  go_wp2_with fail
  refine (H4.out _ HB3.out).mono ?_
  rintro x w4 ⟨rfl, b4⟩
  have HB4 := Lib.hid (HB3.out.trans (b4.mono HB3.out.size))
  clear b4 H4 HB3
  go_wp2_with fail
  refine (H5.out _ HB4.out).mono ?_
  rintro x w5 ⟨rfl, b5⟩
  have HB5 := Lib.hid (HB4.out.trans (b5.mono HB4.out.size))
  clear b5 H5 HB4
  go_wp2_with fail
  refine (H6.out _ HB5.out).mono ?_
  rintro x w6 ⟨rfl, b6⟩
  have HB6 := Lib.hid (HB5.out.trans (b6.mono HB5.out.size))
  clear b6 H6 HB5
  go_wp2_with fail
  refine (awake05 _).mono ?_
  rintro x w7 ⟨rfl, b7⟩
  have HB7 := Lib.hid (HB6.out.trans (b7.mono HB6.out.size))
  clear b7 HB6
  go_wp2
  go_ret
  exact ⟨rfl, HB7.out⟩
end Go.Proofs.Ytaaadbmhcfjooaa
