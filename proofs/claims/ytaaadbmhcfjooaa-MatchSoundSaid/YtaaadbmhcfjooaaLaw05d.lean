/- The walk of MatchSound. -/
import Derived.Test.YtaaadbmhcfjooaaAwake05
import Derived.Test.YtaaadbmhcfjooaaMatchN
namespace Go.Proofs.Ytaaadbmhcfjooaa
open Go.RowKit
set_option linter.unusedVariables false

theorem okT_of {w : World} {t : Test} (h : okTest w t) : okT t := by
  have h1 := wf_u64 h.2.1
  have h2 := wf_u64 h.2.2.1
  exact ⟨h1, h2⟩

set_option maxRecDepth 100000 in
set_option maxHeartbeats 8000000 in
theorem MatchSound_walk (w : World) (va : Value) (a : List Test) (hva : ReadL w 3 encTest va a) (oka : ∀ x ∈ a, okTest w x) (vb : Value) (b : List Test) (hvb : ReadL w 3 encTest vb b) (okb : ∀ x ∈ b, okTest w x) (s : Seen) (ok : okSeen w s) :
    Calls Try.prog 8 #[va, vb, valSeen s] w fun x w' => x = .returned (.bool true) ∧ Below w.heap.size w w' := by
  have hm := wf_u64 ok.2.1
  have A := fun W (hW : Below w.heap.size w W) => ReadL.below hva hW (Nat.le_refl w.heap.size)
  have B := fun W (hW : Below w.heap.size w W) => ReadL.below hvb hW (Nat.le_refl w.heap.size)
  have HTa := Lib.hid (fun W hW => Takes_any W va a s hm.1 (by omega) (A W hW))
  have HTb := Lib.hid (fun W hW => Takes_any W vb b s hm.1 (by omega) (B W hW))
  have HTn := Lib.hid (fun W => Takes_any W _ [] s hm.1 (by omega) (ReadL.nil W 3 encTest))
  have HC := Lib.hid (fun W hW => Covers_any W va vb a b (A W hW) (B W hW))
  have HCn := Lib.hid (fun W hW => Covers_any W _ vb [] b (ReadL.nil W 3 encTest) (B W hW))
  have HM := Lib.hid (fun W hW => Meets_any W va vb a b (A W hW) (B W hW))
  have HMn := Lib.hid (fun W hW => Meets_any W va _ a [] (A W hW) (ReadL.nil W 3 encTest))
  have HS := Lib.hid (fun W hW => Same_any W va va a a (A W hW) (A W hW))
  have P1 := Lib.hid (fun hc hb => cover_sound (s := s) hm.1 (by omega) (fun t ht => okT_of (oka t ht)) (fun t ht => okT_of (okb t ht)) hc hb)
  have P2 := Lib.hid (fun ha hb => meet_sound (s := s) hm.1 (by omega) (fun t ht => okT_of (oka t ht)) (fun t ht => okT_of (okb t ht)) ha hb)
  rw [cover_nil] at HCn
  rw [takes_nil] at HTn
  rw [meet_nil] at HMn
  rw [same_self] at HS
  clear A B oka okb hm ok
  obtain ⟨xa, xc, rfl, _, _, _⟩ := hva
  obtain ⟨ya, yc, rfl, _, _, _⟩ := hvb
  by_cases h1 : 40 < a.length ∨ 40 < b.length
  · clear HTa HTb HTn HC HCn HM HMn HS P1 P2
    have hd : (∃ x : Unit, decide (40 < a.length) = true ∧ 40 < a.length) ∨ (∃ x : Unit, decide (40 < a.length) = false ∧ decide (40 < b.length) = true ∧ a.length ≤ 40 ∧ 40 < b.length) := by
      by_cases h2 : 40 < a.length
      · exact .inl ⟨(), by simpa using h2, h2⟩
      · exact .inr ⟨(), by simpa using h2, by simp; omega, by omega, by omega⟩
    clear h1
    rcases hd with ⟨_, d1, q1⟩ | ⟨_, d1, d2, q1, q2⟩
    all_goals
      go_enter Try.func8, Try.ntmps8
      go_upto_region 1 with fail
      refine one_box_wp ?_
      intro W hb1 hbel hsz
      have HB := Lib.hid hbel
      clear hb1 hbel hsz
      go_wp2_with fail
      refine (awake05 _).mono ?_
      rintro x w1 ⟨rfl, b1⟩
      have HB1 := Lib.hid (HB.out.trans (b1.mono HB.out.size))
      clear b1
      go_wp2
      go_ret
      exact ⟨rfl, HB1.out⟩
  have d1 : decide (40 < a.length) = false := by simp; omega
  have d2 : decide (40 < b.length) = false := by simp; omega
  have q1 : a.length ≤ 40 := by omega
  have q2 : b.length ≤ 40 := by omega
  clear h1
  generalize takesF a s = r1 at *
  generalize takesF b s = r2 at *
  generalize coverF a b = r3 at *
  generalize meetF a b = r4 at *
  go_enter Try.func8, Try.ntmps8
  go_upto_region 1 with fail
  refine one_box_wp ?_
  intro W hb1 hbel hsz
  have K0 := Lib.hid ((KR.start hbel hbel.size).add hb1)
  clear hb1 hbel hsz
  go_wp2_with (first | (refine wpList_row 37 _ rfl (by rfl) _ _ rfl _ (run_loadVar_row _ _ _ 37 _ (0, 0) _ (KR.at K0.out 0 rfl) Try.underlying37 rfl (by kernel_rfl)) ?_) | fail)
  refine (HTa.out _ K0.out.below).mono ?_
  rintro x w1 ⟨rfl, b1⟩
  have K1 := Lib.hid (K0.out.call b1)
  clear b1 K0 HTa
  go_wp2_with (first | (refine wpList_row 37 _ rfl (by rfl) _ _ rfl _ (run_loadVar_row _ _ _ 37 _ (0, 0) _ (KR.at K1.out 0 rfl) Try.underlying37 rfl (by kernel_rfl)) ?_) | fail)
  refine (HTb.out _ K1.out.below).mono ?_
  rintro x w2 ⟨rfl, b2⟩
  have K2 := Lib.hid (K1.out.call b2)
  clear b2 K1 HTb
  go_wp2_with fail
  refine (HC.out _ K2.out.below).mono ?_
  rintro x w3 ⟨rfl, b3⟩
  have K3 := Lib.hid (K2.out.call b3)
  clear b3 K2 HC
  cases r3 with
  | true =>
    cases r2 with
    | true =>
      obtain rfl : r1 = true := P1.out rfl rfl
      obtain rfl : r4 = true := P2.out rfl rfl
      clear P1 P2
      go_wp2_with fail
      refine (HM.out _ K3.out.below).mono ?_
      rintro x w4 ⟨rfl, b4⟩
      have K4 := Lib.hid (K3.out.call b4)
      clear b4 K3 HM
      go_wp2_with fail
      refine (HCn.out _ K4.out.below).mono ?_
      rintro x w5 ⟨rfl, b5⟩
      have K5 := Lib.hid (K4.out.call b5)
      clear b5 K4 HCn
      go_wp2_with (first | (refine wpList_row 37 _ rfl (by rfl) _ _ rfl _ (run_loadVar_row _ _ _ 37 _ (0, 0) _ (KR.at K5.out 0 rfl) Try.underlying37 rfl (by kernel_rfl)) ?_) | fail)
      refine (HTn.out _).mono ?_
      rintro x w6 ⟨rfl, b6⟩
      have K6 := Lib.hid (K5.out.call b6)
      clear b6 K5 HTn
      go_wp2_with fail
      refine (HMn.out _ K6.out.below).mono ?_
      rintro x w7 ⟨rfl, b7⟩
      have K7 := Lib.hid (K6.out.call b7)
      clear b7 K6 HMn
      go_wp2_with fail
      refine (HS.out _ K7.out.below).mono ?_
      rintro x w8 ⟨rfl, b8⟩
      have K8 := Lib.hid (K7.out.call b8)
      clear b8 K7 HS
      go_wp2_with fail
      refine (awake05 _).mono ?_
      rintro x w9 ⟨rfl, b9⟩
      have K9 := Lib.hid (K8.out.call b9)
      clear b9 K8
      go_wp2
      go_ret
      exact ⟨rfl, K9.out.below⟩
    | false =>
      cases r1 <;> (
      clear P1 P2 HM
      have K4 := K3
      clear K3
      go_wp2_with fail
      refine (HCn.out _ K4.out.below).mono ?_
      rintro x w5 ⟨rfl, b5⟩
      have K5 := Lib.hid (K4.out.call b5)
      clear b5 K4 HCn
      go_wp2_with (first | (refine wpList_row 37 _ rfl (by rfl) _ _ rfl _ (run_loadVar_row _ _ _ 37 _ (0, 0) _ (KR.at K5.out 0 rfl) Try.underlying37 rfl (by kernel_rfl)) ?_) | fail)
      refine (HTn.out _).mono ?_
      rintro x w6 ⟨rfl, b6⟩
      have K6 := Lib.hid (K5.out.call b6)
      clear b6 K5 HTn
      go_wp2_with fail
      refine (HMn.out _ K6.out.below).mono ?_
      rintro x w7 ⟨rfl, b7⟩
      have K7 := Lib.hid (K6.out.call b7)
      clear b7 K6 HMn
      go_wp2_with fail
      refine (HS.out _ K7.out.below).mono ?_
      rintro x w8 ⟨rfl, b8⟩
      have K8 := Lib.hid (K7.out.call b8)
      clear b8 K7 HS
      go_wp2_with fail
      refine (awake05 _).mono ?_
      rintro x w9 ⟨rfl, b9⟩
      have K9 := Lib.hid (K8.out.call b9)
      clear b9 K8
      go_wp2
      go_ret
      exact ⟨rfl, K9.out.below⟩)
  | false =>
    cases r1 with
    | true =>
      cases r2 with
      | true =>
        obtain rfl : r4 = true := P2.out rfl rfl
        clear P1 P2
        go_wp2_with fail
        refine (HM.out _ K3.out.below).mono ?_
        rintro x w4 ⟨rfl, b4⟩
        have K4 := Lib.hid (K3.out.call b4)
        clear b4 K3 HM
        go_wp2_with fail
        refine (HCn.out _ K4.out.below).mono ?_
        rintro x w5 ⟨rfl, b5⟩
        have K5 := Lib.hid (K4.out.call b5)
        clear b5 K4 HCn
        go_wp2_with (first | (refine wpList_row 37 _ rfl (by rfl) _ _ rfl _ (run_loadVar_row _ _ _ 37 _ (0, 0) _ (KR.at K5.out 0 rfl) Try.underlying37 rfl (by kernel_rfl)) ?_) | fail)
        refine (HTn.out _).mono ?_
        rintro x w6 ⟨rfl, b6⟩
        have K6 := Lib.hid (K5.out.call b6)
        clear b6 K5 HTn
        go_wp2_with fail
        refine (HMn.out _ K6.out.below).mono ?_
        rintro x w7 ⟨rfl, b7⟩
        have K7 := Lib.hid (K6.out.call b7)
        clear b7 K6 HMn
        go_wp2_with fail
        refine (HS.out _ K7.out.below).mono ?_
        rintro x w8 ⟨rfl, b8⟩
        have K8 := Lib.hid (K7.out.call b8)
        clear b8 K7 HS
        go_wp2_with fail
        refine (awake05 _).mono ?_
        rintro x w9 ⟨rfl, b9⟩
        have K9 := Lib.hid (K8.out.call b9)
        clear b9 K8
        go_wp2
        go_ret
        exact ⟨rfl, K9.out.below⟩
      | false =>
        clear P1 P2 HM
        have K4 := K3
        clear K3
        go_wp2_with fail
        refine (HCn.out _ K4.out.below).mono ?_
        rintro x w5 ⟨rfl, b5⟩
        have K5 := Lib.hid (K4.out.call b5)
        clear b5 K4 HCn
        go_wp2_with (first | (refine wpList_row 37 _ rfl (by rfl) _ _ rfl _ (run_loadVar_row _ _ _ 37 _ (0, 0) _ (KR.at K5.out 0 rfl) Try.underlying37 rfl (by kernel_rfl)) ?_) | fail)
        refine (HTn.out _).mono ?_
        rintro x w6 ⟨rfl, b6⟩
        have K6 := Lib.hid (K5.out.call b6)
        clear b6 K5 HTn
        go_wp2_with fail
        refine (HMn.out _ K6.out.below).mono ?_
        rintro x w7 ⟨rfl, b7⟩
        have K7 := Lib.hid (K6.out.call b7)
        clear b7 K6 HMn
        go_wp2_with fail
        refine (HS.out _ K7.out.below).mono ?_
        rintro x w8 ⟨rfl, b8⟩
        have K8 := Lib.hid (K7.out.call b8)
        clear b8 K7 HS
        go_wp2_with fail
        refine (awake05 _).mono ?_
        rintro x w9 ⟨rfl, b9⟩
        have K9 := Lib.hid (K8.out.call b9)
        clear b9 K8
        go_wp2
        go_ret
        exact ⟨rfl, K9.out.below⟩
    | false =>
      cases r2 <;> (
      clear P1 P2 HM
      have K4 := K3
      clear K3
      go_wp2_with fail
      refine (HCn.out _ K4.out.below).mono ?_
      rintro x w5 ⟨rfl, b5⟩
      have K5 := Lib.hid (K4.out.call b5)
      clear b5 K4 HCn
      go_wp2_with (first | (refine wpList_row 37 _ rfl (by rfl) _ _ rfl _ (run_loadVar_row _ _ _ 37 _ (0, 0) _ (KR.at K5.out 0 rfl) Try.underlying37 rfl (by kernel_rfl)) ?_) | fail)
      refine (HTn.out _).mono ?_
      rintro x w6 ⟨rfl, b6⟩
      have K6 := Lib.hid (K5.out.call b6)
      clear b6 K5 HTn
      go_wp2_with fail
      refine (HMn.out _ K6.out.below).mono ?_
      rintro x w7 ⟨rfl, b7⟩
      have K7 := Lib.hid (K6.out.call b7)
      clear b7 K6 HMn
      go_wp2_with fail
      refine (HS.out _ K7.out.below).mono ?_
      rintro x w8 ⟨rfl, b8⟩
      have K8 := Lib.hid (K7.out.call b8)
      clear b8 K7 HS
      go_wp2_with fail
      refine (awake05 _).mono ?_
      rintro x w9 ⟨rfl, b9⟩
      have K9 := Lib.hid (K8.out.call b9)
      clear b9 K8
      go_wp2
      go_ret
      exact ⟨rfl, K9.out.below⟩)
end Go.Proofs.Ytaaadbmhcfjooaa
