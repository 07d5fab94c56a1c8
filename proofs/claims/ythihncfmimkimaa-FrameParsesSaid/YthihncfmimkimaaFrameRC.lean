/- The walk of the reference's Right. -/
import Derived.Test.YthihncfmimkimaaFrameRB
namespace Go.Proofs.Ythihncfmimkimaa
open Go.RowKit
set_option linter.unusedVariables false

set_option maxRecDepth 100000 in
set_option maxHeartbeats 16000000 in
theorem rRight_any (w : World) (p : Pkt) (hu : okU p) : Calls Try.prog 17 #[valPkt p] w fun x w' => x = .returned (.bool (decide (rightP p))) ∧ Below w.heap.size w w' := by
  have HI := Lib.hid in_any
  have HP := Lib.hid (fun W => rported_any W p)
  obtain ⟨u1, u2, u3, u4, u5, u6⟩ := hu
  have e1 : ∀ n lo hi, inF n lo hi = decide (lo ≤ n ∧ n ≤ hi) := fun _ _ _ => rfl
  have e5 : portedF p = decide (p.fProto = 6 ∨ p.fProto = 17) := by unfold portedF; rw [Bool.decide_or]; rfl
  by_cases h1 : 0 < p.fTo / 281474976710656
  · have t1 : decide (0 < p.fTo / 281474976710656) = true := by simp; omega
    have HZ : Hid (decide (rightP p) = false) := Lib.hid (by exact decide_eq_false (fun h => by have := h.1; omega))
    clear e1 e5
    try clear h1
    try clear h2
    try clear h3
    try clear h4
    try clear h5
    try clear h6
    try clear h7
    try clear h8
    try clear h9
    try clear h10
    try clear h11
    try clear h12
    try clear h13
    try clear h14
    try clear h15
    try clear h16
    try clear h17
    generalize decide (rightP p) = rr at *
    go_enter Try.func17, Try.ntmps17
    go_upto_region 1 with fail
    refine one_box_wp ?_
    intro W hb1 hbel hsz
    have hs := hsz.out
    have c0 := hb1.cell 0 _ (pktC_0 p)
    have c1 := hb1.cell 1 _ (pktC_1 p)
    have c2 := hb1.cell 2 _ (pktC_2 p)
    have c3 := hb1.cell 3 _ (pktC_3 p)
    have c4 := hb1.cell 4 _ (pktC_4 p)
    have c5 := hb1.cell 5 _ (pktC_5 p)
    have c6 := hb1.cell 6 _ (pktC_6 p)
    have c7 := hb1.cell 7 _ (pktC_7 p)
    have c8 := hb1.cell 8 _ (pktC_8 p)
    have c9 := hb1.cell 9 _ (pktC_9 p)
    have HK := Lib.hid hb1
    have HB := Lib.hid hbel
    clear hb1 hbel hsz
    go_wp2_with (first
      | (go_at_call 30; refine (HI.out _ _ _ _).mono ?_; rintro x w' ⟨rfl, rfl⟩)
      | fail)
    go_ret
    exact ⟨ret_bool HZ.out.symm, HB.out⟩
  have t1 : decide (0 < p.fTo / 281474976710656) = false := by simp; omega
  by_cases h2 : 0 < p.fFrom / 281474976710656
  · have t2 : decide (0 < p.fFrom / 281474976710656) = true := by simp; omega
    have HZ : Hid (decide (rightP p) = false) := Lib.hid (by exact decide_eq_false (fun h => by have := h.1; omega))
    clear e1 e5
    try clear h1
    try clear h2
    try clear h3
    try clear h4
    try clear h5
    try clear h6
    try clear h7
    try clear h8
    try clear h9
    try clear h10
    try clear h11
    try clear h12
    try clear h13
    try clear h14
    try clear h15
    try clear h16
    try clear h17
    generalize decide (rightP p) = rr at *
    go_enter Try.func17, Try.ntmps17
    go_upto_region 1 with fail
    refine one_box_wp ?_
    intro W hb1 hbel hsz
    have hs := hsz.out
    have c0 := hb1.cell 0 _ (pktC_0 p)
    have c1 := hb1.cell 1 _ (pktC_1 p)
    have c2 := hb1.cell 2 _ (pktC_2 p)
    have c3 := hb1.cell 3 _ (pktC_3 p)
    have c4 := hb1.cell 4 _ (pktC_4 p)
    have c5 := hb1.cell 5 _ (pktC_5 p)
    have c6 := hb1.cell 6 _ (pktC_6 p)
    have c7 := hb1.cell 7 _ (pktC_7 p)
    have c8 := hb1.cell 8 _ (pktC_8 p)
    have c9 := hb1.cell 9 _ (pktC_9 p)
    have HK := Lib.hid hb1
    have HB := Lib.hid hbel
    clear hb1 hbel hsz
    go_wp2_with (first
      | (go_at_call 30; refine (HI.out _ _ _ _).mono ?_; rintro x w' ⟨rfl, rfl⟩)
      | fail)
    go_ret
    exact ⟨ret_bool HZ.out.symm, HB.out⟩
  have t2 : decide (0 < p.fFrom / 281474976710656) = false := by simp; omega
  have hw : (∃ x : Unit, (p.fVlan != 0) = true ∧ inF p.fVlan 4096 8191 = false ∧ ¬ (p.fVlan = 0 ∨ 4096 ≤ p.fVlan ∧ p.fVlan ≤ 8191)) ∨ (∃ x : Unit, (p.fVlan != 0) = false ∧ (p.fVlan = 0 ∨ 4096 ≤ p.fVlan ∧ p.fVlan ≤ 8191)) ∨ (∃ x : Unit, (p.fVlan != 0) = true ∧ inF p.fVlan 4096 8191 = true ∧ (p.fVlan = 0 ∨ 4096 ≤ p.fVlan ∧ p.fVlan ≤ 8191)) := by
    by_cases h : p.fVlan = 0
    · exact .inr (.inl ⟨(), by simpa using h, .inl h⟩)
    · by_cases h' : 4096 ≤ p.fVlan ∧ p.fVlan ≤ 8191
      · exact .inr (.inr ⟨(), by simpa using h, by rw [e1]; exact decide_eq_true h', .inr h'⟩)
      · exact .inl ⟨(), by simpa using h, by rw [e1]; exact decide_eq_false h', by omega⟩
  rcases hw with ⟨_, t3, t4, h3⟩ | hw
  · have t0 := trivial
    have HZ : Hid (decide (rightP p) = false) := Lib.hid (by exact decide_eq_false (fun h => by have := h.1; omega))
    clear e1 e5
    try clear h1
    try clear h2
    try clear h3
    try clear h4
    try clear h5
    try clear h6
    try clear h7
    try clear h8
    try clear h9
    try clear h10
    try clear h11
    try clear h12
    try clear h13
    try clear h14
    try clear h15
    try clear h16
    try clear h17
    generalize decide (rightP p) = rr at *
    go_enter Try.func17, Try.ntmps17
    go_upto_region 1 with fail
    refine one_box_wp ?_
    intro W hb1 hbel hsz
    have hs := hsz.out
    have c0 := hb1.cell 0 _ (pktC_0 p)
    have c1 := hb1.cell 1 _ (pktC_1 p)
    have c2 := hb1.cell 2 _ (pktC_2 p)
    have c3 := hb1.cell 3 _ (pktC_3 p)
    have c4 := hb1.cell 4 _ (pktC_4 p)
    have c5 := hb1.cell 5 _ (pktC_5 p)
    have c6 := hb1.cell 6 _ (pktC_6 p)
    have c7 := hb1.cell 7 _ (pktC_7 p)
    have c8 := hb1.cell 8 _ (pktC_8 p)
    have c9 := hb1.cell 9 _ (pktC_9 p)
    have HK := Lib.hid hb1
    have HB := Lib.hid hbel
    clear hb1 hbel hsz
    go_wp2_with (first
      | (go_at_call 30; refine (HI.out _ _ _ _).mono ?_; rintro x w' ⟨rfl, rfl⟩)
      | fail)
    go_ret
    exact ⟨ret_bool HZ.out.symm, HB.out⟩
  rcases hw with ⟨_, t3, h3⟩ | ⟨_, t3, t4, h3⟩
  all_goals
    by_cases h5 : 1536 ≤ p.fType ∧ p.fType ≤ 65535
    rotate_left
    · have t5 : inF p.fType 1536 65535 = false := by rw [e1]; first | exact decide_eq_true h5 | exact decide_eq_false h5
      have HZ : Hid (decide (rightP p) = false) := Lib.hid (by exact decide_eq_false (fun h => by have := h.1; omega))
      clear e1 e5
      try clear h1
      try clear h2
      try clear h3
      try clear h4
      try clear h5
      try clear h6
      try clear h7
      try clear h8
      try clear h9
      try clear h10
      try clear h11
      try clear h12
      try clear h13
      try clear h14
      try clear h15
      try clear h16
      try clear h17
      generalize decide (rightP p) = rr at *
      go_enter Try.func17, Try.ntmps17
      go_upto_region 1 with fail
      refine one_box_wp ?_
      intro W hb1 hbel hsz
      have hs := hsz.out
      have c0 := hb1.cell 0 _ (pktC_0 p)
      have c1 := hb1.cell 1 _ (pktC_1 p)
      have c2 := hb1.cell 2 _ (pktC_2 p)
      have c3 := hb1.cell 3 _ (pktC_3 p)
      have c4 := hb1.cell 4 _ (pktC_4 p)
      have c5 := hb1.cell 5 _ (pktC_5 p)
      have c6 := hb1.cell 6 _ (pktC_6 p)
      have c7 := hb1.cell 7 _ (pktC_7 p)
      have c8 := hb1.cell 8 _ (pktC_8 p)
      have c9 := hb1.cell 9 _ (pktC_9 p)
      have HK := Lib.hid hb1
      have HB := Lib.hid hbel
      clear hb1 hbel hsz
      go_wp2_with (first
        | (go_at_call 30; refine (HI.out _ _ _ _).mono ?_; rintro x w' ⟨rfl, rfl⟩)
        | fail)
      go_ret
      exact ⟨ret_bool HZ.out.symm, HB.out⟩
    have t5 : inF p.fType 1536 65535 = true := by rw [e1]; first | exact decide_eq_true h5 | exact decide_eq_false h5
    by_cases h7 : p.fType = 33024
    · have t7 : (p.fType == 33024) = true := by simpa using h7
      have HZ : Hid (decide (rightP p) = false) := Lib.hid (by exact decide_eq_false (fun h => by have := h.1; omega))
      clear e1 e5
      try clear h1
      try clear h2
      try clear h3
      try clear h4
      try clear h5
      try clear h6
      try clear h7
      try clear h8
      try clear h9
      try clear h10
      try clear h11
      try clear h12
      try clear h13
      try clear h14
      try clear h15
      try clear h16
      try clear h17
      generalize decide (rightP p) = rr at *
      go_enter Try.func17, Try.ntmps17
      go_upto_region 1 with fail
      refine one_box_wp ?_
      intro W hb1 hbel hsz
      have hs := hsz.out
      have c0 := hb1.cell 0 _ (pktC_0 p)
      have c1 := hb1.cell 1 _ (pktC_1 p)
      have c2 := hb1.cell 2 _ (pktC_2 p)
      have c3 := hb1.cell 3 _ (pktC_3 p)
      have c4 := hb1.cell 4 _ (pktC_4 p)
      have c5 := hb1.cell 5 _ (pktC_5 p)
      have c6 := hb1.cell 6 _ (pktC_6 p)
      have c7 := hb1.cell 7 _ (pktC_7 p)
      have c8 := hb1.cell 8 _ (pktC_8 p)
      have c9 := hb1.cell 9 _ (pktC_9 p)
      have HK := Lib.hid hb1
      have HB := Lib.hid hbel
      clear hb1 hbel hsz
      go_wp2_with (first
        | (go_at_call 30; refine (HI.out _ _ _ _).mono ?_; rintro x w' ⟨rfl, rfl⟩)
        | fail)
      go_ret
      exact ⟨ret_bool HZ.out.symm, HB.out⟩
    have t7 : (p.fType == 33024) = false := by simpa using h7
    by_cases h8 : p.fType = 2048
    rotate_left
    · have t8 : (p.fType != 2048) = true := by simpa using h8
      by_cases h9 : p.fSrc = 0
      rotate_left
      · have t9 : (p.fSrc == 0) = false := by simpa using h9
        have HZ : Hid (decide (rightP p) = false) := Lib.hid (by exact decide_eq_false (fun h => by have := h.2.1 h8; omega))
        clear e1 e5
        try clear h1
        try clear h2
        try clear h3
        try clear h4
        try clear h5
        try clear h6
        try clear h7
        try clear h8
        try clear h9
        try clear h10
        try clear h11
        try clear h12
        try clear h13
        try clear h14
        try clear h15
        try clear h16
        try clear h17
        generalize decide (rightP p) = rr at *
        go_enter Try.func17, Try.ntmps17
        go_upto_region 1 with fail
        refine one_box_wp ?_
        intro W hb1 hbel hsz
        have hs := hsz.out
        have c0 := hb1.cell 0 _ (pktC_0 p)
        have c1 := hb1.cell 1 _ (pktC_1 p)
        have c2 := hb1.cell 2 _ (pktC_2 p)
        have c3 := hb1.cell 3 _ (pktC_3 p)
        have c4 := hb1.cell 4 _ (pktC_4 p)
        have c5 := hb1.cell 5 _ (pktC_5 p)
        have c6 := hb1.cell 6 _ (pktC_6 p)
        have c7 := hb1.cell 7 _ (pktC_7 p)
        have c8 := hb1.cell 8 _ (pktC_8 p)
        have c9 := hb1.cell 9 _ (pktC_9 p)
        have HK := Lib.hid hb1
        have HB := Lib.hid hbel
        clear hb1 hbel hsz
        go_wp2_with (first
          | (go_at_call 30; refine (HI.out _ _ _ _).mono ?_; rintro x w' ⟨rfl, rfl⟩)
          | fail)
        go_ret
        exact ⟨ret_bool HZ.out.symm, HB.out⟩
      have t9 : (p.fSrc == 0) = true := by simpa using h9
      by_cases h10 : p.fDst = 0
      rotate_left
      · have t10 : (p.fDst == 0) = false := by simpa using h10
        have HZ : Hid (decide (rightP p) = false) := Lib.hid (by exact decide_eq_false (fun h => by have := h.2.1 h8; omega))
        clear e1 e5
        try clear h1
        try clear h2
        try clear h3
        try clear h4
        try clear h5
        try clear h6
        try clear h7
        try clear h8
        try clear h9
        try clear h10
        try clear h11
        try clear h12
        try clear h13
        try clear h14
        try clear h15
        try clear h16
        try clear h17
        generalize decide (rightP p) = rr at *
        go_enter Try.func17, Try.ntmps17
        go_upto_region 1 with fail
        refine one_box_wp ?_
        intro W hb1 hbel hsz
        have hs := hsz.out
        have c0 := hb1.cell 0 _ (pktC_0 p)
        have c1 := hb1.cell 1 _ (pktC_1 p)
        have c2 := hb1.cell 2 _ (pktC_2 p)
        have c3 := hb1.cell 3 _ (pktC_3 p)
        have c4 := hb1.cell 4 _ (pktC_4 p)
        have c5 := hb1.cell 5 _ (pktC_5 p)
        have c6 := hb1.cell 6 _ (pktC_6 p)
        have c7 := hb1.cell 7 _ (pktC_7 p)
        have c8 := hb1.cell 8 _ (pktC_8 p)
        have c9 := hb1.cell 9 _ (pktC_9 p)
        have HK := Lib.hid hb1
        have HB := Lib.hid hbel
        clear hb1 hbel hsz
        go_wp2_with (first
          | (go_at_call 30; refine (HI.out _ _ _ _).mono ?_; rintro x w' ⟨rfl, rfl⟩)
          | fail)
        go_ret
        exact ⟨ret_bool HZ.out.symm, HB.out⟩
      have t10 : (p.fDst == 0) = true := by simpa using h10
      by_cases h11 : p.fLife = 0
      rotate_left
      · have t11 : (p.fLife == 0) = false := by simpa using h11
        have HZ : Hid (decide (rightP p) = false) := Lib.hid (by exact decide_eq_false (fun h => by have := h.2.1 h8; omega))
        clear e1 e5
        try clear h1
        try clear h2
        try clear h3
        try clear h4
        try clear h5
        try clear h6
        try clear h7
        try clear h8
        try clear h9
        try clear h10
        try clear h11
        try clear h12
        try clear h13
        try clear h14
        try clear h15
        try clear h16
        try clear h17
        generalize decide (rightP p) = rr at *
        go_enter Try.func17, Try.ntmps17
        go_upto_region 1 with fail
        refine one_box_wp ?_
        intro W hb1 hbel hsz
        have hs := hsz.out
        have c0 := hb1.cell 0 _ (pktC_0 p)
        have c1 := hb1.cell 1 _ (pktC_1 p)
        have c2 := hb1.cell 2 _ (pktC_2 p)
        have c3 := hb1.cell 3 _ (pktC_3 p)
        have c4 := hb1.cell 4 _ (pktC_4 p)
        have c5 := hb1.cell 5 _ (pktC_5 p)
        have c6 := hb1.cell 6 _ (pktC_6 p)
        have c7 := hb1.cell 7 _ (pktC_7 p)
        have c8 := hb1.cell 8 _ (pktC_8 p)
        have c9 := hb1.cell 9 _ (pktC_9 p)
        have HK := Lib.hid hb1
        have HB := Lib.hid hbel
        clear hb1 hbel hsz
        go_wp2_with (first
          | (go_at_call 30; refine (HI.out _ _ _ _).mono ?_; rintro x w' ⟨rfl, rfl⟩)
          | fail)
        go_ret
        exact ⟨ret_bool HZ.out.symm, HB.out⟩
      have t11 : (p.fLife == 0) = true := by simpa using h11
      by_cases h12 : p.fProto = 0
      rotate_left
      · have t12 : (p.fProto == 0) = false := by simpa using h12
        have HZ : Hid (decide (rightP p) = false) := Lib.hid (by exact decide_eq_false (fun h => by have := h.2.1 h8; omega))
        clear e1 e5
        try clear h1
        try clear h2
        try clear h3
        try clear h4
        try clear h5
        try clear h6
        try clear h7
        try clear h8
        try clear h9
        try clear h10
        try clear h11
        try clear h12
        try clear h13
        try clear h14
        try clear h15
        try clear h16
        try clear h17
        generalize decide (rightP p) = rr at *
        go_enter Try.func17, Try.ntmps17
        go_upto_region 1 with fail
        refine one_box_wp ?_
        intro W hb1 hbel hsz
        have hs := hsz.out
        have c0 := hb1.cell 0 _ (pktC_0 p)
        have c1 := hb1.cell 1 _ (pktC_1 p)
        have c2 := hb1.cell 2 _ (pktC_2 p)
        have c3 := hb1.cell 3 _ (pktC_3 p)
        have c4 := hb1.cell 4 _ (pktC_4 p)
        have c5 := hb1.cell 5 _ (pktC_5 p)
        have c6 := hb1.cell 6 _ (pktC_6 p)
        have c7 := hb1.cell 7 _ (pktC_7 p)
        have c8 := hb1.cell 8 _ (pktC_8 p)
        have c9 := hb1.cell 9 _ (pktC_9 p)
        have HK := Lib.hid hb1
        have HB := Lib.hid hbel
        clear hb1 hbel hsz
        go_wp2_with (first
          | (go_at_call 30; refine (HI.out _ _ _ _).mono ?_; rintro x w' ⟨rfl, rfl⟩)
          | fail)
        go_ret
        exact ⟨ret_bool HZ.out.symm, HB.out⟩
      have t12 : (p.fProto == 0) = true := by simpa using h12
      by_cases h13 : p.fSport = 0
      rotate_left
      · have t13 : (p.fSport == 0) = false := by simpa using h13
        have HZ : Hid (decide (rightP p) = false) := Lib.hid (by exact decide_eq_false (fun h => by have := h.2.1 h8; omega))
        clear e1 e5
        try clear h1
        try clear h2
        try clear h3
        try clear h4
        try clear h5
        try clear h6
        try clear h7
        try clear h8
        try clear h9
        try clear h10
        try clear h11
        try clear h12
        try clear h13
        try clear h14
        try clear h15
        try clear h16
        try clear h17
        generalize decide (rightP p) = rr at *
        go_enter Try.func17, Try.ntmps17
        go_upto_region 1 with fail
        refine one_box_wp ?_
        intro W hb1 hbel hsz
        have hs := hsz.out
        have c0 := hb1.cell 0 _ (pktC_0 p)
        have c1 := hb1.cell 1 _ (pktC_1 p)
        have c2 := hb1.cell 2 _ (pktC_2 p)
        have c3 := hb1.cell 3 _ (pktC_3 p)
        have c4 := hb1.cell 4 _ (pktC_4 p)
        have c5 := hb1.cell 5 _ (pktC_5 p)
        have c6 := hb1.cell 6 _ (pktC_6 p)
        have c7 := hb1.cell 7 _ (pktC_7 p)
        have c8 := hb1.cell 8 _ (pktC_8 p)
        have c9 := hb1.cell 9 _ (pktC_9 p)
        have HK := Lib.hid hb1
        have HB := Lib.hid hbel
        clear hb1 hbel hsz
        go_wp2_with (first
          | (go_at_call 30; refine (HI.out _ _ _ _).mono ?_; rintro x w' ⟨rfl, rfl⟩)
          | fail)
        go_ret
        exact ⟨ret_bool HZ.out.symm, HB.out⟩
      have t13 : (p.fSport == 0) = true := by simpa using h13
      by_cases h14 : p.fDport = 0
      rotate_left
      · have t14 : (p.fDport == 0) = false := by simpa using h14
        have HZ : Hid (decide (rightP p) = false) := Lib.hid (by exact decide_eq_false (fun h => by have := h.2.1 h8; omega))
        clear e1 e5
        try clear h1
        try clear h2
        try clear h3
        try clear h4
        try clear h5
        try clear h6
        try clear h7
        try clear h8
        try clear h9
        try clear h10
        try clear h11
        try clear h12
        try clear h13
        try clear h14
        try clear h15
        try clear h16
        try clear h17
        generalize decide (rightP p) = rr at *
        go_enter Try.func17, Try.ntmps17
        go_upto_region 1 with fail
        refine one_box_wp ?_
        intro W hb1 hbel hsz
        have hs := hsz.out
        have c0 := hb1.cell 0 _ (pktC_0 p)
        have c1 := hb1.cell 1 _ (pktC_1 p)
        have c2 := hb1.cell 2 _ (pktC_2 p)
        have c3 := hb1.cell 3 _ (pktC_3 p)
        have c4 := hb1.cell 4 _ (pktC_4 p)
        have c5 := hb1.cell 5 _ (pktC_5 p)
        have c6 := hb1.cell 6 _ (pktC_6 p)
        have c7 := hb1.cell 7 _ (pktC_7 p)
        have c8 := hb1.cell 8 _ (pktC_8 p)
        have c9 := hb1.cell 9 _ (pktC_9 p)
        have HK := Lib.hid hb1
        have HB := Lib.hid hbel
        clear hb1 hbel hsz
        go_wp2_with (first
          | (go_at_call 30; refine (HI.out _ _ _ _).mono ?_; rintro x w' ⟨rfl, rfl⟩)
          | fail)
        go_ret
        exact ⟨ret_bool HZ.out.symm, HB.out⟩
      have t14 : (p.fDport == 0) = true := by simpa using h14
      have HZ : Hid (decide (rightP p) = true) := Lib.hid (by exact decide_eq_true ⟨⟨by omega, by omega, by omega, by omega, by omega, by omega⟩, fun _ => ⟨h9, h10, h11, h12, h13, h14⟩, fun h => absurd h h8⟩)
      clear e1 e5
      try clear h1
      try clear h2
      try clear h3
      try clear h4
      try clear h5
      try clear h6
      try clear h7
      try clear h8
      try clear h9
      try clear h10
      try clear h11
      try clear h12
      try clear h13
      try clear h14
      try clear h15
      try clear h16
      try clear h17
      generalize decide (rightP p) = rr at *
      go_enter Try.func17, Try.ntmps17
      go_upto_region 1 with fail
      refine one_box_wp ?_
      intro W hb1 hbel hsz
      have hs := hsz.out
      have c0 := hb1.cell 0 _ (pktC_0 p)
      have c1 := hb1.cell 1 _ (pktC_1 p)
      have c2 := hb1.cell 2 _ (pktC_2 p)
      have c3 := hb1.cell 3 _ (pktC_3 p)
      have c4 := hb1.cell 4 _ (pktC_4 p)
      have c5 := hb1.cell 5 _ (pktC_5 p)
      have c6 := hb1.cell 6 _ (pktC_6 p)
      have c7 := hb1.cell 7 _ (pktC_7 p)
      have c8 := hb1.cell 8 _ (pktC_8 p)
      have c9 := hb1.cell 9 _ (pktC_9 p)
      have HK := Lib.hid hb1
      have HB := Lib.hid hbel
      clear hb1 hbel hsz
      go_wp2_with (first
        | (go_at_call 30; refine (HI.out _ _ _ _).mono ?_; rintro x w' ⟨rfl, rfl⟩)
        | fail)
      go_ret
      exact ⟨ret_bool HZ.out.symm, HB.out⟩
    have t8 : (p.fType != 2048) = false := by simpa using h8
    by_cases h9 : 0 ≤ p.fLife ∧ p.fLife ≤ 255
    rotate_left
    · have t9 : inF p.fLife 0 255 = false := by rw [e1]; first | exact decide_eq_true h9 | exact decide_eq_false h9
      have HZ : Hid (decide (rightP p) = false) := Lib.hid (by exact decide_eq_false (fun h => by have := h.2.2 h8; omega))
      clear e1 e5
      try clear h1
      try clear h2
      try clear h3
      try clear h4
      try clear h5
      try clear h6
      try clear h7
      try clear h8
      try clear h9
      try clear h10
      try clear h11
      try clear h12
      try clear h13
      try clear h14
      try clear h15
      try clear h16
      try clear h17
      generalize decide (rightP p) = rr at *
      go_enter Try.func17, Try.ntmps17
      go_upto_region 1 with fail
      refine one_box_wp ?_
      intro W hb1 hbel hsz
      have hs := hsz.out
      have c0 := hb1.cell 0 _ (pktC_0 p)
      have c1 := hb1.cell 1 _ (pktC_1 p)
      have c2 := hb1.cell 2 _ (pktC_2 p)
      have c3 := hb1.cell 3 _ (pktC_3 p)
      have c4 := hb1.cell 4 _ (pktC_4 p)
      have c5 := hb1.cell 5 _ (pktC_5 p)
      have c6 := hb1.cell 6 _ (pktC_6 p)
      have c7 := hb1.cell 7 _ (pktC_7 p)
      have c8 := hb1.cell 8 _ (pktC_8 p)
      have c9 := hb1.cell 9 _ (pktC_9 p)
      have HK := Lib.hid hb1
      have HB := Lib.hid hbel
      clear hb1 hbel hsz
      go_wp2_with (first
        | (go_at_call 30; refine (HI.out _ _ _ _).mono ?_; rintro x w' ⟨rfl, rfl⟩)
        | fail)
      go_ret
      exact ⟨ret_bool HZ.out.symm, HB.out⟩
    have t9 : inF p.fLife 0 255 = true := by rw [e1]; first | exact decide_eq_true h9 | exact decide_eq_false h9
    by_cases h10 : 0 ≤ p.fProto ∧ p.fProto ≤ 255
    rotate_left
    · have t10 : inF p.fProto 0 255 = false := by rw [e1]; first | exact decide_eq_true h10 | exact decide_eq_false h10
      have HZ : Hid (decide (rightP p) = false) := Lib.hid (by exact decide_eq_false (fun h => by have := h.2.2 h8; omega))
      clear e1 e5
      try clear h1
      try clear h2
      try clear h3
      try clear h4
      try clear h5
      try clear h6
      try clear h7
      try clear h8
      try clear h9
      try clear h10
      try clear h11
      try clear h12
      try clear h13
      try clear h14
      try clear h15
      try clear h16
      try clear h17
      generalize decide (rightP p) = rr at *
      go_enter Try.func17, Try.ntmps17
      go_upto_region 1 with fail
      refine one_box_wp ?_
      intro W hb1 hbel hsz
      have hs := hsz.out
      have c0 := hb1.cell 0 _ (pktC_0 p)
      have c1 := hb1.cell 1 _ (pktC_1 p)
      have c2 := hb1.cell 2 _ (pktC_2 p)
      have c3 := hb1.cell 3 _ (pktC_3 p)
      have c4 := hb1.cell 4 _ (pktC_4 p)
      have c5 := hb1.cell 5 _ (pktC_5 p)
      have c6 := hb1.cell 6 _ (pktC_6 p)
      have c7 := hb1.cell 7 _ (pktC_7 p)
      have c8 := hb1.cell 8 _ (pktC_8 p)
      have c9 := hb1.cell 9 _ (pktC_9 p)
      have HK := Lib.hid hb1
      have HB := Lib.hid hbel
      clear hb1 hbel hsz
      go_wp2_with (first
        | (go_at_call 30; refine (HI.out _ _ _ _).mono ?_; rintro x w' ⟨rfl, rfl⟩)
        | fail)
      go_ret
      exact ⟨ret_bool HZ.out.symm, HB.out⟩
    have t10 : inF p.fProto 0 255 = true := by rw [e1]; first | exact decide_eq_true h10 | exact decide_eq_false h10
    by_cases h11 : 0 ≤ p.fSport ∧ p.fSport ≤ 65535
    rotate_left
    · have t11 : inF p.fSport 0 65535 = false := by rw [e1]; first | exact decide_eq_true h11 | exact decide_eq_false h11
      have HZ : Hid (decide (rightP p) = false) := Lib.hid (by exact decide_eq_false (fun h => by have := h.2.2 h8; omega))
      clear e1 e5
      try clear h1
      try clear h2
      try clear h3
      try clear h4
      try clear h5
      try clear h6
      try clear h7
      try clear h8
      try clear h9
      try clear h10
      try clear h11
      try clear h12
      try clear h13
      try clear h14
      try clear h15
      try clear h16
      try clear h17
      generalize decide (rightP p) = rr at *
      go_enter Try.func17, Try.ntmps17
      go_upto_region 1 with fail
      refine one_box_wp ?_
      intro W hb1 hbel hsz
      have hs := hsz.out
      have c0 := hb1.cell 0 _ (pktC_0 p)
      have c1 := hb1.cell 1 _ (pktC_1 p)
      have c2 := hb1.cell 2 _ (pktC_2 p)
      have c3 := hb1.cell 3 _ (pktC_3 p)
      have c4 := hb1.cell 4 _ (pktC_4 p)
      have c5 := hb1.cell 5 _ (pktC_5 p)
      have c6 := hb1.cell 6 _ (pktC_6 p)
      have c7 := hb1.cell 7 _ (pktC_7 p)
      have c8 := hb1.cell 8 _ (pktC_8 p)
      have c9 := hb1.cell 9 _ (pktC_9 p)
      have HK := Lib.hid hb1
      have HB := Lib.hid hbel
      clear hb1 hbel hsz
      go_wp2_with (first
        | (go_at_call 30; refine (HI.out _ _ _ _).mono ?_; rintro x w' ⟨rfl, rfl⟩)
        | fail)
      go_ret
      exact ⟨ret_bool HZ.out.symm, HB.out⟩
    have t11 : inF p.fSport 0 65535 = true := by rw [e1]; first | exact decide_eq_true h11 | exact decide_eq_false h11
    by_cases h12 : 0 ≤ p.fDport ∧ p.fDport ≤ 65535
    rotate_left
    · have t12 : inF p.fDport 0 65535 = false := by rw [e1]; first | exact decide_eq_true h12 | exact decide_eq_false h12
      have HZ : Hid (decide (rightP p) = false) := Lib.hid (by exact decide_eq_false (fun h => by have := h.2.2 h8; omega))
      clear e1 e5
      try clear h1
      try clear h2
      try clear h3
      try clear h4
      try clear h5
      try clear h6
      try clear h7
      try clear h8
      try clear h9
      try clear h10
      try clear h11
      try clear h12
      try clear h13
      try clear h14
      try clear h15
      try clear h16
      try clear h17
      generalize decide (rightP p) = rr at *
      go_enter Try.func17, Try.ntmps17
      go_upto_region 1 with fail
      refine one_box_wp ?_
      intro W hb1 hbel hsz
      have hs := hsz.out
      have c0 := hb1.cell 0 _ (pktC_0 p)
      have c1 := hb1.cell 1 _ (pktC_1 p)
      have c2 := hb1.cell 2 _ (pktC_2 p)
      have c3 := hb1.cell 3 _ (pktC_3 p)
      have c4 := hb1.cell 4 _ (pktC_4 p)
      have c5 := hb1.cell 5 _ (pktC_5 p)
      have c6 := hb1.cell 6 _ (pktC_6 p)
      have c7 := hb1.cell 7 _ (pktC_7 p)
      have c8 := hb1.cell 8 _ (pktC_8 p)
      have c9 := hb1.cell 9 _ (pktC_9 p)
      have HK := Lib.hid hb1
      have HB := Lib.hid hbel
      clear hb1 hbel hsz
      go_wp2_with (first
        | (go_at_call 30; refine (HI.out _ _ _ _).mono ?_; rintro x w' ⟨rfl, rfl⟩)
        | fail)
      go_ret
      exact ⟨ret_bool HZ.out.symm, HB.out⟩
    have t12 : inF p.fDport 0 65535 = true := by rw [e1]; first | exact decide_eq_true h12 | exact decide_eq_false h12
    by_cases h13 : p.fProto = 6 ∨ p.fProto = 17
    · have t13 : portedF p = true := by rw [e5]; exact decide_eq_true h13
      have HZ : Hid (decide (rightP p) = true) := Lib.hid (by exact decide_eq_true ⟨⟨by omega, by omega, by omega, by omega, by omega, by omega⟩, fun h => absurd h8 h, fun _ => ⟨h9.1, h9.2, h10.1, h10.2, h11.1, h11.2, h12.1, h12.2, by omega⟩⟩)
      clear e1 e5
      try clear h1
      try clear h2
      try clear h3
      try clear h4
      try clear h5
      try clear h6
      try clear h7
      try clear h8
      try clear h9
      try clear h10
      try clear h11
      try clear h12
      try clear h13
      try clear h14
      try clear h15
      try clear h16
      try clear h17
      generalize decide (rightP p) = rr at *
      go_enter Try.func17, Try.ntmps17
      go_upto_region 1 with fail
      refine one_box_wp ?_
      intro W hb1 hbel hsz
      have hs := hsz.out
      have c0 := hb1.cell 0 _ (pktC_0 p)
      have c1 := hb1.cell 1 _ (pktC_1 p)
      have c2 := hb1.cell 2 _ (pktC_2 p)
      have c3 := hb1.cell 3 _ (pktC_3 p)
      have c4 := hb1.cell 4 _ (pktC_4 p)
      have c5 := hb1.cell 5 _ (pktC_5 p)
      have c6 := hb1.cell 6 _ (pktC_6 p)
      have c7 := hb1.cell 7 _ (pktC_7 p)
      have c8 := hb1.cell 8 _ (pktC_8 p)
      have c9 := hb1.cell 9 _ (pktC_9 p)
      have HK := Lib.hid hb1
      have HB := Lib.hid hbel
      clear hb1 hbel hsz
      go_wp2_with (first
        | (refine wpList_row 25 _ rfl (by rfl) _ _ rfl _ (run_loadVar_row _ _ _ 25 _ (0, 0) _ HK.out Try.underlying25 rfl (by kernel_rfl)) ?_)
        | (go_at_call 30; refine (HI.out _ _ _ _).mono ?_; rintro x w' ⟨rfl, rfl⟩)
        | fail)
      refine (HP.out _).mono ?_
      rintro x w2 ⟨rfl, b2⟩
      have hk2 := HK.out.below b2 hs
      have k8 := hk2.cell 8 _ (pktC_8 p)
      have k9 := hk2.cell 9 _ (pktC_9 p)
      have HB2 := Lib.hid (HB.out.trans (b2.mono HB.out.size))
      clear b2 hk2 c0 c1 c2 c3 c4 c5 c6 c7 c8 c9 hs
      go_wp2_with fail
      go_ret
      exact ⟨ret_bool HZ.out.symm, HB2.out⟩
    have t13 : portedF p = false := by rw [e5]; exact decide_eq_false h13
    by_cases h14 : p.fSport = 0
    rotate_left
    · have t14 : (p.fSport == 0) = false := by simpa using h14
      have HZ : Hid (decide (rightP p) = false) := Lib.hid (by exact decide_eq_false (fun h => by have := h.2.2 h8; omega))
      clear e1 e5
      try clear h1
      try clear h2
      try clear h3
      try clear h4
      try clear h5
      try clear h6
      try clear h7
      try clear h8
      try clear h9
      try clear h10
      try clear h11
      try clear h12
      try clear h13
      try clear h14
      try clear h15
      try clear h16
      try clear h17
      generalize decide (rightP p) = rr at *
      go_enter Try.func17, Try.ntmps17
      go_upto_region 1 with fail
      refine one_box_wp ?_
      intro W hb1 hbel hsz
      have hs := hsz.out
      have c0 := hb1.cell 0 _ (pktC_0 p)
      have c1 := hb1.cell 1 _ (pktC_1 p)
      have c2 := hb1.cell 2 _ (pktC_2 p)
      have c3 := hb1.cell 3 _ (pktC_3 p)
      have c4 := hb1.cell 4 _ (pktC_4 p)
      have c5 := hb1.cell 5 _ (pktC_5 p)
      have c6 := hb1.cell 6 _ (pktC_6 p)
      have c7 := hb1.cell 7 _ (pktC_7 p)
      have c8 := hb1.cell 8 _ (pktC_8 p)
      have c9 := hb1.cell 9 _ (pktC_9 p)
      have HK := Lib.hid hb1
      have HB := Lib.hid hbel
      clear hb1 hbel hsz
      go_wp2_with (first
        | (refine wpList_row 25 _ rfl (by rfl) _ _ rfl _ (run_loadVar_row _ _ _ 25 _ (0, 0) _ HK.out Try.underlying25 rfl (by kernel_rfl)) ?_)
        | (go_at_call 30; refine (HI.out _ _ _ _).mono ?_; rintro x w' ⟨rfl, rfl⟩)
        | fail)
      refine (HP.out _).mono ?_
      rintro x w2 ⟨rfl, b2⟩
      have hk2 := HK.out.below b2 hs
      have k8 := hk2.cell 8 _ (pktC_8 p)
      have k9 := hk2.cell 9 _ (pktC_9 p)
      have HB2 := Lib.hid (HB.out.trans (b2.mono HB.out.size))
      clear b2 hk2 c0 c1 c2 c3 c4 c5 c6 c7 c8 c9 hs
      go_wp2_with fail
      go_ret
      exact ⟨ret_bool HZ.out.symm, HB2.out⟩
    have t14 : (p.fSport == 0) = true := by simpa using h14
    by_cases h15 : p.fDport = 0
    rotate_left
    · have t15 : (p.fDport == 0) = false := by simpa using h15
      have HZ : Hid (decide (rightP p) = false) := Lib.hid (by exact decide_eq_false (fun h => by have := h.2.2 h8; omega))
      clear e1 e5
      try clear h1
      try clear h2
      try clear h3
      try clear h4
      try clear h5
      try clear h6
      try clear h7
      try clear h8
      try clear h9
      try clear h10
      try clear h11
      try clear h12
      try clear h13
      try clear h14
      try clear h15
      try clear h16
      try clear h17
      generalize decide (rightP p) = rr at *
      go_enter Try.func17, Try.ntmps17
      go_upto_region 1 with fail
      refine one_box_wp ?_
      intro W hb1 hbel hsz
      have hs := hsz.out
      have c0 := hb1.cell 0 _ (pktC_0 p)
      have c1 := hb1.cell 1 _ (pktC_1 p)
      have c2 := hb1.cell 2 _ (pktC_2 p)
      have c3 := hb1.cell 3 _ (pktC_3 p)
      have c4 := hb1.cell 4 _ (pktC_4 p)
      have c5 := hb1.cell 5 _ (pktC_5 p)
      have c6 := hb1.cell 6 _ (pktC_6 p)
      have c7 := hb1.cell 7 _ (pktC_7 p)
      have c8 := hb1.cell 8 _ (pktC_8 p)
      have c9 := hb1.cell 9 _ (pktC_9 p)
      have HK := Lib.hid hb1
      have HB := Lib.hid hbel
      clear hb1 hbel hsz
      go_wp2_with (first
        | (refine wpList_row 25 _ rfl (by rfl) _ _ rfl _ (run_loadVar_row _ _ _ 25 _ (0, 0) _ HK.out Try.underlying25 rfl (by kernel_rfl)) ?_)
        | (go_at_call 30; refine (HI.out _ _ _ _).mono ?_; rintro x w' ⟨rfl, rfl⟩)
        | fail)
      refine (HP.out _).mono ?_
      rintro x w2 ⟨rfl, b2⟩
      have hk2 := HK.out.below b2 hs
      have k8 := hk2.cell 8 _ (pktC_8 p)
      have k9 := hk2.cell 9 _ (pktC_9 p)
      have HB2 := Lib.hid (HB.out.trans (b2.mono HB.out.size))
      clear b2 hk2 c0 c1 c2 c3 c4 c5 c6 c7 c8 c9 hs
      go_wp2_with fail
      go_ret
      exact ⟨ret_bool HZ.out.symm, HB2.out⟩
    have t15 : (p.fDport == 0) = true := by simpa using h15
    have HZ : Hid (decide (rightP p) = true) := Lib.hid (by exact decide_eq_true ⟨⟨by omega, by omega, by omega, by omega, by omega, by omega⟩, fun h => absurd h8 h, fun _ => ⟨h9.1, h9.2, h10.1, h10.2, h11.1, h11.2, h12.1, h12.2, by omega⟩⟩)
    clear e1 e5
    try clear h1
    try clear h2
    try clear h3
    try clear h4
    try clear h5
    try clear h6
    try clear h7
    try clear h8
    try clear h9
    try clear h10
    try clear h11
    try clear h12
    try clear h13
    try clear h14
    try clear h15
    try clear h16
    try clear h17
    generalize decide (rightP p) = rr at *
    go_enter Try.func17, Try.ntmps17
    go_upto_region 1 with fail
    refine one_box_wp ?_
    intro W hb1 hbel hsz
    have hs := hsz.out
    have c0 := hb1.cell 0 _ (pktC_0 p)
    have c1 := hb1.cell 1 _ (pktC_1 p)
    have c2 := hb1.cell 2 _ (pktC_2 p)
    have c3 := hb1.cell 3 _ (pktC_3 p)
    have c4 := hb1.cell 4 _ (pktC_4 p)
    have c5 := hb1.cell 5 _ (pktC_5 p)
    have c6 := hb1.cell 6 _ (pktC_6 p)
    have c7 := hb1.cell 7 _ (pktC_7 p)
    have c8 := hb1.cell 8 _ (pktC_8 p)
    have c9 := hb1.cell 9 _ (pktC_9 p)
    have HK := Lib.hid hb1
    have HB := Lib.hid hbel
    clear hb1 hbel hsz
    go_wp2_with (first
      | (refine wpList_row 25 _ rfl (by rfl) _ _ rfl _ (run_loadVar_row _ _ _ 25 _ (0, 0) _ HK.out Try.underlying25 rfl (by kernel_rfl)) ?_)
      | (go_at_call 30; refine (HI.out _ _ _ _).mono ?_; rintro x w' ⟨rfl, rfl⟩)
      | fail)
    refine (HP.out _).mono ?_
    rintro x w2 ⟨rfl, b2⟩
    have hk2 := HK.out.below b2 hs
    have k8 := hk2.cell 8 _ (pktC_8 p)
    have k9 := hk2.cell 9 _ (pktC_9 p)
    have HB2 := Lib.hid (HB.out.trans (b2.mono HB.out.size))
    clear b2 hk2 c0 c1 c2 c3 c4 c5 c6 c7 c8 c9 hs
    go_wp2_with fail
    go_ret
    exact ⟨ret_bool HZ.out.symm, HB2.out⟩
end Go.Proofs.Ythihncfmimkimaa
