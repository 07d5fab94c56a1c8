/- The walk of frame.right. -/
import Derived.Test.YthihncfmimkimaaFrameB
import Derived.Deep.Cut
namespace Go.Proofs.Ythihncfmimkimaa
open Go.RowKit
set_option linter.unusedVariables false

theorem below_1 (W : World) (m a : Int) : Calls Try.prog 24 #[.int .i64 m, .slice (some ⟨W.heap.size, 0, none⟩) 1 1] (W.alloc (.cells #[.int .i64 a] 3 (0, 0))) fun x w' => x = .returned (.bool (allB m [a])) ∧ W.alloc (.cells #[.int .i64 a] 3 (0, 0)) = w' := below_new W m [a] (by simp)
theorem below_2 (W : World) (m a b : Int) : Calls Try.prog 24 #[.int .i64 m, .slice (some ⟨W.heap.size, 0, none⟩) 2 2] (W.alloc (.cells #[.int .i64 a, .int .i64 b] 3 (0, 0))) fun x w' => x = .returned (.bool (allB m [a, b])) ∧ W.alloc (.cells #[.int .i64 a, .int .i64 b] 3 (0, 0)) = w' := below_new W m [a, b] (by simp)
theorem below_4 (W : World) (m a b c d : Int) : Calls Try.prog 24 #[.int .i64 m, .slice (some ⟨W.heap.size, 0, none⟩) 4 4] (W.alloc (.cells #[.int .i64 a, .int .i64 b, .int .i64 c, .int .i64 d] 3 (0, 0))) fun x w' => x = .returned (.bool (allB m [a, b, c, d])) ∧ W.alloc (.cells #[.int .i64 a, .int .i64 b, .int .i64 c, .int .i64 d] 3 (0, 0)) = w' := below_new W m [a, b, c, d] (by simp)
theorem heap_alloc1 (W : World) (o : Obj) : (W.alloc o).heap.size = W.heap.size + 1 := by simp

set_option maxRecDepth 100000 in
set_option maxHeartbeats 16000000 in
theorem right_any (w : World) (p : Pkt) (hu : okU p) : Calls Try.prog 14 #[valPkt p] w fun x w' => x = .returned (.bool (decide (rightP p))) ∧ Below w.heap.size w w' := by
  have HL1 : Hid (∀ (W : World), Calls Try.prog 24 #[.int .i64 65535, .slice (some ⟨W.heap.size, 0, none⟩) 1 1] (W.alloc (.cells #[.int .i64 p.fType] 3 (0, 0))) fun x w' => x = .returned (.bool (allB 65535 [p.fType])) ∧ W.alloc (.cells #[.int .i64 p.fType] 3 (0, 0)) = w') := Lib.hid (fun W => below_1 W _ _)
  have HL4 : Hid (∀ (W : World) (A : Obj), Calls Try.prog 24 #[.int .i64 0, .slice (some ⟨W.heap.size + 1, 0, none⟩) 4 4] ((W.alloc A).alloc (.cells #[.int .i64 p.fLife, .int .i64 p.fProto, .int .i64 p.fSport, .int .i64 p.fDport] 3 (0, 0))) fun x w' => x = .returned (.bool (allB 0 [p.fLife, p.fProto, p.fSport, p.fDport])) ∧ (W.alloc A).alloc (.cells #[.int .i64 p.fLife, .int .i64 p.fProto, .int .i64 p.fSport, .int .i64 p.fDport] 3 (0, 0)) = w') := Lib.hid (fun W A => by have := below_4 (W.alloc A) 0 p.fLife p.fProto p.fSport p.fDport; rwa [heap_alloc1] at this)
  have HL2 : Hid (∀ (W : World) (A : Obj), Calls Try.prog 24 #[.int .i64 255, .slice (some ⟨W.heap.size + 1, 0, none⟩) 2 2] ((W.alloc A).alloc (.cells #[.int .i64 p.fLife, .int .i64 p.fProto] 3 (0, 0))) fun x w' => x = .returned (.bool (allB 255 [p.fLife, p.fProto])) ∧ (W.alloc A).alloc (.cells #[.int .i64 p.fLife, .int .i64 p.fProto] 3 (0, 0)) = w') := Lib.hid (fun W A => by have := below_2 (W.alloc A) 255 p.fLife p.fProto; rwa [heap_alloc1] at this)
  have HL3 : Hid (∀ (W : World) (A B : Obj), Calls Try.prog 24 #[.int .i64 65535, .slice (some ⟨W.heap.size + 2, 0, none⟩) 2 2] (((W.alloc A).alloc B).alloc (.cells #[.int .i64 p.fSport, .int .i64 p.fDport] 3 (0, 0))) fun x w' => x = .returned (.bool (allB 65535 [p.fSport, p.fDport])) ∧ ((W.alloc A).alloc B).alloc (.cells #[.int .i64 p.fSport, .int .i64 p.fDport] 3 (0, 0)) = w') := Lib.hid (fun W A B => by
    have := below_2 ((W.alloc A).alloc B) 65535 p.fSport p.fDport
    rwa [heap_alloc1, heap_alloc1] at this)
  have HP := Lib.hid (fun W => ported_any W p)
  obtain ⟨u1, u2, u3, u4, u5, u6⟩ := hu
  have e1 : ∀ a, allB 65535 [a] = decide (0 ≤ a ∧ a ≤ 65535) := by intro a; simp [allB, inB]
  have e2 : ∀ a b, allB 255 [a, b] = decide (0 ≤ a ∧ a ≤ 255 ∧ 0 ≤ b ∧ b ≤ 255) := by intro a b; simp only [allB, inB, List.all_cons, List.all_nil, Bool.and_true, Bool.decide_and, Bool.and_assoc]
  have e3 : ∀ a b, allB 65535 [a, b] = decide (0 ≤ a ∧ a ≤ 65535 ∧ 0 ≤ b ∧ b ≤ 65535) := by intro a b; simp only [allB, inB, List.all_cons, List.all_nil, Bool.and_true, Bool.decide_and, Bool.and_assoc]
  have e4 : ∀ a b c d, allB 0 [a, b, c, d] = decide (a = 0 ∧ b = 0 ∧ c = 0 ∧ d = 0) := by
    intro a b c d
    have h : ∀ a : Int, inB 0 a = decide (a = 0) := by intro a; unfold inB; exact decide_eq_decide.2 (by omega)
    simp only [allB, List.all_cons, List.all_nil, Bool.and_true, Bool.decide_and, h]
  have e5 : portedF p = decide (p.fProto = 6 ∨ p.fProto = 17) := by unfold portedF; rw [Bool.decide_or]; rfl

  by_cases h1 : 0 < p.fTo / 281474976710656
  · have t1 : decide (0 < p.fTo / 281474976710656) = true := by simp; omega
    have HZ : Hid (decide (rightP p) = false) := Lib.hid (by exact decide_eq_false (fun h => by have := h.1; omega))
    clear e1 e2 e3 e4 e5
    try clear h1
    try clear h2
    try clear h3
    try clear h4
    try clear h5
    try clear h6
    try clear h7
    try clear h8
    try clear h9
    try clear h10
    try clear h11
    try clear h12
    try clear h13
    generalize decide (rightP p) = rr at *
    go_enter Try.func14, Try.ntmps14
    go_upto_region 1 with fail
    refine one_box_wp ?_
    intro W hb1 hbel hsz
    have hs := hsz.out
    have c0 := hb1.cell 0 _ rfl
    have c1 := hb1.cell 1 _ rfl
    have c2 := hb1.cell 2 _ rfl
    have c3 := hb1.cell 3 _ rfl
    have c4 := hb1.cell 4 _ rfl
    have c5 := hb1.cell 5 _ rfl
    have c6 := hb1.cell 6 _ rfl
    have c7 := hb1.cell 7 _ rfl
    have c8 := hb1.cell 8 _ rfl
    have c9 := hb1.cell 9 _ rfl
    have HK := Lib.hid hb1
    have HB := Lib.hid hbel
    clear hb1 hbel hsz
    go_wp2_with fail
    go_ret
    exact ⟨ret_bool HZ.out.symm, HB.out⟩
  have t1 : decide (0 < p.fTo / 281474976710656) = false := by simp; omega
  by_cases h2 : 0 < p.fFrom / 281474976710656
  · have t2 : decide (0 < p.fFrom / 281474976710656) = true := by simp; omega
    have HZ : Hid (decide (rightP p) = false) := Lib.hid (by exact decide_eq_false (fun h => by have := h.1; omega))
    clear e1 e2 e3 e4 e5
    try clear h1
    try clear h2
    try clear h3
    try clear h4
    try clear h5
    try clear h6
    try clear h7
    try clear h8
    try clear h9
    try clear h10
    try clear h11
    try clear h12
    try clear h13
    generalize decide (rightP p) = rr at *
    go_enter Try.func14, Try.ntmps14
    go_upto_region 1 with fail
    refine one_box_wp ?_
    intro W hb1 hbel hsz
    have hs := hsz.out
    have c0 := hb1.cell 0 _ rfl
    have c1 := hb1.cell 1 _ rfl
    have c2 := hb1.cell 2 _ rfl
    have c3 := hb1.cell 3 _ rfl
    have c4 := hb1.cell 4 _ rfl
    have c5 := hb1.cell 5 _ rfl
    have c6 := hb1.cell 6 _ rfl
    have c7 := hb1.cell 7 _ rfl
    have c8 := hb1.cell 8 _ rfl
    have c9 := hb1.cell 9 _ rfl
    have HK := Lib.hid hb1
    have HB := Lib.hid hbel
    clear hb1 hbel hsz
    go_wp2_with fail
    go_ret
    exact ⟨ret_bool HZ.out.symm, HB.out⟩
  have t2 : decide (0 < p.fFrom / 281474976710656) = false := by simp; omega
  have hv : (¬ p.fVlan = 0 ∧ ¬ p.fVlan / 4096 = 1) ∨ p.fVlan = 0 ∨ (¬ p.fVlan = 0 ∧ p.fVlan / 4096 = 1) := by omega
  rcases hv with ⟨h3, h4⟩ | hv
  · have t3 : (p.fVlan != 0) = true := by simpa using h3
    have t4 : (p.fVlan / 4096 != 1) = true := by simpa using h4
    have HZ : Hid (decide (rightP p) = false) := Lib.hid (by exact decide_eq_false (fun h => by have := h.1; omega))
    clear e1 e2 e3 e4 e5
    try clear h1
    try clear h2
    try clear h3
    try clear h4
    try clear h5
    try clear h6
    try clear h7
    try clear h8
    try clear h9
    try clear h10
    try clear h11
    try clear h12
    try clear h13
    generalize decide (rightP p) = rr at *
    go_enter Try.func14, Try.ntmps14
    go_upto_region 1 with fail
    refine one_box_wp ?_
    intro W hb1 hbel hsz
    have hs := hsz.out
    have c0 := hb1.cell 0 _ rfl
    have c1 := hb1.cell 1 _ rfl
    have c2 := hb1.cell 2 _ rfl
    have c3 := hb1.cell 3 _ rfl
    have c4 := hb1.cell 4 _ rfl
    have c5 := hb1.cell 5 _ rfl
    have c6 := hb1.cell 6 _ rfl
    have c7 := hb1.cell 7 _ rfl
    have c8 := hb1.cell 8 _ rfl
    have c9 := hb1.cell 9 _ rfl
    have HK := Lib.hid hb1
    have HB := Lib.hid hbel
    clear hb1 hbel hsz
    go_wp2_with fail
    go_ret
    exact ⟨ret_bool HZ.out.symm, HB.out⟩
  have hw : (∃ x : Unit, (p.fVlan != 0) = false ∧ p.fVlan = 0) ∨ (∃ x : Unit, (p.fVlan != 0) = true ∧ (p.fVlan / 4096 != 1) = false ∧ 4096 ≤ p.fVlan ∧ p.fVlan ≤ 8191) := by
    rcases hv with h | ⟨h, h'⟩
    · exact .inl ⟨(), by simpa using h, h⟩
    · exact .inr ⟨(), by simpa using h, by simpa using h', by omega, by omega⟩
  clear hv
  rcases hw with ⟨_, t3, h3⟩ | ⟨_, t3, t4, h3, h4⟩
  all_goals
    by_cases h5 : 0 ≤ p.fType ∧ p.fType ≤ 65535
    rotate_left
    · have t5 : allB 65535 [p.fType] = false := by rw [e1]; simpa using h5
      have HZ : Hid (decide (rightP p) = false) := Lib.hid (by exact decide_eq_false (fun h => by have := h.1; omega))
      clear e1 e2 e3 e4 e5
      try clear h1
      try clear h2
      try clear h3
      try clear h4
      try clear h5
      try clear h6
      try clear h7
      try clear h8
      try clear h9
      try clear h10
      try clear h11
      try clear h12
      try clear h13
      generalize decide (rightP p) = rr at *
      go_enter Try.func14, Try.ntmps14
      go_upto_region 1 with fail
      refine one_box_wp ?_
      intro W hb1 hbel hsz
      have hs := hsz.out
      have c0 := hb1.cell 0 _ rfl
      have c1 := hb1.cell 1 _ rfl
      have c2 := hb1.cell 2 _ rfl
      have c3 := hb1.cell 3 _ rfl
      have c4 := hb1.cell 4 _ rfl
      have c5 := hb1.cell 5 _ rfl
      have c6 := hb1.cell 6 _ rfl
      have c7 := hb1.cell 7 _ rfl
      have c8 := hb1.cell 8 _ rfl
      have c9 := hb1.cell 9 _ rfl
      have HK := Lib.hid hb1
      have HB := Lib.hid hbel
      clear hb1 hbel hsz
      go_wp2_with fail
      refine (HL1.out _).mono ?_
      rintro x w' ⟨rfl, rfl⟩
      go_wp2_with fail
      go_ret
      exact ⟨ret_bool HZ.out.symm, HB.out.alloc HB.out.size _⟩
    have t5 : allB 65535 [p.fType] = true := by rw [e1]; simpa using h5
    by_cases h6 : p.fType < 1536
    · have t6 : decide (p.fType < 1536) = true := by simp; omega
      have HZ : Hid (decide (rightP p) = false) := Lib.hid (by exact decide_eq_false (fun h => by have := h.1; omega))
      clear e1 e2 e3 e4 e5
      try clear h1
      try clear h2
      try clear h3
      try clear h4
      try clear h5
      try clear h6
      try clear h7
      try clear h8
      try clear h9
      try clear h10
      try clear h11
      try clear h12
      try clear h13
      generalize decide (rightP p) = rr at *
      go_enter Try.func14, Try.ntmps14
      go_upto_region 1 with fail
      refine one_box_wp ?_
      intro W hb1 hbel hsz
      have hs := hsz.out
      have c0 := hb1.cell 0 _ rfl
      have c1 := hb1.cell 1 _ rfl
      have c2 := hb1.cell 2 _ rfl
      have c3 := hb1.cell 3 _ rfl
      have c4 := hb1.cell 4 _ rfl
      have c5 := hb1.cell 5 _ rfl
      have c6 := hb1.cell 6 _ rfl
      have c7 := hb1.cell 7 _ rfl
      have c8 := hb1.cell 8 _ rfl
      have c9 := hb1.cell 9 _ rfl
      have HK := Lib.hid hb1
      have HB := Lib.hid hbel
      clear hb1 hbel hsz
      go_wp2_with fail
      refine (HL1.out _).mono ?_
      rintro x w' ⟨rfl, rfl⟩
      go_wp2_with fail
      go_ret
      exact ⟨ret_bool HZ.out.symm, HB.out.alloc HB.out.size _⟩
    have t6 : decide (p.fType < 1536) = false := by simp; omega
    by_cases h7 : p.fType = 33024
    · have t7 : (p.fType == 33024) = true := by simpa using h7
      have HZ : Hid (decide (rightP p) = false) := Lib.hid (by exact decide_eq_false (fun h => by have := h.1; omega))
      clear e1 e2 e3 e4 e5
      try clear h1
      try clear h2
      try clear h3
      try clear h4
      try clear h5
      try clear h6
      try clear h7
      try clear h8
      try clear h9
      try clear h10
      try clear h11
      try clear h12
      try clear h13
      generalize decide (rightP p) = rr at *
      go_enter Try.func14, Try.ntmps14
      go_upto_region 1 with fail
      refine one_box_wp ?_
      intro W hb1 hbel hsz
      have hs := hsz.out
      have c0 := hb1.cell 0 _ rfl
      have c1 := hb1.cell 1 _ rfl
      have c2 := hb1.cell 2 _ rfl
      have c3 := hb1.cell 3 _ rfl
      have c4 := hb1.cell 4 _ rfl
      have c5 := hb1.cell 5 _ rfl
      have c6 := hb1.cell 6 _ rfl
      have c7 := hb1.cell 7 _ rfl
      have c8 := hb1.cell 8 _ rfl
      have c9 := hb1.cell 9 _ rfl
      have HK := Lib.hid hb1
      have HB := Lib.hid hbel
      clear hb1 hbel hsz
      go_wp2_with fail
      refine (HL1.out _).mono ?_
      rintro x w' ⟨rfl, rfl⟩
      go_wp2_with fail
      go_ret
      exact ⟨ret_bool HZ.out.symm, HB.out.alloc HB.out.size _⟩
    have t7 : (p.fType == 33024) = false := by simpa using h7
    by_cases h8 : p.fType = 2048
    rotate_left
    · have t8 : (p.fType != 2048) = true := by simpa using h8
      by_cases h9 : p.fSrc = 0
      rotate_left
      · have t9 : (p.fSrc == 0) = false := by simpa using h9
        have HZ : Hid (decide (rightP p) = false) := Lib.hid (by exact decide_eq_false (fun h => by have := h.2.1 h8; omega))
        clear e1 e2 e3 e4 e5
        try clear h1
        try clear h2
        try clear h3
        try clear h4
        try clear h5
        try clear h6
        try clear h7
        try clear h8
        try clear h9
        try clear h10
        try clear h11
        try clear h12
        try clear h13
        generalize decide (rightP p) = rr at *
        go_enter Try.func14, Try.ntmps14
        go_upto_region 1 with fail
        refine one_box_wp ?_
        intro W hb1 hbel hsz
        have hs := hsz.out
        have c0 := hb1.cell 0 _ rfl
        have c1 := hb1.cell 1 _ rfl
        have c2 := hb1.cell 2 _ rfl
        have c3 := hb1.cell 3 _ rfl
        have c4 := hb1.cell 4 _ rfl
        have c5 := hb1.cell 5 _ rfl
        have c6 := hb1.cell 6 _ rfl
        have c7 := hb1.cell 7 _ rfl
        have c8 := hb1.cell 8 _ rfl
        have c9 := hb1.cell 9 _ rfl
        have HK := Lib.hid hb1
        have HB := Lib.hid hbel
        clear hb1 hbel hsz
        go_wp2_with fail
        refine (HL1.out _).mono ?_
        rintro x w' ⟨rfl, rfl⟩
        go_wp2_with (first | ((with_reducible refine (HL4.out _ _).mono ?_); rintro x w' ⟨rfl, rfl⟩) | fail)
        go_ret
        exact ⟨ret_bool HZ.out.symm, by first | exact HB.out.alloc HB.out.size _ | exact (HB.out.alloc HB.out.size _).alloc (by have := HB.out.size; simp; omega) _⟩
      have t9 : (p.fSrc == 0) = true := by simpa using h9
      by_cases h10 : p.fDst = 0
      rotate_left
      · have t10 : (p.fDst == 0) = false := by simpa using h10
        have HZ : Hid (decide (rightP p) = false) := Lib.hid (by exact decide_eq_false (fun h => by have := h.2.1 h8; omega))
        clear e1 e2 e3 e4 e5
        try clear h1
        try clear h2
        try clear h3
        try clear h4
        try clear h5
        try clear h6
        try clear h7
        try clear h8
        try clear h9
        try clear h10
        try clear h11
        try clear h12
        try clear h13
        generalize decide (rightP p) = rr at *
        go_enter Try.func14, Try.ntmps14
        go_upto_region 1 with fail
        refine one_box_wp ?_
        intro W hb1 hbel hsz
        have hs := hsz.out
        have c0 := hb1.cell 0 _ rfl
        have c1 := hb1.cell 1 _ rfl
        have c2 := hb1.cell 2 _ rfl
        have c3 := hb1.cell 3 _ rfl
        have c4 := hb1.cell 4 _ rfl
        have c5 := hb1.cell 5 _ rfl
        have c6 := hb1.cell 6 _ rfl
        have c7 := hb1.cell 7 _ rfl
        have c8 := hb1.cell 8 _ rfl
        have c9 := hb1.cell 9 _ rfl
        have HK := Lib.hid hb1
        have HB := Lib.hid hbel
        clear hb1 hbel hsz
        go_wp2_with fail
        refine (HL1.out _).mono ?_
        rintro x w' ⟨rfl, rfl⟩
        go_wp2_with (first | ((with_reducible refine (HL4.out _ _).mono ?_); rintro x w' ⟨rfl, rfl⟩) | fail)
        go_ret
        exact ⟨ret_bool HZ.out.symm, by first | exact HB.out.alloc HB.out.size _ | exact (HB.out.alloc HB.out.size _).alloc (by have := HB.out.size; simp; omega) _⟩
      have t10 : (p.fDst == 0) = true := by simpa using h10
      by_cases h11 : p.fLife = 0 ∧ p.fProto = 0 ∧ p.fSport = 0 ∧ p.fDport = 0
      rotate_left
      · have t11 : allB 0 [p.fLife, p.fProto, p.fSport, p.fDport] = false := by rw [e4]; simpa using h11
        have HZ : Hid (decide (rightP p) = false) := Lib.hid (by exact decide_eq_false (fun h => by have := h.2.1 h8; omega))
        clear e1 e2 e3 e4 e5
        try clear h1
        try clear h2
        try clear h3
        try clear h4
        try clear h5
        try clear h6
        try clear h7
        try clear h8
        try clear h9
        try clear h10
        try clear h11
        try clear h12
        try clear h13
        generalize decide (rightP p) = rr at *
        go_enter Try.func14, Try.ntmps14
        go_upto_region 1 with fail
        refine one_box_wp ?_
        intro W hb1 hbel hsz
        have hs := hsz.out
        have c0 := hb1.cell 0 _ rfl
        have c1 := hb1.cell 1 _ rfl
        have c2 := hb1.cell 2 _ rfl
        have c3 := hb1.cell 3 _ rfl
        have c4 := hb1.cell 4 _ rfl
        have c5 := hb1.cell 5 _ rfl
        have c6 := hb1.cell 6 _ rfl
        have c7 := hb1.cell 7 _ rfl
        have c8 := hb1.cell 8 _ rfl
        have c9 := hb1.cell 9 _ rfl
        have HK := Lib.hid hb1
        have HB := Lib.hid hbel
        clear hb1 hbel hsz
        go_wp2_with fail
        refine (HL1.out _).mono ?_
        rintro x w' ⟨rfl, rfl⟩
        go_wp2_with (first | ((with_reducible refine (HL4.out _ _).mono ?_); rintro x w' ⟨rfl, rfl⟩) | fail)
        go_ret
        exact ⟨ret_bool HZ.out.symm, by first | exact HB.out.alloc HB.out.size _ | exact (HB.out.alloc HB.out.size _).alloc (by have := HB.out.size; simp; omega) _⟩
      have t11 : allB 0 [p.fLife, p.fProto, p.fSport, p.fDport] = true := by rw [e4]; simpa using h11
      have HZ : Hid (decide (rightP p) = true) := Lib.hid (by exact decide_eq_true ⟨⟨by omega, by omega, by omega, by omega, by omega, by omega⟩, fun _ => ⟨h9, h10, h11.1, h11.2.1, h11.2.2.1, h11.2.2.2⟩, fun h => absurd h h8⟩)
      clear e1 e2 e3 e4 e5
      try clear h1
      try clear h2
      try clear h3
      try clear h4
      try clear h5
      try clear h6
      try clear h7
      try clear h8
      try clear h9
      try clear h10
      try clear h11
      try clear h12
      try clear h13
      generalize decide (rightP p) = rr at *
      go_enter Try.func14, Try.ntmps14
      go_upto_region 1 with fail
      refine one_box_wp ?_
      intro W hb1 hbel hsz
      have hs := hsz.out
      have c0 := hb1.cell 0 _ rfl
      have c1 := hb1.cell 1 _ rfl
      have c2 := hb1.cell 2 _ rfl
      have c3 := hb1.cell 3 _ rfl
      have c4 := hb1.cell 4 _ rfl
      have c5 := hb1.cell 5 _ rfl
      have c6 := hb1.cell 6 _ rfl
      have c7 := hb1.cell 7 _ rfl
      have c8 := hb1.cell 8 _ rfl
      have c9 := hb1.cell 9 _ rfl
      have HK := Lib.hid hb1
      have HB := Lib.hid hbel
      clear hb1 hbel hsz
      go_wp2_with fail
      refine (HL1.out _).mono ?_
      rintro x w' ⟨rfl, rfl⟩
      go_wp2_with (first | ((with_reducible refine (HL4.out _ _).mono ?_); rintro x w' ⟨rfl, rfl⟩) | fail)
      go_ret
      exact ⟨ret_bool HZ.out.symm, by first | exact HB.out.alloc HB.out.size _ | exact (HB.out.alloc HB.out.size _).alloc (by have := HB.out.size; simp; omega) _⟩
    have t8 : (p.fType != 2048) = false := by simpa using h8
    by_cases h9 : 0 ≤ p.fLife ∧ p.fLife ≤ 255 ∧ 0 ≤ p.fProto ∧ p.fProto ≤ 255
    rotate_left
    · have t9 : allB 255 [p.fLife, p.fProto] = false := by rw [e2]; exact decide_eq_false h9
      have HZ : Hid (decide (rightP p) = false) := Lib.hid (by exact decide_eq_false (fun h => by have := h.2.2 h8; omega))
      clear e1 e2 e3 e4 e5
      try clear h1
      try clear h2
      try clear h3
      try clear h4
      try clear h5
      try clear h6
      try clear h7
      try clear h8
      try clear h9
      try clear h10
      try clear h11
      try clear h12
      try clear h13
      generalize decide (rightP p) = rr at *
      go_enter Try.func14, Try.ntmps14
      go_upto_region 1 with fail
      refine one_box_wp ?_
      intro W hb1 hbel hsz
      have hs := hsz.out
      have c0 := hb1.cell 0 _ rfl
      have c1 := hb1.cell 1 _ rfl
      have c2 := hb1.cell 2 _ rfl
      have c3 := hb1.cell 3 _ rfl
      have c4 := hb1.cell 4 _ rfl
      have c5 := hb1.cell 5 _ rfl
      have c6 := hb1.cell 6 _ rfl
      have c7 := hb1.cell 7 _ rfl
      have c8 := hb1.cell 8 _ rfl
      have c9 := hb1.cell 9 _ rfl
      have HK := Lib.hid hb1
      have HB := Lib.hid hbel
      clear hb1 hbel hsz
      go_wp2_with fail
      refine (HL1.out _).mono ?_
      rintro x w' ⟨rfl, rfl⟩
      go_wp2_with fail
      refine (HL2.out _ _).mono ?_
      rintro x w' ⟨rfl, rfl⟩
      go_wp2_with (first | ((with_reducible refine (HL3.out _ _ _).mono ?_); rintro x w' ⟨rfl, rfl⟩) | fail)
      go_ret
      exact ⟨ret_bool HZ.out.symm, by first | exact (HB.out.alloc HB.out.size _).alloc (by have := HB.out.size; simp; omega) _ | exact ((HB.out.alloc HB.out.size _).alloc (by have := HB.out.size; simp; omega) _).alloc (by have := HB.out.size; simp; omega) _⟩
    have t9 : allB 255 [p.fLife, p.fProto] = true := by rw [e2]; simpa using h9
    by_cases h10 : 0 ≤ p.fSport ∧ p.fSport ≤ 65535 ∧ 0 ≤ p.fDport ∧ p.fDport ≤ 65535
    rotate_left
    · have t10 : allB 65535 [p.fSport, p.fDport] = false := by rw [e3]; exact decide_eq_false h10
      have HZ : Hid (decide (rightP p) = false) := Lib.hid (by exact decide_eq_false (fun h => by have := h.2.2 h8; omega))
      clear e1 e2 e3 e4 e5
      try clear h1
      try clear h2
      try clear h3
      try clear h4
      try clear h5
      try clear h6
      try clear h7
      try clear h8
      try clear h9
      try clear h10
      try clear h11
      try clear h12
      try clear h13
      generalize decide (rightP p) = rr at *
      go_enter Try.func14, Try.ntmps14
      go_upto_region 1 with fail
      refine one_box_wp ?_
      intro W hb1 hbel hsz
      have hs := hsz.out
      have c0 := hb1.cell 0 _ rfl
      have c1 := hb1.cell 1 _ rfl
      have c2 := hb1.cell 2 _ rfl
      have c3 := hb1.cell 3 _ rfl
      have c4 := hb1.cell 4 _ rfl
      have c5 := hb1.cell 5 _ rfl
      have c6 := hb1.cell 6 _ rfl
      have c7 := hb1.cell 7 _ rfl
      have c8 := hb1.cell 8 _ rfl
      have c9 := hb1.cell 9 _ rfl
      have HK := Lib.hid hb1
      have HB := Lib.hid hbel
      clear hb1 hbel hsz
      go_wp2_with fail
      refine (HL1.out _).mono ?_
      rintro x w' ⟨rfl, rfl⟩
      go_wp2_with fail
      refine (HL2.out _ _).mono ?_
      rintro x w' ⟨rfl, rfl⟩
      go_wp2_with (first | ((with_reducible refine (HL3.out _ _ _).mono ?_); rintro x w' ⟨rfl, rfl⟩) | fail)
      go_ret
      exact ⟨ret_bool HZ.out.symm, by first | exact (HB.out.alloc HB.out.size _).alloc (by have := HB.out.size; simp; omega) _ | exact ((HB.out.alloc HB.out.size _).alloc (by have := HB.out.size; simp; omega) _).alloc (by have := HB.out.size; simp; omega) _⟩
    have t10 : allB 65535 [p.fSport, p.fDport] = true := by rw [e3]; simpa using h10
    by_cases h11 : p.fProto = 6 ∨ p.fProto = 17
    · have t11 : portedF p = true := by rw [e5]; simpa using h11
      have HZ : Hid (decide (rightP p) = true) := Lib.hid (by exact decide_eq_true ⟨⟨by omega, by omega, by omega, by omega, by omega, by omega⟩, fun h => absurd h8 h, fun _ => ⟨h9.1, h9.2.1, h9.2.2.1, h9.2.2.2, h10.1, h10.2.1, h10.2.2.1, h10.2.2.2, by omega⟩⟩)
      clear e1 e2 e3 e4 e5
      try clear h1
      try clear h2
      try clear h3
      try clear h4
      try clear h5
      try clear h6
      try clear h7
      try clear h8
      try clear h9
      try clear h10
      try clear h11
      try clear h12
      try clear h13
      generalize decide (rightP p) = rr at *
      go_enter Try.func14, Try.ntmps14
      go_upto_region 1 with fail
      refine one_box_wp ?_
      intro W hb1 hbel hsz
      have hs := hsz.out
      have c0 := hb1.cell 0 _ rfl
      have c1 := hb1.cell 1 _ rfl
      have c2 := hb1.cell 2 _ rfl
      have c3 := hb1.cell 3 _ rfl
      have c4 := hb1.cell 4 _ rfl
      have c5 := hb1.cell 5 _ rfl
      have c6 := hb1.cell 6 _ rfl
      have c7 := hb1.cell 7 _ rfl
      have c8 := hb1.cell 8 _ rfl
      have c9 := hb1.cell 9 _ rfl
      have HK := Lib.hid hb1
      have HB := Lib.hid hbel
      clear hb1 hbel hsz
      go_wp2_with fail
      refine (HL1.out _).mono ?_
      rintro x w' ⟨rfl, rfl⟩
      go_wp2_with fail
      refine (HL2.out _ _).mono ?_
      rintro x w' ⟨rfl, rfl⟩
      go_wp2_with fail
      refine (HL3.out _ _ _).mono ?_
      rintro x w' ⟨rfl, rfl⟩
      go_wp2_with (first | (refine wpList_row 25 _ rfl (by rfl) _ _ rfl _ (run_loadVar_row _ _ _ 25 _ (0, 0) _ (((HK.out.alloc _).alloc _).alloc _) Try.underlying25 rfl (by kernel_rfl)) ?_) | fail)
      refine (HP.out _).mono ?_
      rintro x w2 ⟨rfl, b2⟩
      have hk2 := (((HK.out.alloc _).alloc _).alloc _).below b2 (by simp; omega)
      have k8 := hk2.cell 8 _ rfl
      have k9 := hk2.cell 9 _ rfl
      have HB2 := Lib.hid ((((HB.out.alloc HB.out.size _).alloc (by have := HB.out.size; simp; omega) _).alloc (by have := HB.out.size; simp; omega) _).trans (b2.mono (by have := HB.out.size; simp; omega)))
      clear b2 hk2 c0 c1 c2 c3 c4 c5 c6 c7 c8 c9 hs
      go_wp2_with fail
      go_ret
      exact ⟨ret_bool HZ.out.symm, HB2.out⟩
    have t11 : portedF p = false := by rw [e5]; exact decide_eq_false h11
    by_cases h12 : p.fSport = 0
    rotate_left
    · have t12 : (p.fSport == 0) = false := by simpa using h12
      have HZ : Hid (decide (rightP p) = false) := Lib.hid (by exact decide_eq_false (fun h => by have := h.2.2 h8; omega))
      clear e1 e2 e3 e4 e5
      try clear h1
      try clear h2
      try clear h3
      try clear h4
      try clear h5
      try clear h6
      try clear h7
      try clear h8
      try clear h9
      try clear h10
      try clear h11
      try clear h12
      try clear h13
      generalize decide (rightP p) = rr at *
      go_enter Try.func14, Try.ntmps14
      go_upto_region 1 with fail
      refine one_box_wp ?_
      intro W hb1 hbel hsz
      have hs := hsz.out
      have c0 := hb1.cell 0 _ rfl
      have c1 := hb1.cell 1 _ rfl
      have c2 := hb1.cell 2 _ rfl
      have c3 := hb1.cell 3 _ rfl
      have c4 := hb1.cell 4 _ rfl
      have c5 := hb1.cell 5 _ rfl
      have c6 := hb1.cell 6 _ rfl
      have c7 := hb1.cell 7 _ rfl
      have c8 := hb1.cell 8 _ rfl
      have c9 := hb1.cell 9 _ rfl
      have HK := Lib.hid hb1
      have HB := Lib.hid hbel
      clear hb1 hbel hsz
      go_wp2_with fail
      refine (HL1.out _).mono ?_
      rintro x w' ⟨rfl, rfl⟩
      go_wp2_with fail
      refine (HL2.out _ _).mono ?_
      rintro x w' ⟨rfl, rfl⟩
      go_wp2_with fail
      refine (HL3.out _ _ _).mono ?_
      rintro x w' ⟨rfl, rfl⟩
      go_wp2_with (first | (refine wpList_row 25 _ rfl (by rfl) _ _ rfl _ (run_loadVar_row _ _ _ 25 _ (0, 0) _ (((HK.out.alloc _).alloc _).alloc _) Try.underlying25 rfl (by kernel_rfl)) ?_) | fail)
      refine (HP.out _).mono ?_
      rintro x w2 ⟨rfl, b2⟩
      have hk2 := (((HK.out.alloc _).alloc _).alloc _).below b2 (by simp; omega)
      have k8 := hk2.cell 8 _ rfl
      have k9 := hk2.cell 9 _ rfl
      have HB2 := Lib.hid ((((HB.out.alloc HB.out.size _).alloc (by have := HB.out.size; simp; omega) _).alloc (by have := HB.out.size; simp; omega) _).trans (b2.mono (by have := HB.out.size; simp; omega)))
      clear b2 hk2 c0 c1 c2 c3 c4 c5 c6 c7 c8 c9 hs
      go_wp2_with fail
      go_ret
      exact ⟨ret_bool HZ.out.symm, HB2.out⟩
    have t12 : (p.fSport == 0) = true := by simpa using h12
    by_cases h13 : p.fDport = 0
    rotate_left
    · have t13 : (p.fDport == 0) = false := by simpa using h13
      have HZ : Hid (decide (rightP p) = false) := Lib.hid (by exact decide_eq_false (fun h => by have := h.2.2 h8; omega))
      clear e1 e2 e3 e4 e5
      try clear h1
      try clear h2
      try clear h3
      try clear h4
      try clear h5
      try clear h6
      try clear h7
      try clear h8
      try clear h9
      try clear h10
      try clear h11
      try clear h12
      try clear h13
      generalize decide (rightP p) = rr at *
      go_enter Try.func14, Try.ntmps14
      go_upto_region 1 with fail
      refine one_box_wp ?_
      intro W hb1 hbel hsz
      have hs := hsz.out
      have c0 := hb1.cell 0 _ rfl
      have c1 := hb1.cell 1 _ rfl
      have c2 := hb1.cell 2 _ rfl
      have c3 := hb1.cell 3 _ rfl
      have c4 := hb1.cell 4 _ rfl
      have c5 := hb1.cell 5 _ rfl
      have c6 := hb1.cell 6 _ rfl
      have c7 := hb1.cell 7 _ rfl
      have c8 := hb1.cell 8 _ rfl
      have c9 := hb1.cell 9 _ rfl
      have HK := Lib.hid hb1
      have HB := Lib.hid hbel
      clear hb1 hbel hsz
      go_wp2_with fail
      refine (HL1.out _).mono ?_
      rintro x w' ⟨rfl, rfl⟩
      go_wp2_with fail
      refine (HL2.out _ _).mono ?_
      rintro x w' ⟨rfl, rfl⟩
      go_wp2_with fail
      refine (HL3.out _ _ _).mono ?_
      rintro x w' ⟨rfl, rfl⟩
      go_wp2_with (first | (refine wpList_row 25 _ rfl (by rfl) _ _ rfl _ (run_loadVar_row _ _ _ 25 _ (0, 0) _ (((HK.out.alloc _).alloc _).alloc _) Try.underlying25 rfl (by kernel_rfl)) ?_) | fail)
      refine (HP.out _).mono ?_
      rintro x w2 ⟨rfl, b2⟩
      have hk2 := (((HK.out.alloc _).alloc _).alloc _).below b2 (by simp; omega)
      have k8 := hk2.cell 8 _ rfl
      have k9 := hk2.cell 9 _ rfl
      have HB2 := Lib.hid ((((HB.out.alloc HB.out.size _).alloc (by have := HB.out.size; simp; omega) _).alloc (by have := HB.out.size; simp; omega) _).trans (b2.mono (by have := HB.out.size; simp; omega)))
      clear b2 hk2 c0 c1 c2 c3 c4 c5 c6 c7 c8 c9 hs
      go_wp2_with fail
      go_ret
      exact ⟨ret_bool HZ.out.symm, HB2.out⟩
    have t13 : (p.fDport == 0) = true := by simpa using h13
    have HZ : Hid (decide (rightP p) = true) := Lib.hid (by exact decide_eq_true ⟨⟨by omega, by omega, by omega, by omega, by omega, by omega⟩, fun h => absurd h8 h, fun _ => ⟨h9.1, h9.2.1, h9.2.2.1, h9.2.2.2, h10.1, h10.2.1, h10.2.2.1, h10.2.2.2, by omega⟩⟩)
    clear e1 e2 e3 e4 e5
    try clear h1
    try clear h2
    try clear h3
    try clear h4
    try clear h5
    try clear h6
    try clear h7
    try clear h8
    try clear h9
    try clear h10
    try clear h11
    try clear h12
    try clear h13
    generalize decide (rightP p) = rr at *
    go_enter Try.func14, Try.ntmps14
    go_upto_region 1 with fail
    refine one_box_wp ?_
    intro W hb1 hbel hsz
    have hs := hsz.out
    have c0 := hb1.cell 0 _ rfl
    have c1 := hb1.cell 1 _ rfl
    have c2 := hb1.cell 2 _ rfl
    have c3 := hb1.cell 3 _ rfl
    have c4 := hb1.cell 4 _ rfl
    have c5 := hb1.cell 5 _ rfl
    have c6 := hb1.cell 6 _ rfl
    have c7 := hb1.cell 7 _ rfl
    have c8 := hb1.cell 8 _ rfl
    have c9 := hb1.cell 9 _ rfl
    have HK := Lib.hid hb1
    have HB := Lib.hid hbel
    clear hb1 hbel hsz
    go_wp2_with fail
    refine (HL1.out _).mono ?_
    rintro x w' ⟨rfl, rfl⟩
    go_wp2_with fail
    refine (HL2.out _ _).mono ?_
    rintro x w' ⟨rfl, rfl⟩
    go_wp2_with fail
    refine (HL3.out _ _ _).mono ?_
    rintro x w' ⟨rfl, rfl⟩
    go_wp2_with (first | (refine wpList_row 25 _ rfl (by rfl) _ _ rfl _ (run_loadVar_row _ _ _ 25 _ (0, 0) _ (((HK.out.alloc _).alloc _).alloc _) Try.underlying25 rfl (by kernel_rfl)) ?_) | fail)
    refine (HP.out _).mono ?_
    rintro x w2 ⟨rfl, b2⟩
    have hk2 := (((HK.out.alloc _).alloc _).alloc _).below b2 (by simp; omega)
    have k8 := hk2.cell 8 _ rfl
    have k9 := hk2.cell 9 _ rfl
    have HB2 := Lib.hid ((((HB.out.alloc HB.out.size _).alloc (by have := HB.out.size; simp; omega) _).alloc (by have := HB.out.size; simp; omega) _).trans (b2.mono (by have := HB.out.size; simp; omega)))
    clear b2 hk2 c0 c1 c2 c3 c4 c5 c6 c7 c8 c9 hs
    go_wp2_with fail
    go_ret
    exact ⟨ret_bool HZ.out.symm, HB2.out⟩
end Go.Proofs.Ythihncfmimkimaa
