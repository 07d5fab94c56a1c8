/- Put, of both packages. -/
import Derived.Test.YtiolfccfkpggcaaFieldTag
namespace Go.Proofs.Ytiolfccfkpggcaa
open Go.RowKit
set_option linter.unusedVariables false

def setF (s : Seen) (f v : Int) : Seen :=
  if f = 2 then ⟨s.fIn, v, s.fP⟩ else if f = 3 then withVlan s v else if f = 5 then ⟨s.fIn, s.fMeta, { s.fP with fSrc := v }⟩ else if f = 6 then ⟨s.fIn, s.fMeta, { s.fP with fDst := v }⟩ else
  if f = 8 then ⟨s.fIn, s.fMeta, { s.fP with fSport := v }⟩ else if f = 9 then ⟨s.fIn, s.fMeta, { s.fP with fDport := v }⟩ else s
def putF (s : Seen) (f v : Int) : Seen × Int :=
  if f = 1 ∨ f = 4 ∨ f = 7 ∨ hasF s f = false then (zeroSeen, 20) else if greatF f < v ∨ (f = 3 ∧ v < 4096) then (zeroSeen, 1) else if f = 3 ∧ s.fP.fVlan = 0 then (zeroSeen, 31) else (setF s f v, 0)
theorem putF_bad {s : Seen} {f v : Int} (h : f = 1 ∨ f = 4 ∨ f = 7 ∨ hasF s f = false) : putF s f v = (zeroSeen, 20) := by unfold putF; rw [if_pos h]
theorem putF_arg {s : Seen} {f v : Int} (h : ¬ (f = 1 ∨ f = 4 ∨ f = 7 ∨ hasF s f = false)) (h2 : greatF f < v ∨ (f = 3 ∧ v < 4096)) : putF s f v = (zeroSeen, 1) := by unfold putF; rw [if_neg h, if_pos h2]
theorem putF_none {s : Seen} {f v : Int} (h : ¬ (f = 1 ∨ f = 4 ∨ f = 7 ∨ hasF s f = false)) (h2 : ¬ (greatF f < v ∨ (f = 3 ∧ v < 4096))) (h3 : f = 3 ∧ s.fP.fVlan = 0) : putF s f v = (zeroSeen, 31) := by unfold putF; rw [if_neg h, if_neg h2, if_pos h3]
theorem putF_ok {s : Seen} {f v : Int} (h : ¬ (f = 1 ∨ f = 4 ∨ f = 7 ∨ hasF s f = false)) (h2 : ¬ (greatF f < v ∨ (f = 3 ∧ v < 4096))) (h3 : ¬ (f = 3 ∧ s.fP.fVlan = 0)) : putF s f v = (setF s f v, 0) := by unfold putF; rw [if_neg h, if_neg h2, if_neg h3]

set_option maxRecDepth 100000 in
set_option maxHeartbeats 16000000 in
theorem Put_any (w : World) (s : Seen) (f v : Int) (h0 : 0 ≤ v) (h1 : v ≤ 18446744073709551615) :
    Calls Try.prog 20 #[valSeen s, .int .i64 f, .int .u64 v] w fun x w' => x = .returned (.tuple #[valSeen (putF s f v).1, .int .i64 (putF s f v).2]) ∧ Below w.heap.size w w' := by
  have HH := Lib.hid (fun W => has_any W s f)
  have HG := Lib.hid (fun W => greatest_any W f)
  rcases fcases f with rfl | rfl | rfl | rfl | rfl | rfl | rfl | rfl | rfl | ⟨h1', h2', h3', h4', h5', h6', h7', h8', h9', h⟩
  · rw [putF_bad (s := s) (f := 1) (v := v) (by omega)]
    obtain ⟨i0, n0, p⟩ := s
    obtain ⟨p0, p1, p2, p3, p4, p5, p6, p7, p8, p9, p10⟩ := p
    · clear HH h0 h1 HG
      go_enter Try.func20, Try.ntmps20
      go_upto_region 1 with fail
      refine two_boxes_wp ?_
      intro W hb1 hb2 hbel hsz
      obtain ⟨c0, c1, c2, c3, c4, c5, c6, c7, c8, c9, c10, c11, c12⟩ := seen_cells hb1
      go_wp2_with (first
        | (refine wpList_store_row rfl 27 _ _ rfl _ rfl _ rfl _ _ hb2 rfl (by kernel_rfl) (by simp [Value.oneCell']) ?_; intro W2 hs2 hbar)
        | fail)
      refine bodyPost_ret (v := .tuple #[.agg #[.int .i64 0, .int .u64 0, .int .u64 0, .int .u64 0, .int .i64 0, .int .i64 0, .int .u32 0, .int .u32 0, .int .i64 0, .int .i64 0, .int .i64 0, .int .i64 0, .string ByteArray.empty], .int .i64 20]) ?_ rfl ⟨rfl, ?_⟩
      · exact results_row_tmp (p := 6) (u := 7) rfl _ _ (w.heap.size + 1) _ _ _ rfl hs2 Try.underlying27 rfl (by kernel_rfl)
      exact hbar.below hbel (Nat.le_succ _) hbel.size
  · cases hh : hasF s 2 with
    | false =>
      rw [putF_bad (s := s) (f := 2) (v := v) (by simp [hh])]
      rw [hh] at HH
      obtain ⟨i0, n0, p⟩ := s
      obtain ⟨p0, p1, p2, p3, p4, p5, p6, p7, p8, p9, p10⟩ := p
      clear hh h0 h1 HG
      go_enter Try.func20, Try.ntmps20
      go_upto_region 1 with fail
      refine two_boxes_wp ?_
      intro W hb1 hb2 hbel hsz
      obtain ⟨c0, c1, c2, c3, c4, c5, c6, c7, c8, c9, c10, c11, c12⟩ := seen_cells hb1
      have hlt2 := hb2.lt
      have HBB := Lib.hid (And.intro hb1 (And.intro hb2 hbel))
      clear hb1 hb2 hbel
      go_wp2_with fail
      refine (HH.out _).mono ?_
      rintro e w1 ⟨rfl, b1⟩
      have hb1 := HBB.out.1.below b1 HBB.out.1.lt
      have hb2 := HBB.out.2.1.below b1 hlt2
      have hbel := HBB.out.2.2.trans (b1.mono HBB.out.2.2.size)
      clear c0 c1 c2 c3 c4 c5 c6 c7 c8 c9 c10 c11 c12 b1 hlt2
      go_wp2_with (first
        | (refine wpList_store_row rfl 27 _ _ rfl _ rfl _ rfl _ _ hb2 rfl (by kernel_rfl) (by simp [Value.oneCell']) ?_; intro W2 hs2 hbar)
        | fail)
      refine bodyPost_ret (v := .tuple #[.agg #[.int .i64 0, .int .u64 0, .int .u64 0, .int .u64 0, .int .i64 0, .int .i64 0, .int .u32 0, .int .u32 0, .int .i64 0, .int .i64 0, .int .i64 0, .int .i64 0, .string ByteArray.empty], .int .i64 20]) ?_ rfl ⟨rfl, ?_⟩
      · exact results_row_tmp (p := 6) (u := 7) rfl _ _ (w.heap.size + 1) _ _ _ rfl hs2 Try.underlying27 rfl (by kernel_rfl)
      exact hbar.below hbel (Nat.le_succ _) hbel.size
    | true =>
      have hno : ¬ ((2 : Int) = 1 ∨ (2 : Int) = 4 ∨ (2 : Int) = 7 ∨ hasF s 2 = false) := by simp [hh]
      rw [hh] at HH
      have eg : greatF 2 = 18446744073709551615 := by decide
      rw [eg] at HG
      rw [putF_ok hno (by rw [eg]; omega) (by omega)]
      have t1 : decide (18446744073709551615 < v) = false := by simp; omega
      obtain ⟨i0, n0, p⟩ := s
      obtain ⟨p0, p1, p2, p3, p4, p5, p6, p7, p8, p9, p10⟩ := p
      have hvb : v ≤ 18446744073709551615 := by omega
      clear hno eg hh
      go_enter Try.func20, Try.ntmps20
      go_upto_region 1 with fail
      refine two_boxes_wp ?_
      intro W hb1 hb2 hbel hsz
      obtain ⟨c0, c1, c2, c3, c4, c5, c6, c7, c8, c9, c10, c11, c12⟩ := seen_cells hb1
      have hlt2 := hb2.lt
      have HBB := Lib.hid (And.intro hb1 (And.intro hb2 hbel))
      clear hb1 hb2 hbel
      go_wp2_with fail
      refine (HH.out _).mono ?_
      rintro e w1 ⟨rfl, b1⟩
      have hb1 := HBB.out.1.below b1 HBB.out.1.lt
      have hb2 := HBB.out.2.1.below b1 hlt2
      have hbel := HBB.out.2.2.trans (b1.mono HBB.out.2.2.size)
      clear c0 c1 c2 c3 c4 c5 c6 c7 c8 c9 c10 c11 c12 b1 hlt2
      go_wp2_with fail
      refine (HG.out _).mono ?_
      rintro e w2 ⟨rfl, rfl⟩
      obtain ⟨c0, c1, c2, c3, c4, c5, c6, c7, c8, c9, c10, c11, c12⟩ := seen_cells hb1
      have hf := hb1.frozen 1
      go_upto_region 20 with fail
      clear c0 c1 c2 c3 c4 c5 c6 c7 c8 c9 c10 c11 c12 hf
      refine set_wp hb1 hb2 hbel (Nat.succ_ne_self _) (Nat.le_refl _) ?_
      clear hb1 hb2 hbel
      intro W' hb1 hb2 hbel
      go_wp2_with (first
        | (refine wpList_load_row rfl 27 _ rfl _ rfl _ _ (0, 0) _ hb1 Try.underlying27 rfl (by kernel_rfl) ?_)
        | (refine wpList_store_row rfl 27 _ _ rfl _ rfl _ rfl _ _ hb2 rfl (by kernel_rfl) (by simp [Value.oneCell']) ?_; intro W2 hs2 hbar)
        | fail)
      refine bodyPost_ret (v := .tuple #[.agg #[.int .i64 i0, .int .u64 v, .int .u64 p0, .int .u64 p1, .int .i64 p2, .int .i64 p3, .int .u32 p4, .int .u32 p5, .int .i64 p6, .int .i64 p7, .int .i64 p8, .int .i64 p9, .string p10], .int .i64 0]) ?_ rfl ⟨rfl, ?_⟩
      · exact results_row_tmp (p := 6) (u := 7) rfl _ _ (w.heap.size + 1) _ _ _ rfl hs2 Try.underlying27 rfl (by kernel_rfl)
      exact hbar.below hbel (Nat.le_succ _) hbel.size
  · cases hh : hasF s 3 with
    | false =>
      rw [putF_bad (s := s) (f := 3) (v := v) (by simp [hh])]
      rw [hh] at HH
      obtain ⟨i0, n0, p⟩ := s
      obtain ⟨p0, p1, p2, p3, p4, p5, p6, p7, p8, p9, p10⟩ := p
      clear hh h0 h1 HG
      go_enter Try.func20, Try.ntmps20
      go_upto_region 1 with fail
      refine two_boxes_wp ?_
      intro W hb1 hb2 hbel hsz
      obtain ⟨c0, c1, c2, c3, c4, c5, c6, c7, c8, c9, c10, c11, c12⟩ := seen_cells hb1
      have hlt2 := hb2.lt
      have HBB := Lib.hid (And.intro hb1 (And.intro hb2 hbel))
      clear hb1 hb2 hbel
      go_wp2_with fail
      refine (HH.out _).mono ?_
      rintro e w1 ⟨rfl, b1⟩
      have hb1 := HBB.out.1.below b1 HBB.out.1.lt
      have hb2 := HBB.out.2.1.below b1 hlt2
      have hbel := HBB.out.2.2.trans (b1.mono HBB.out.2.2.size)
      clear c0 c1 c2 c3 c4 c5 c6 c7 c8 c9 c10 c11 c12 b1 hlt2
      go_wp2_with (first
        | (refine wpList_store_row rfl 27 _ _ rfl _ rfl _ rfl _ _ hb2 rfl (by kernel_rfl) (by simp [Value.oneCell']) ?_; intro W2 hs2 hbar)
        | fail)
      refine bodyPost_ret (v := .tuple #[.agg #[.int .i64 0, .int .u64 0, .int .u64 0, .int .u64 0, .int .i64 0, .int .i64 0, .int .u32 0, .int .u32 0, .int .i64 0, .int .i64 0, .int .i64 0, .int .i64 0, .string ByteArray.empty], .int .i64 20]) ?_ rfl ⟨rfl, ?_⟩
      · exact results_row_tmp (p := 6) (u := 7) rfl _ _ (w.heap.size + 1) _ _ _ rfl hs2 Try.underlying27 rfl (by kernel_rfl)
      exact hbar.below hbel (Nat.le_succ _) hbel.size
    | true =>
      have hno : ¬ ((3 : Int) = 1 ∨ (3 : Int) = 4 ∨ (3 : Int) = 7 ∨ hasF s 3 = false) := by simp [hh]
      rw [hh] at HH
      have eg : greatF 3 = 8191 := by decide
      rw [eg] at HG
      by_cases hv : 8191 < v
      · rw [putF_arg hno (by rw [eg]; exact .inl hv)]
        have t1 : decide (8191 < v) = true := by simp; omega
        obtain ⟨i0, n0, p⟩ := s
        obtain ⟨p0, p1, p2, p3, p4, p5, p6, p7, p8, p9, p10⟩ := p
        clear hno eg hh h0 h1 hv
        go_enter Try.func20, Try.ntmps20
        go_upto_region 1 with fail
        refine two_boxes_wp ?_
        intro W hb1 hb2 hbel hsz
        obtain ⟨c0, c1, c2, c3, c4, c5, c6, c7, c8, c9, c10, c11, c12⟩ := seen_cells hb1
        have hlt2 := hb2.lt
        have HBB := Lib.hid (And.intro hb1 (And.intro hb2 hbel))
        clear hb1 hb2 hbel
        go_wp2_with fail
        refine (HH.out _).mono ?_
        rintro e w1 ⟨rfl, b1⟩
        have hb1 := HBB.out.1.below b1 HBB.out.1.lt
        have hb2 := HBB.out.2.1.below b1 hlt2
        have hbel := HBB.out.2.2.trans (b1.mono HBB.out.2.2.size)
        clear c0 c1 c2 c3 c4 c5 c6 c7 c8 c9 c10 c11 c12 b1 hlt2
        go_wp2_with fail
        refine (HG.out _).mono ?_
        rintro e w2 ⟨rfl, rfl⟩
        go_wp2_with (first
          | (refine wpList_store_row rfl 27 _ _ rfl _ rfl _ rfl _ _ hb2 rfl (by kernel_rfl) (by simp [Value.oneCell']) ?_; intro W2 hs2 hbar)
          | fail)
        refine bodyPost_ret (v := .tuple #[.agg #[.int .i64 0, .int .u64 0, .int .u64 0, .int .u64 0, .int .i64 0, .int .i64 0, .int .u32 0, .int .u32 0, .int .i64 0, .int .i64 0, .int .i64 0, .int .i64 0, .string ByteArray.empty], .int .i64 1]) ?_ rfl ⟨rfl, ?_⟩
        · exact results_row_tmp (p := 6) (u := 7) rfl _ _ (w.heap.size + 1) _ _ _ rfl hs2 Try.underlying27 rfl (by kernel_rfl)
        exact hbar.below hbel (Nat.le_succ _) hbel.size
      by_cases hv4 : v < 4096
      · rw [putF_arg hno (.inr ⟨rfl, hv4⟩)]
        have t1 : decide (8191 < v) = false := by simp; omega
        have t2 : decide (v < 4096) = true := by simp; omega
        obtain ⟨i0, n0, p⟩ := s
        obtain ⟨p0, p1, p2, p3, p4, p5, p6, p7, p8, p9, p10⟩ := p
        clear hno eg hh h1 hv
        go_enter Try.func20, Try.ntmps20
        go_upto_region 1 with fail
        refine two_boxes_wp ?_
        intro W hb1 hb2 hbel hsz
        obtain ⟨c0, c1, c2, c3, c4, c5, c6, c7, c8, c9, c10, c11, c12⟩ := seen_cells hb1
        have hlt2 := hb2.lt
        have HBB := Lib.hid (And.intro hb1 (And.intro hb2 hbel))
        clear hb1 hb2 hbel
        go_wp2_with fail
        refine (HH.out _).mono ?_
        rintro e w1 ⟨rfl, b1⟩
        have hb1 := HBB.out.1.below b1 HBB.out.1.lt
        have hb2 := HBB.out.2.1.below b1 hlt2
        have hbel := HBB.out.2.2.trans (b1.mono HBB.out.2.2.size)
        clear c0 c1 c2 c3 c4 c5 c6 c7 c8 c9 c10 c11 c12 b1 hlt2
        go_wp2_with fail
        refine (HG.out _).mono ?_
        rintro e w2 ⟨rfl, rfl⟩
        go_wp2_with (first
          | (refine wpList_store_row rfl 27 _ _ rfl _ rfl _ rfl _ _ hb2 rfl (by kernel_rfl) (by simp [Value.oneCell']) ?_; intro W2 hs2 hbar)
          | fail)
        refine bodyPost_ret (v := .tuple #[.agg #[.int .i64 0, .int .u64 0, .int .u64 0, .int .u64 0, .int .i64 0, .int .i64 0, .int .u32 0, .int .u32 0, .int .i64 0, .int .i64 0, .int .i64 0, .int .i64 0, .string ByteArray.empty], .int .i64 1]) ?_ rfl ⟨rfl, ?_⟩
        · exact results_row_tmp (p := 6) (u := 7) rfl _ _ (w.heap.size + 1) _ _ _ rfl hs2 Try.underlying27 rfl (by kernel_rfl)
        exact hbar.below hbel (Nat.le_succ _) hbel.size
      by_cases hv0 : s.fP.fVlan = 0
      · rw [putF_none hno (by rw [eg]; omega) ⟨rfl, hv0⟩]
        have t1 : decide (8191 < v) = false := by simp; omega
        have t2 : decide (v < 4096) = false := by simp; omega
        obtain ⟨i0, n0, p⟩ := s
        obtain ⟨p0, p1, p2, p3, p4, p5, p6, p7, p8, p9, p10⟩ := p
        replace hv0 : p2 = 0 := hv0
        subst hv0
        clear hno eg hh h1 hv hv4
        go_enter Try.func20, Try.ntmps20
        go_upto_region 1 with fail
        refine two_boxes_wp ?_
        intro W hb1 hb2 hbel hsz
        obtain ⟨c0, c1, c2, c3, c4, c5, c6, c7, c8, c9, c10, c11, c12⟩ := seen_cells hb1
        have hlt2 := hb2.lt
        have HBB := Lib.hid (And.intro hb1 (And.intro hb2 hbel))
        clear hb1 hb2 hbel
        go_wp2_with fail
        refine (HH.out _).mono ?_
        rintro e w1 ⟨rfl, b1⟩
        have hb1 := HBB.out.1.below b1 HBB.out.1.lt
        have hb2 := HBB.out.2.1.below b1 hlt2
        have hbel := HBB.out.2.2.trans (b1.mono HBB.out.2.2.size)
        clear c0 c1 c2 c3 c4 c5 c6 c7 c8 c9 c10 c11 c12 b1 hlt2
        obtain ⟨c0, c1, c2, c3, c4, c5, c6, c7, c8, c9, c10, c11, c12⟩ := seen_cells hb1
        go_wp2_with fail
        refine (HG.out _).mono ?_
        rintro e w2 ⟨rfl, rfl⟩
        go_wp2_with (first
          | (refine wpList_store_row rfl 27 _ _ rfl _ rfl _ rfl _ _ hb2 rfl (by kernel_rfl) (by simp [Value.oneCell']) ?_; intro W2 hs2 hbar)
          | fail)
        refine bodyPost_ret (v := .tuple #[.agg #[.int .i64 0, .int .u64 0, .int .u64 0, .int .u64 0, .int .i64 0, .int .i64 0, .int .u32 0, .int .u32 0, .int .i64 0, .int .i64 0, .int .i64 0, .int .i64 0, .string ByteArray.empty], .int .i64 31]) ?_ rfl ⟨rfl, ?_⟩
        · exact results_row_tmp (p := 6) (u := 7) rfl _ _ (w.heap.size + 1) _ _ _ rfl hs2 Try.underlying27 rfl (by kernel_rfl)
        exact hbar.below hbel (Nat.le_succ _) hbel.size
      rw [putF_ok hno (by rw [eg]; omega) (by intro h; exact hv0 h.2)]
      have t1 : decide (8191 < v) = false := by simp; omega
      have t2 : decide (v < 4096) = false := by simp; omega
      obtain ⟨i0, n0, p⟩ := s
      obtain ⟨p0, p1, p2, p3, p4, p5, p6, p7, p8, p9, p10⟩ := p
      have t3 : (p2 == 0) = false := beq_eq_false_iff_ne.mpr hv0
      clear hv0
      have hvb : v ≤ 8191 := by omega
      clear hno eg hh
      go_enter Try.func20, Try.ntmps20
      go_upto_region 1 with fail
      refine two_boxes_wp ?_
      intro W hb1 hb2 hbel hsz
      obtain ⟨c0, c1, c2, c3, c4, c5, c6, c7, c8, c9, c10, c11, c12⟩ := seen_cells hb1
      have hlt2 := hb2.lt
      have HBB := Lib.hid (And.intro hb1 (And.intro hb2 hbel))
      clear hb1 hb2 hbel
      go_wp2_with fail
      refine (HH.out _).mono ?_
      rintro e w1 ⟨rfl, b1⟩
      have hb1 := HBB.out.1.below b1 HBB.out.1.lt
      have hb2 := HBB.out.2.1.below b1 hlt2
      have hbel := HBB.out.2.2.trans (b1.mono HBB.out.2.2.size)
      clear c0 c1 c2 c3 c4 c5 c6 c7 c8 c9 c10 c11 c12 b1 hlt2
      go_wp2_with fail
      refine (HG.out _).mono ?_
      rintro e w2 ⟨rfl, rfl⟩
      obtain ⟨c0, c1, c2, c3, c4, c5, c6, c7, c8, c9, c10, c11, c12⟩ := seen_cells hb1
      have hf := hb1.frozen 4
      go_upto_region 20 with fail
      clear c0 c1 c2 c3 c4 c5 c6 c7 c8 c9 c10 c11 c12 hf
      refine set_wp hb1 hb2 hbel (Nat.succ_ne_self _) (Nat.le_refl _) ?_
      clear hb1 hb2 hbel
      intro W' hb1 hb2 hbel
      go_wp2_with (first
        | (refine wpList_load_row rfl 27 _ rfl _ rfl _ _ (0, 0) _ hb1 Try.underlying27 rfl (by kernel_rfl) ?_)
        | (refine wpList_store_row rfl 27 _ _ rfl _ rfl _ rfl _ _ hb2 rfl (by kernel_rfl) (by simp [Value.oneCell']) ?_; intro W2 hs2 hbar)
        | fail)
      refine bodyPost_ret (v := .tuple #[.agg #[.int .i64 i0, .int .u64 n0, .int .u64 p0, .int .u64 p1, .int .i64 v, .int .i64 p3, .int .u32 p4, .int .u32 p5, .int .i64 p6, .int .i64 p7, .int .i64 p8, .int .i64 p9, .string p10], .int .i64 0]) ?_ rfl ⟨rfl, ?_⟩
      · exact results_row_tmp (p := 6) (u := 7) rfl _ _ (w.heap.size + 1) _ _ _ rfl hs2 Try.underlying27 rfl (by kernel_rfl)
      exact hbar.below hbel (Nat.le_succ _) hbel.size
  · rw [putF_bad (s := s) (f := 4) (v := v) (by omega)]
    obtain ⟨i0, n0, p⟩ := s
    obtain ⟨p0, p1, p2, p3, p4, p5, p6, p7, p8, p9, p10⟩ := p
    · clear HH h0 h1 HG
      go_enter Try.func20, Try.ntmps20
      go_upto_region 1 with fail
      refine two_boxes_wp ?_
      intro W hb1 hb2 hbel hsz
      obtain ⟨c0, c1, c2, c3, c4, c5, c6, c7, c8, c9, c10, c11, c12⟩ := seen_cells hb1
      go_wp2_with (first
        | (refine wpList_store_row rfl 27 _ _ rfl _ rfl _ rfl _ _ hb2 rfl (by kernel_rfl) (by simp [Value.oneCell']) ?_; intro W2 hs2 hbar)
        | fail)
      refine bodyPost_ret (v := .tuple #[.agg #[.int .i64 0, .int .u64 0, .int .u64 0, .int .u64 0, .int .i64 0, .int .i64 0, .int .u32 0, .int .u32 0, .int .i64 0, .int .i64 0, .int .i64 0, .int .i64 0, .string ByteArray.empty], .int .i64 20]) ?_ rfl ⟨rfl, ?_⟩
      · exact results_row_tmp (p := 6) (u := 7) rfl _ _ (w.heap.size + 1) _ _ _ rfl hs2 Try.underlying27 rfl (by kernel_rfl)
      exact hbar.below hbel (Nat.le_succ _) hbel.size
  · cases hh : hasF s 5 with
    | false =>
      rw [putF_bad (s := s) (f := 5) (v := v) (by simp [hh])]
      rw [hh] at HH
      obtain ⟨i0, n0, p⟩ := s
      obtain ⟨p0, p1, p2, p3, p4, p5, p6, p7, p8, p9, p10⟩ := p
      clear hh h0 h1 HG
      go_enter Try.func20, Try.ntmps20
      go_upto_region 1 with fail
      refine two_boxes_wp ?_
      intro W hb1 hb2 hbel hsz
      obtain ⟨c0, c1, c2, c3, c4, c5, c6, c7, c8, c9, c10, c11, c12⟩ := seen_cells hb1
      have hlt2 := hb2.lt
      have HBB := Lib.hid (And.intro hb1 (And.intro hb2 hbel))
      clear hb1 hb2 hbel
      go_wp2_with fail
      refine (HH.out _).mono ?_
      rintro e w1 ⟨rfl, b1⟩
      have hb1 := HBB.out.1.below b1 HBB.out.1.lt
      have hb2 := HBB.out.2.1.below b1 hlt2
      have hbel := HBB.out.2.2.trans (b1.mono HBB.out.2.2.size)
      clear c0 c1 c2 c3 c4 c5 c6 c7 c8 c9 c10 c11 c12 b1 hlt2
      go_wp2_with (first
        | (refine wpList_store_row rfl 27 _ _ rfl _ rfl _ rfl _ _ hb2 rfl (by kernel_rfl) (by simp [Value.oneCell']) ?_; intro W2 hs2 hbar)
        | fail)
      refine bodyPost_ret (v := .tuple #[.agg #[.int .i64 0, .int .u64 0, .int .u64 0, .int .u64 0, .int .i64 0, .int .i64 0, .int .u32 0, .int .u32 0, .int .i64 0, .int .i64 0, .int .i64 0, .int .i64 0, .string ByteArray.empty], .int .i64 20]) ?_ rfl ⟨rfl, ?_⟩
      · exact results_row_tmp (p := 6) (u := 7) rfl _ _ (w.heap.size + 1) _ _ _ rfl hs2 Try.underlying27 rfl (by kernel_rfl)
      exact hbar.below hbel (Nat.le_succ _) hbel.size
    | true =>
      have hno : ¬ ((5 : Int) = 1 ∨ (5 : Int) = 4 ∨ (5 : Int) = 7 ∨ hasF s 5 = false) := by simp [hh]
      rw [hh] at HH
      have eg : greatF 5 = 4294967295 := by decide
      rw [eg] at HG
      by_cases hv : 4294967295 < v
      · rw [putF_arg hno (by rw [eg]; exact .inl hv)]
        have t1 : decide (4294967295 < v) = true := by simp; omega
        obtain ⟨i0, n0, p⟩ := s
        obtain ⟨p0, p1, p2, p3, p4, p5, p6, p7, p8, p9, p10⟩ := p
        clear hno eg hh h0 h1 hv
        go_enter Try.func20, Try.ntmps20
        go_upto_region 1 with fail
        refine two_boxes_wp ?_
        intro W hb1 hb2 hbel hsz
        obtain ⟨c0, c1, c2, c3, c4, c5, c6, c7, c8, c9, c10, c11, c12⟩ := seen_cells hb1
        have hlt2 := hb2.lt
        have HBB := Lib.hid (And.intro hb1 (And.intro hb2 hbel))
        clear hb1 hb2 hbel
        go_wp2_with fail
        refine (HH.out _).mono ?_
        rintro e w1 ⟨rfl, b1⟩
        have hb1 := HBB.out.1.below b1 HBB.out.1.lt
        have hb2 := HBB.out.2.1.below b1 hlt2
        have hbel := HBB.out.2.2.trans (b1.mono HBB.out.2.2.size)
        clear c0 c1 c2 c3 c4 c5 c6 c7 c8 c9 c10 c11 c12 b1 hlt2
        go_wp2_with fail
        refine (HG.out _).mono ?_
        rintro e w2 ⟨rfl, rfl⟩
        go_wp2_with (first
          | (refine wpList_store_row rfl 27 _ _ rfl _ rfl _ rfl _ _ hb2 rfl (by kernel_rfl) (by simp [Value.oneCell']) ?_; intro W2 hs2 hbar)
          | fail)
        refine bodyPost_ret (v := .tuple #[.agg #[.int .i64 0, .int .u64 0, .int .u64 0, .int .u64 0, .int .i64 0, .int .i64 0, .int .u32 0, .int .u32 0, .int .i64 0, .int .i64 0, .int .i64 0, .int .i64 0, .string ByteArray.empty], .int .i64 1]) ?_ rfl ⟨rfl, ?_⟩
        · exact results_row_tmp (p := 6) (u := 7) rfl _ _ (w.heap.size + 1) _ _ _ rfl hs2 Try.underlying27 rfl (by kernel_rfl)
        exact hbar.below hbel (Nat.le_succ _) hbel.size
      rw [putF_ok hno (by rw [eg]; omega) (by omega)]
      have t1 : decide (4294967295 < v) = false := by simp; omega
      obtain ⟨i0, n0, p⟩ := s
      obtain ⟨p0, p1, p2, p3, p4, p5, p6, p7, p8, p9, p10⟩ := p
      have hvb : v ≤ 4294967295 := by omega
      clear hno eg hh
      go_enter Try.func20, Try.ntmps20
      go_upto_region 1 with fail
      refine two_boxes_wp ?_
      intro W hb1 hb2 hbel hsz
      obtain ⟨c0, c1, c2, c3, c4, c5, c6, c7, c8, c9, c10, c11, c12⟩ := seen_cells hb1
      have hlt2 := hb2.lt
      have HBB := Lib.hid (And.intro hb1 (And.intro hb2 hbel))
      clear hb1 hb2 hbel
      go_wp2_with fail
      refine (HH.out _).mono ?_
      rintro e w1 ⟨rfl, b1⟩
      have hb1 := HBB.out.1.below b1 HBB.out.1.lt
      have hb2 := HBB.out.2.1.below b1 hlt2
      have hbel := HBB.out.2.2.trans (b1.mono HBB.out.2.2.size)
      clear c0 c1 c2 c3 c4 c5 c6 c7 c8 c9 c10 c11 c12 b1 hlt2
      go_wp2_with fail
      refine (HG.out _).mono ?_
      rintro e w2 ⟨rfl, rfl⟩
      obtain ⟨c0, c1, c2, c3, c4, c5, c6, c7, c8, c9, c10, c11, c12⟩ := seen_cells hb1
      have hf := hb1.frozen 6
      go_upto_region 20 with fail
      clear c0 c1 c2 c3 c4 c5 c6 c7 c8 c9 c10 c11 c12 hf
      refine set_wp hb1 hb2 hbel (Nat.succ_ne_self _) (Nat.le_refl _) ?_
      clear hb1 hb2 hbel
      intro W' hb1 hb2 hbel
      go_wp2_with (first
        | (refine wpList_load_row rfl 27 _ rfl _ rfl _ _ (0, 0) _ hb1 Try.underlying27 rfl (by kernel_rfl) ?_)
        | (refine wpList_store_row rfl 27 _ _ rfl _ rfl _ rfl _ _ hb2 rfl (by kernel_rfl) (by simp [Value.oneCell']) ?_; intro W2 hs2 hbar)
        | fail)
      refine bodyPost_ret (v := .tuple #[.agg #[.int .i64 i0, .int .u64 n0, .int .u64 p0, .int .u64 p1, .int .i64 p2, .int .i64 p3, .int .u32 v, .int .u32 p5, .int .i64 p6, .int .i64 p7, .int .i64 p8, .int .i64 p9, .string p10], .int .i64 0]) ?_ rfl ⟨rfl, ?_⟩
      · exact results_row_tmp (p := 6) (u := 7) rfl _ _ (w.heap.size + 1) _ _ _ rfl hs2 Try.underlying27 rfl (by kernel_rfl)
      exact hbar.below hbel (Nat.le_succ _) hbel.size
  · cases hh : hasF s 6 with
    | false =>
      rw [putF_bad (s := s) (f := 6) (v := v) (by simp [hh])]
      rw [hh] at HH
      obtain ⟨i0, n0, p⟩ := s
      obtain ⟨p0, p1, p2, p3, p4, p5, p6, p7, p8, p9, p10⟩ := p
      clear hh h0 h1 HG
      go_enter Try.func20, Try.ntmps20
      go_upto_region 1 with fail
      refine two_boxes_wp ?_
      intro W hb1 hb2 hbel hsz
      obtain ⟨c0, c1, c2, c3, c4, c5, c6, c7, c8, c9, c10, c11, c12⟩ := seen_cells hb1
      have hlt2 := hb2.lt
      have HBB := Lib.hid (And.intro hb1 (And.intro hb2 hbel))
      clear hb1 hb2 hbel
      go_wp2_with fail
      refine (HH.out _).mono ?_
      rintro e w1 ⟨rfl, b1⟩
      have hb1 := HBB.out.1.below b1 HBB.out.1.lt
      have hb2 := HBB.out.2.1.below b1 hlt2
      have hbel := HBB.out.2.2.trans (b1.mono HBB.out.2.2.size)
      clear c0 c1 c2 c3 c4 c5 c6 c7 c8 c9 c10 c11 c12 b1 hlt2
      go_wp2_with (first
        | (refine wpList_store_row rfl 27 _ _ rfl _ rfl _ rfl _ _ hb2 rfl (by kernel_rfl) (by simp [Value.oneCell']) ?_; intro W2 hs2 hbar)
        | fail)
      refine bodyPost_ret (v := .tuple #[.agg #[.int .i64 0, .int .u64 0, .int .u64 0, .int .u64 0, .int .i64 0, .int .i64 0, .int .u32 0, .int .u32 0, .int .i64 0, .int .i64 0, .int .i64 0, .int .i64 0, .string ByteArray.empty], .int .i64 20]) ?_ rfl ⟨rfl, ?_⟩
      · exact results_row_tmp (p := 6) (u := 7) rfl _ _ (w.heap.size + 1) _ _ _ rfl hs2 Try.underlying27 rfl (by kernel_rfl)
      exact hbar.below hbel (Nat.le_succ _) hbel.size
    | true =>
      have hno : ¬ ((6 : Int) = 1 ∨ (6 : Int) = 4 ∨ (6 : Int) = 7 ∨ hasF s 6 = false) := by simp [hh]
      rw [hh] at HH
      have eg : greatF 6 = 4294967295 := by decide
      rw [eg] at HG
      by_cases hv : 4294967295 < v
      · rw [putF_arg hno (by rw [eg]; exact .inl hv)]
        have t1 : decide (4294967295 < v) = true := by simp; omega
        obtain ⟨i0, n0, p⟩ := s
        obtain ⟨p0, p1, p2, p3, p4, p5, p6, p7, p8, p9, p10⟩ := p
        clear hno eg hh h0 h1 hv
        go_enter Try.func20, Try.ntmps20
        go_upto_region 1 with fail
        refine two_boxes_wp ?_
        intro W hb1 hb2 hbel hsz
        obtain ⟨c0, c1, c2, c3, c4, c5, c6, c7, c8, c9, c10, c11, c12⟩ := seen_cells hb1
        have hlt2 := hb2.lt
        have HBB := Lib.hid (And.intro hb1 (And.intro hb2 hbel))
        clear hb1 hb2 hbel
        go_wp2_with fail
        refine (HH.out _).mono ?_
        rintro e w1 ⟨rfl, b1⟩
        have hb1 := HBB.out.1.below b1 HBB.out.1.lt
        have hb2 := HBB.out.2.1.below b1 hlt2
        have hbel := HBB.out.2.2.trans (b1.mono HBB.out.2.2.size)
        clear c0 c1 c2 c3 c4 c5 c6 c7 c8 c9 c10 c11 c12 b1 hlt2
        go_wp2_with fail
        refine (HG.out _).mono ?_
        rintro e w2 ⟨rfl, rfl⟩
        go_wp2_with (first
          | (refine wpList_store_row rfl 27 _ _ rfl _ rfl _ rfl _ _ hb2 rfl (by kernel_rfl) (by simp [Value.oneCell']) ?_; intro W2 hs2 hbar)
          | fail)
        refine bodyPost_ret (v := .tuple #[.agg #[.int .i64 0, .int .u64 0, .int .u64 0, .int .u64 0, .int .i64 0, .int .i64 0, .int .u32 0, .int .u32 0, .int .i64 0, .int .i64 0, .int .i64 0, .int .i64 0, .string ByteArray.empty], .int .i64 1]) ?_ rfl ⟨rfl, ?_⟩
        · exact results_row_tmp (p := 6) (u := 7) rfl _ _ (w.heap.size + 1) _ _ _ rfl hs2 Try.underlying27 rfl (by kernel_rfl)
        exact hbar.below hbel (Nat.le_succ _) hbel.size
      rw [putF_ok hno (by rw [eg]; omega) (by omega)]
      have t1 : decide (4294967295 < v) = false := by simp; omega
      obtain ⟨i0, n0, p⟩ := s
      obtain ⟨p0, p1, p2, p3, p4, p5, p6, p7, p8, p9, p10⟩ := p
      have hvb : v ≤ 4294967295 := by omega
      clear hno eg hh
      go_enter Try.func20, Try.ntmps20
      go_upto_region 1 with fail
      refine two_boxes_wp ?_
      intro W hb1 hb2 hbel hsz
      obtain ⟨c0, c1, c2, c3, c4, c5, c6, c7, c8, c9, c10, c11, c12⟩ := seen_cells hb1
      have hlt2 := hb2.lt
      have HBB := Lib.hid (And.intro hb1 (And.intro hb2 hbel))
      clear hb1 hb2 hbel
      go_wp2_with fail
      refine (HH.out _).mono ?_
      rintro e w1 ⟨rfl, b1⟩
      have hb1 := HBB.out.1.below b1 HBB.out.1.lt
      have hb2 := HBB.out.2.1.below b1 hlt2
      have hbel := HBB.out.2.2.trans (b1.mono HBB.out.2.2.size)
      clear c0 c1 c2 c3 c4 c5 c6 c7 c8 c9 c10 c11 c12 b1 hlt2
      go_wp2_with fail
      refine (HG.out _).mono ?_
      rintro e w2 ⟨rfl, rfl⟩
      obtain ⟨c0, c1, c2, c3, c4, c5, c6, c7, c8, c9, c10, c11, c12⟩ := seen_cells hb1
      have hf := hb1.frozen 7
      go_upto_region 20 with fail
      clear c0 c1 c2 c3 c4 c5 c6 c7 c8 c9 c10 c11 c12 hf
      refine set_wp hb1 hb2 hbel (Nat.succ_ne_self _) (Nat.le_refl _) ?_
      clear hb1 hb2 hbel
      intro W' hb1 hb2 hbel
      go_wp2_with (first
        | (refine wpList_load_row rfl 27 _ rfl _ rfl _ _ (0, 0) _ hb1 Try.underlying27 rfl (by kernel_rfl) ?_)
        | (refine wpList_store_row rfl 27 _ _ rfl _ rfl _ rfl _ _ hb2 rfl (by kernel_rfl) (by simp [Value.oneCell']) ?_; intro W2 hs2 hbar)
        | fail)
      refine bodyPost_ret (v := .tuple #[.agg #[.int .i64 i0, .int .u64 n0, .int .u64 p0, .int .u64 p1, .int .i64 p2, .int .i64 p3, .int .u32 p4, .int .u32 v, .int .i64 p6, .int .i64 p7, .int .i64 p8, .int .i64 p9, .string p10], .int .i64 0]) ?_ rfl ⟨rfl, ?_⟩
      · exact results_row_tmp (p := 6) (u := 7) rfl _ _ (w.heap.size + 1) _ _ _ rfl hs2 Try.underlying27 rfl (by kernel_rfl)
      exact hbar.below hbel (Nat.le_succ _) hbel.size
  · rw [putF_bad (s := s) (f := 7) (v := v) (by omega)]
    obtain ⟨i0, n0, p⟩ := s
    obtain ⟨p0, p1, p2, p3, p4, p5, p6, p7, p8, p9, p10⟩ := p
    · clear HH h0 h1 HG
      go_enter Try.func20, Try.ntmps20
      go_upto_region 1 with fail
      refine two_boxes_wp ?_
      intro W hb1 hb2 hbel hsz
      obtain ⟨c0, c1, c2, c3, c4, c5, c6, c7, c8, c9, c10, c11, c12⟩ := seen_cells hb1
      go_wp2_with (first
        | (refine wpList_store_row rfl 27 _ _ rfl _ rfl _ rfl _ _ hb2 rfl (by kernel_rfl) (by simp [Value.oneCell']) ?_; intro W2 hs2 hbar)
        | fail)
      refine bodyPost_ret (v := .tuple #[.agg #[.int .i64 0, .int .u64 0, .int .u64 0, .int .u64 0, .int .i64 0, .int .i64 0, .int .u32 0, .int .u32 0, .int .i64 0, .int .i64 0, .int .i64 0, .int .i64 0, .string ByteArray.empty], .int .i64 20]) ?_ rfl ⟨rfl, ?_⟩
      · exact results_row_tmp (p := 6) (u := 7) rfl _ _ (w.heap.size + 1) _ _ _ rfl hs2 Try.underlying27 rfl (by kernel_rfl)
      exact hbar.below hbel (Nat.le_succ _) hbel.size
  · cases hh : hasF s 8 with
    | false =>
      rw [putF_bad (s := s) (f := 8) (v := v) (by simp [hh])]
      rw [hh] at HH
      obtain ⟨i0, n0, p⟩ := s
      obtain ⟨p0, p1, p2, p3, p4, p5, p6, p7, p8, p9, p10⟩ := p
      clear hh h0 h1 HG
      go_enter Try.func20, Try.ntmps20
      go_upto_region 1 with fail
      refine two_boxes_wp ?_
      intro W hb1 hb2 hbel hsz
      obtain ⟨c0, c1, c2, c3, c4, c5, c6, c7, c8, c9, c10, c11, c12⟩ := seen_cells hb1
      have hlt2 := hb2.lt
      have HBB := Lib.hid (And.intro hb1 (And.intro hb2 hbel))
      clear hb1 hb2 hbel
      go_wp2_with fail
      refine (HH.out _).mono ?_
      rintro e w1 ⟨rfl, b1⟩
      have hb1 := HBB.out.1.below b1 HBB.out.1.lt
      have hb2 := HBB.out.2.1.below b1 hlt2
      have hbel := HBB.out.2.2.trans (b1.mono HBB.out.2.2.size)
      clear c0 c1 c2 c3 c4 c5 c6 c7 c8 c9 c10 c11 c12 b1 hlt2
      go_wp2_with (first
        | (refine wpList_store_row rfl 27 _ _ rfl _ rfl _ rfl _ _ hb2 rfl (by kernel_rfl) (by simp [Value.oneCell']) ?_; intro W2 hs2 hbar)
        | fail)
      refine bodyPost_ret (v := .tuple #[.agg #[.int .i64 0, .int .u64 0, .int .u64 0, .int .u64 0, .int .i64 0, .int .i64 0, .int .u32 0, .int .u32 0, .int .i64 0, .int .i64 0, .int .i64 0, .int .i64 0, .string ByteArray.empty], .int .i64 20]) ?_ rfl ⟨rfl, ?_⟩
      · exact results_row_tmp (p := 6) (u := 7) rfl _ _ (w.heap.size + 1) _ _ _ rfl hs2 Try.underlying27 rfl (by kernel_rfl)
      exact hbar.below hbel (Nat.le_succ _) hbel.size
    | true =>
      have hno : ¬ ((8 : Int) = 1 ∨ (8 : Int) = 4 ∨ (8 : Int) = 7 ∨ hasF s 8 = false) := by simp [hh]
      rw [hh] at HH
      have eg : greatF 8 = 65535 := by decide
      rw [eg] at HG
      by_cases hv : 65535 < v
      · rw [putF_arg hno (by rw [eg]; exact .inl hv)]
        have t1 : decide (65535 < v) = true := by simp; omega
        obtain ⟨i0, n0, p⟩ := s
        obtain ⟨p0, p1, p2, p3, p4, p5, p6, p7, p8, p9, p10⟩ := p
        clear hno eg hh h0 h1 hv
        go_enter Try.func20, Try.ntmps20
        go_upto_region 1 with fail
        refine two_boxes_wp ?_
        intro W hb1 hb2 hbel hsz
        obtain ⟨c0, c1, c2, c3, c4, c5, c6, c7, c8, c9, c10, c11, c12⟩ := seen_cells hb1
        have hlt2 := hb2.lt
        have HBB := Lib.hid (And.intro hb1 (And.intro hb2 hbel))
        clear hb1 hb2 hbel
        go_wp2_with fail
        refine (HH.out _).mono ?_
        rintro e w1 ⟨rfl, b1⟩
        have hb1 := HBB.out.1.below b1 HBB.out.1.lt
        have hb2 := HBB.out.2.1.below b1 hlt2
        have hbel := HBB.out.2.2.trans (b1.mono HBB.out.2.2.size)
        clear c0 c1 c2 c3 c4 c5 c6 c7 c8 c9 c10 c11 c12 b1 hlt2
        go_wp2_with fail
        refine (HG.out _).mono ?_
        rintro e w2 ⟨rfl, rfl⟩
        go_wp2_with (first
          | (refine wpList_store_row rfl 27 _ _ rfl _ rfl _ rfl _ _ hb2 rfl (by kernel_rfl) (by simp [Value.oneCell']) ?_; intro W2 hs2 hbar)
          | fail)
        refine bodyPost_ret (v := .tuple #[.agg #[.int .i64 0, .int .u64 0, .int .u64 0, .int .u64 0, .int .i64 0, .int .i64 0, .int .u32 0, .int .u32 0, .int .i64 0, .int .i64 0, .int .i64 0, .int .i64 0, .string ByteArray.empty], .int .i64 1]) ?_ rfl ⟨rfl, ?_⟩
        · exact results_row_tmp (p := 6) (u := 7) rfl _ _ (w.heap.size + 1) _ _ _ rfl hs2 Try.underlying27 rfl (by kernel_rfl)
        exact hbar.below hbel (Nat.le_succ _) hbel.size
      rw [putF_ok hno (by rw [eg]; omega) (by omega)]
      have t1 : decide (65535 < v) = false := by simp; omega
      obtain ⟨i0, n0, p⟩ := s
      obtain ⟨p0, p1, p2, p3, p4, p5, p6, p7, p8, p9, p10⟩ := p
      have hvb : v ≤ 65535 := by omega
      clear hno eg hh
      go_enter Try.func20, Try.ntmps20
      go_upto_region 1 with fail
      refine two_boxes_wp ?_
      intro W hb1 hb2 hbel hsz
      obtain ⟨c0, c1, c2, c3, c4, c5, c6, c7, c8, c9, c10, c11, c12⟩ := seen_cells hb1
      have hlt2 := hb2.lt
      have HBB := Lib.hid (And.intro hb1 (And.intro hb2 hbel))
      clear hb1 hb2 hbel
      go_wp2_with fail
      refine (HH.out _).mono ?_
      rintro e w1 ⟨rfl, b1⟩
      have hb1 := HBB.out.1.below b1 HBB.out.1.lt
      have hb2 := HBB.out.2.1.below b1 hlt2
      have hbel := HBB.out.2.2.trans (b1.mono HBB.out.2.2.size)
      clear c0 c1 c2 c3 c4 c5 c6 c7 c8 c9 c10 c11 c12 b1 hlt2
      go_wp2_with fail
      refine (HG.out _).mono ?_
      rintro e w2 ⟨rfl, rfl⟩
      obtain ⟨c0, c1, c2, c3, c4, c5, c6, c7, c8, c9, c10, c11, c12⟩ := seen_cells hb1
      have hf := hb1.frozen 10
      go_upto_region 20 with fail
      clear c0 c1 c2 c3 c4 c5 c6 c7 c8 c9 c10 c11 c12 hf
      refine set_wp hb1 hb2 hbel (Nat.succ_ne_self _) (Nat.le_refl _) ?_
      clear hb1 hb2 hbel
      intro W' hb1 hb2 hbel
      go_wp2_with (first
        | (refine wpList_load_row rfl 27 _ rfl _ rfl _ _ (0, 0) _ hb1 Try.underlying27 rfl (by kernel_rfl) ?_)
        | (refine wpList_store_row rfl 27 _ _ rfl _ rfl _ rfl _ _ hb2 rfl (by kernel_rfl) (by simp [Value.oneCell']) ?_; intro W2 hs2 hbar)
        | fail)
      refine bodyPost_ret (v := .tuple #[.agg #[.int .i64 i0, .int .u64 n0, .int .u64 p0, .int .u64 p1, .int .i64 p2, .int .i64 p3, .int .u32 p4, .int .u32 p5, .int .i64 p6, .int .i64 p7, .int .i64 v, .int .i64 p9, .string p10], .int .i64 0]) ?_ rfl ⟨rfl, ?_⟩
      · exact results_row_tmp (p := 6) (u := 7) rfl _ _ (w.heap.size + 1) _ _ _ rfl hs2 Try.underlying27 rfl (by kernel_rfl)
      exact hbar.below hbel (Nat.le_succ _) hbel.size
  · cases hh : hasF s 9 with
    | false =>
      rw [putF_bad (s := s) (f := 9) (v := v) (by simp [hh])]
      rw [hh] at HH
      obtain ⟨i0, n0, p⟩ := s
      obtain ⟨p0, p1, p2, p3, p4, p5, p6, p7, p8, p9, p10⟩ := p
      clear hh h0 h1 HG
      go_enter Try.func20, Try.ntmps20
      go_upto_region 1 with fail
      refine two_boxes_wp ?_
      intro W hb1 hb2 hbel hsz
      obtain ⟨c0, c1, c2, c3, c4, c5, c6, c7, c8, c9, c10, c11, c12⟩ := seen_cells hb1
      have hlt2 := hb2.lt
      have HBB := Lib.hid (And.intro hb1 (And.intro hb2 hbel))
      clear hb1 hb2 hbel
      go_wp2_with fail
      refine (HH.out _).mono ?_
      rintro e w1 ⟨rfl, b1⟩
      have hb1 := HBB.out.1.below b1 HBB.out.1.lt
      have hb2 := HBB.out.2.1.below b1 hlt2
      have hbel := HBB.out.2.2.trans (b1.mono HBB.out.2.2.size)
      clear c0 c1 c2 c3 c4 c5 c6 c7 c8 c9 c10 c11 c12 b1 hlt2
      go_wp2_with (first
        | (refine wpList_store_row rfl 27 _ _ rfl _ rfl _ rfl _ _ hb2 rfl (by kernel_rfl) (by simp [Value.oneCell']) ?_; intro W2 hs2 hbar)
        | fail)
      refine bodyPost_ret (v := .tuple #[.agg #[.int .i64 0, .int .u64 0, .int .u64 0, .int .u64 0, .int .i64 0, .int .i64 0, .int .u32 0, .int .u32 0, .int .i64 0, .int .i64 0, .int .i64 0, .int .i64 0, .string ByteArray.empty], .int .i64 20]) ?_ rfl ⟨rfl, ?_⟩
      · exact results_row_tmp (p := 6) (u := 7) rfl _ _ (w.heap.size + 1) _ _ _ rfl hs2 Try.underlying27 rfl (by kernel_rfl)
      exact hbar.below hbel (Nat.le_succ _) hbel.size
    | true =>
      have hno : ¬ ((9 : Int) = 1 ∨ (9 : Int) = 4 ∨ (9 : Int) = 7 ∨ hasF s 9 = false) := by simp [hh]
      rw [hh] at HH
      have eg : greatF 9 = 65535 := by decide
      rw [eg] at HG
      by_cases hv : 65535 < v
      · rw [putF_arg hno (by rw [eg]; exact .inl hv)]
        have t1 : decide (65535 < v) = true := by simp; omega
        obtain ⟨i0, n0, p⟩ := s
        obtain ⟨p0, p1, p2, p3, p4, p5, p6, p7, p8, p9, p10⟩ := p
        clear hno eg hh h0 h1 hv
        go_enter Try.func20, Try.ntmps20
        go_upto_region 1 with fail
        refine two_boxes_wp ?_
        intro W hb1 hb2 hbel hsz
        obtain ⟨c0, c1, c2, c3, c4, c5, c6, c7, c8, c9, c10, c11, c12⟩ := seen_cells hb1
        have hlt2 := hb2.lt
        have HBB := Lib.hid (And.intro hb1 (And.intro hb2 hbel))
        clear hb1 hb2 hbel
        go_wp2_with fail
        refine (HH.out _).mono ?_
        rintro e w1 ⟨rfl, b1⟩
        have hb1 := HBB.out.1.below b1 HBB.out.1.lt
        have hb2 := HBB.out.2.1.below b1 hlt2
        have hbel := HBB.out.2.2.trans (b1.mono HBB.out.2.2.size)
        clear c0 c1 c2 c3 c4 c5 c6 c7 c8 c9 c10 c11 c12 b1 hlt2
        go_wp2_with fail
        refine (HG.out _).mono ?_
        rintro e w2 ⟨rfl, rfl⟩
        go_wp2_with (first
          | (refine wpList_store_row rfl 27 _ _ rfl _ rfl _ rfl _ _ hb2 rfl (by kernel_rfl) (by simp [Value.oneCell']) ?_; intro W2 hs2 hbar)
          | fail)
        refine bodyPost_ret (v := .tuple #[.agg #[.int .i64 0, .int .u64 0, .int .u64 0, .int .u64 0, .int .i64 0, .int .i64 0, .int .u32 0, .int .u32 0, .int .i64 0, .int .i64 0, .int .i64 0, .int .i64 0, .string ByteArray.empty], .int .i64 1]) ?_ rfl ⟨rfl, ?_⟩
        · exact results_row_tmp (p := 6) (u := 7) rfl _ _ (w.heap.size + 1) _ _ _ rfl hs2 Try.underlying27 rfl (by kernel_rfl)
        exact hbar.below hbel (Nat.le_succ _) hbel.size
      rw [putF_ok hno (by rw [eg]; omega) (by omega)]
      have t1 : decide (65535 < v) = false := by simp; omega
      obtain ⟨i0, n0, p⟩ := s
      obtain ⟨p0, p1, p2, p3, p4, p5, p6, p7, p8, p9, p10⟩ := p
      have hvb : v ≤ 65535 := by omega
      clear hno eg hh
      go_enter Try.func20, Try.ntmps20
      go_upto_region 1 with fail
      refine two_boxes_wp ?_
      intro W hb1 hb2 hbel hsz
      obtain ⟨c0, c1, c2, c3, c4, c5, c6, c7, c8, c9, c10, c11, c12⟩ := seen_cells hb1
      have hlt2 := hb2.lt
      have HBB := Lib.hid (And.intro hb1 (And.intro hb2 hbel))
      clear hb1 hb2 hbel
      go_wp2_with fail
      refine (HH.out _).mono ?_
      rintro e w1 ⟨rfl, b1⟩
      have hb1 := HBB.out.1.below b1 HBB.out.1.lt
      have hb2 := HBB.out.2.1.below b1 hlt2
      have hbel := HBB.out.2.2.trans (b1.mono HBB.out.2.2.size)
      clear c0 c1 c2 c3 c4 c5 c6 c7 c8 c9 c10 c11 c12 b1 hlt2
      go_wp2_with fail
      refine (HG.out _).mono ?_
      rintro e w2 ⟨rfl, rfl⟩
      obtain ⟨c0, c1, c2, c3, c4, c5, c6, c7, c8, c9, c10, c11, c12⟩ := seen_cells hb1
      have hf := hb1.frozen 11
      go_upto_region 20 with fail
      clear c0 c1 c2 c3 c4 c5 c6 c7 c8 c9 c10 c11 c12 hf
      refine set_wp hb1 hb2 hbel (Nat.succ_ne_self _) (Nat.le_refl _) ?_
      clear hb1 hb2 hbel
      intro W' hb1 hb2 hbel
      go_wp2_with (first
        | (refine wpList_load_row rfl 27 _ rfl _ rfl _ _ (0, 0) _ hb1 Try.underlying27 rfl (by kernel_rfl) ?_)
        | (refine wpList_store_row rfl 27 _ _ rfl _ rfl _ rfl _ _ hb2 rfl (by kernel_rfl) (by simp [Value.oneCell']) ?_; intro W2 hs2 hbar)
        | fail)
      refine bodyPost_ret (v := .tuple #[.agg #[.int .i64 i0, .int .u64 n0, .int .u64 p0, .int .u64 p1, .int .i64 p2, .int .i64 p3, .int .u32 p4, .int .u32 p5, .int .i64 p6, .int .i64 p7, .int .i64 p8, .int .i64 v, .string p10], .int .i64 0]) ?_ rfl ⟨rfl, ?_⟩
      · exact results_row_tmp (p := 6) (u := 7) rfl _ _ (w.heap.size + 1) _ _ _ rfl hs2 Try.underlying27 rfl (by kernel_rfl)
      exact hbar.below hbel (Nat.le_succ _) hbel.size
  · have hh := hasF_none (s := s) h
    rw [putF_bad (s := s) (f := f) (v := v) (by simp [hh])]
    rw [hh] at HH
    obtain ⟨i0, n0, p⟩ := s
    obtain ⟨p0, p1, p2, p3, p4, p5, p6, p7, p8, p9, p10⟩ := p
    · clear hh h0 h1 h HG
      go_enter Try.func20, Try.ntmps20
      go_upto_region 1 with fail
      refine two_boxes_wp ?_
      intro W hb1 hb2 hbel hsz
      obtain ⟨c0, c1, c2, c3, c4, c5, c6, c7, c8, c9, c10, c11, c12⟩ := seen_cells hb1
      have hlt2 := hb2.lt
      have HBB := Lib.hid (And.intro hb1 (And.intro hb2 hbel))
      clear hb1 hb2 hbel
      go_wp2_with fail
      refine (HH.out _).mono ?_
      rintro e w1 ⟨rfl, b1⟩
      have hb1 := HBB.out.1.below b1 HBB.out.1.lt
      have hb2 := HBB.out.2.1.below b1 hlt2
      have hbel := HBB.out.2.2.trans (b1.mono HBB.out.2.2.size)
      clear c0 c1 c2 c3 c4 c5 c6 c7 c8 c9 c10 c11 c12 b1 hlt2
      go_wp2_with (first
        | (refine wpList_store_row rfl 27 _ _ rfl _ rfl _ rfl _ _ hb2 rfl (by kernel_rfl) (by simp [Value.oneCell']) ?_; intro W2 hs2 hbar)
        | fail)
      refine bodyPost_ret (v := .tuple #[.agg #[.int .i64 0, .int .u64 0, .int .u64 0, .int .u64 0, .int .i64 0, .int .i64 0, .int .u32 0, .int .u32 0, .int .i64 0, .int .i64 0, .int .i64 0, .int .i64 0, .string ByteArray.empty], .int .i64 20]) ?_ rfl ⟨rfl, ?_⟩
      · exact results_row_tmp (p := 6) (u := 7) rfl _ _ (w.heap.size + 1) _ _ _ rfl hs2 Try.underlying27 rfl (by kernel_rfl)
      exact hbar.below hbel (Nat.le_succ _) hbel.size
end Go.Proofs.Ytiolfccfkpggcaa
