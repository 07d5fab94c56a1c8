/- Push and Pop. -/
import Derived.Test.YtiolfccfkpggcaaFieldPlain
namespace Go.Proofs.Ytiolfccfkpggcaa
open Go.RowKit
set_option linter.unusedVariables false

def zeroSeen : Seen := ⟨0, 0, ⟨0, 0, 0, 0, 0, 0, 0, 0, 0, 0, ByteArray.empty⟩⟩
def withVlan (s : Seen) (v : Int) : Seen := ⟨s.fIn, s.fMeta, ⟨s.fP.fTo, s.fP.fFrom, v, s.fP.fType, s.fP.fSrc, s.fP.fDst, s.fP.fLife, s.fP.fProto, s.fP.fSport, s.fP.fDport, s.fP.fData⟩⟩
def pushF (s : Seen) (n : Int) : Seen × Int := if s.fP.fVlan = 0 then (if n ≤ 4095 then (withVlan s (4096 + n), 0) else (zeroSeen, 1)) else (zeroSeen, 29)
def popF (s : Seen) : Seen × Int := if s.fP.fVlan = 0 then (zeroSeen, 31) else (withVlan s 0, 0)

set_option maxRecDepth 100000 in
set_option maxHeartbeats 4000000 in
theorem Push_any (w : World) (s : Seen) (n : Int) (h0 : 0 ≤ n) (h1 : n ≤ 18446744073709551615) :
    Calls Try.prog 16 #[valSeen s, .int .u64 n] w fun x w' => x = .returned (.tuple #[valSeen (pushF s n).1, .int .i64 (pushF s n).2]) ∧ Below w.heap.size w w' := by
  obtain ⟨i0, n0, p⟩ := s
  obtain ⟨p0, p1, p2, p3, p4, p5, p6, p7, p8, p9, p10⟩ := p
  by_cases hv : p2 = 0
  · subst hv
    by_cases hn : n ≤ 4095
    · have t1 : decide (4096 ≤ n) = false := by simp; omega
      have e : pushF ⟨i0, n0, p0, p1, 0, p3, p4, p5, p6, p7, p8, p9, p10⟩ n = (withVlan ⟨i0, n0, p0, p1, 0, p3, p4, p5, p6, p7, p8, p9, p10⟩ (4096 + n), 0) := by unfold pushF; rw [if_pos rfl, if_pos hn]
      rw [e]
      clear e h1
      go_enter Try.func16, Try.ntmps16
      go_upto_region 1 with fail
      refine two_boxes_wp ?_
      intro W hb1 hb2 hbel hsz
      obtain ⟨c0, c1, c2, c3, c4, c5, c6, c7, c8, c9, c10, c11, c12⟩ := seen_cells hb1
      have hf := hb1.frozen 4
      go_upto_region 6 with fail
      clear c0 c1 c2 c3 c4 c5 c6 c7 c8 c9 c10 c11 c12 hf
      refine set_wp hb1 hb2 hbel (Nat.succ_ne_self _) (Nat.le_refl _) ?_
      clear hb1 hb2 hbel
      intro W' hb1 hb2 hbel
      go_wp2_with (first
        | (refine wpList_load_row rfl 27 _ rfl _ rfl _ _ (0, 0) _ hb1 Try.underlying27 rfl (by kernel_rfl) ?_)
        | (refine wpList_store_row rfl 27 _ _ rfl _ rfl _ rfl _ _ hb2 rfl (by kernel_rfl) (by simp [Value.oneCell']) ?_; intro W2 hs2 hbar)
        | fail)
      refine bodyPost_ret (v := .tuple #[.agg #[.int .i64 i0, .int .u64 n0, .int .u64 p0, .int .u64 p1, .int .i64 (4096 + n), .int .i64 p3, .int .u32 p4, .int .u32 p5, .int .i64 p6, .int .i64 p7, .int .i64 p8, .int .i64 p9, .string p10], .int .i64 0]) ?_ rfl ⟨rfl, ?_⟩
      · exact results_row_tmp (p := 4) (u := 5) rfl _ _ (w.heap.size + 1) _ _ _ rfl hs2 Try.underlying27 rfl (by kernel_rfl)
      exact hbar.below hbel (Nat.le_succ _) hbel.size
    · have t1 : decide (4096 ≤ n) = true := by simp; omega
      have e : pushF ⟨i0, n0, p0, p1, 0, p3, p4, p5, p6, p7, p8, p9, p10⟩ n = (zeroSeen, 1) := by unfold pushF; rw [if_pos rfl, if_neg hn]
      rw [e]
      clear e hn
      go_enter Try.func16, Try.ntmps16
      go_upto_region 1 with fail
      refine two_boxes_wp ?_
      intro W hb1 hb2 hbel hsz
      obtain ⟨c0, c1, c2, c3, c4, c5, c6, c7, c8, c9, c10, c11, c12⟩ := seen_cells hb1
      have hf := hb1.frozen 4
      go_wp2_with (first
        | (refine wpList_load_row rfl 27 _ rfl _ rfl _ _ (0, 0) _ hb1 Try.underlying27 rfl (by kernel_rfl) ?_)
        | (refine wpList_store_row rfl 27 _ _ rfl _ rfl _ rfl _ _ hb2 rfl (by kernel_rfl) (by simp [Value.oneCell']) ?_; intro W2 hs2 hbar)
        | fail)
      refine bodyPost_ret (v := .tuple #[.agg #[.int .i64 0, .int .u64 0, .int .u64 0, .int .u64 0, .int .i64 0, .int .i64 0, .int .u32 0, .int .u32 0, .int .i64 0, .int .i64 0, .int .i64 0, .int .i64 0, .string ByteArray.empty], .int .i64 1]) ?_ rfl ⟨rfl, ?_⟩
      · exact results_row_tmp (p := 4) (u := 5) rfl _ _ (w.heap.size + 1) _ _ _ rfl hs2 Try.underlying27 rfl (by kernel_rfl)
      exact hbar.below hbel (Nat.le_succ _) hbel.size
  · have t1 : (p2 == 0) = false := beq_eq_false_iff_ne.mpr hv
    have e : pushF ⟨i0, n0, p0, p1, p2, p3, p4, p5, p6, p7, p8, p9, p10⟩ n = (zeroSeen, 29) := by unfold pushF; rw [if_neg hv]
    · rw [e]
      clear e hv h0 h1
      go_enter Try.func16, Try.ntmps16
      go_upto_region 1 with fail
      refine two_boxes_wp ?_
      intro W hb1 hb2 hbel hsz
      obtain ⟨c0, c1, c2, c3, c4, c5, c6, c7, c8, c9, c10, c11, c12⟩ := seen_cells hb1
      have hf := hb1.frozen 4
      go_wp2_with (first
        | (refine wpList_load_row rfl 27 _ rfl _ rfl _ _ (0, 0) _ hb1 Try.underlying27 rfl (by kernel_rfl) ?_)
        | (refine wpList_store_row rfl 27 _ _ rfl _ rfl _ rfl _ _ hb2 rfl (by kernel_rfl) (by simp [Value.oneCell']) ?_; intro W2 hs2 hbar)
        | fail)
      refine bodyPost_ret (v := .tuple #[.agg #[.int .i64 0, .int .u64 0, .int .u64 0, .int .u64 0, .int .i64 0, .int .i64 0, .int .u32 0, .int .u32 0, .int .i64 0, .int .i64 0, .int .i64 0, .int .i64 0, .string ByteArray.empty], .int .i64 29]) ?_ rfl ⟨rfl, ?_⟩
      · exact results_row_tmp (p := 4) (u := 5) rfl _ _ (w.heap.size + 1) _ _ _ rfl hs2 Try.underlying27 rfl (by kernel_rfl)
      exact hbar.below hbel (Nat.le_succ _) hbel.size

set_option maxRecDepth 100000 in
set_option maxHeartbeats 4000000 in
theorem rPush_any (w : World) (s : Seen) (n : Int) (h0 : 0 ≤ n) (h1 : n ≤ 18446744073709551615) :
    Calls Try.prog 17 #[valSeen s, .int .u64 n] w fun x w' => x = .returned (.tuple #[valSeen (pushF s n).1, .int .i64 (pushF s n).2]) ∧ Below w.heap.size w w' := by
  obtain ⟨i0, n0, p⟩ := s
  obtain ⟨p0, p1, p2, p3, p4, p5, p6, p7, p8, p9, p10⟩ := p
  by_cases hv : p2 = 0
  · subst hv
    by_cases hn : n ≤ 4095
    · have t1 : decide (4095 < n) = false := by simp; omega
      have e : pushF ⟨i0, n0, p0, p1, 0, p3, p4, p5, p6, p7, p8, p9, p10⟩ n = (withVlan ⟨i0, n0, p0, p1, 0, p3, p4, p5, p6, p7, p8, p9, p10⟩ (4096 + n), 0) := by unfold pushF; rw [if_pos rfl, if_pos hn]
      rw [e]
      clear e h1
      go_enter Try.func17, Try.ntmps17
      go_upto_region 1 with fail
      refine two_boxes_wp ?_
      intro W hb1 hb2 hbel hsz
      obtain ⟨c0, c1, c2, c3, c4, c5, c6, c7, c8, c9, c10, c11, c12⟩ := seen_cells hb1
      have hf := hb1.frozen 4
      go_upto_region 6 with fail
      clear c0 c1 c2 c3 c4 c5 c6 c7 c8 c9 c10 c11 c12 hf
      refine set_wp hb1 hb2 hbel (Nat.succ_ne_self _) (Nat.le_refl _) ?_
      clear hb1 hb2 hbel
      intro W' hb1 hb2 hbel
      go_wp2_with (first
        | (refine wpList_load_row rfl 32 _ rfl _ rfl _ _ (0, 0) _ hb1 Try.underlying32 rfl (by kernel_rfl) ?_)
        | (refine wpList_store_row rfl 32 _ _ rfl _ rfl _ rfl _ _ hb2 rfl (by kernel_rfl) (by simp [Value.oneCell']) ?_; intro W2 hs2 hbar)
        | fail)
      refine bodyPost_ret (v := .tuple #[.agg #[.int .i64 i0, .int .u64 n0, .int .u64 p0, .int .u64 p1, .int .i64 (4096 + n), .int .i64 p3, .int .u32 p4, .int .u32 p5, .int .i64 p6, .int .i64 p7, .int .i64 p8, .int .i64 p9, .string p10], .int .i64 0]) ?_ rfl ⟨rfl, ?_⟩
      · exact results_row_tmp (p := 4) (u := 5) rfl _ _ (w.heap.size + 1) _ _ _ rfl hs2 Try.underlying32 rfl (by kernel_rfl)
      exact hbar.below hbel (Nat.le_succ _) hbel.size
    · have t1 : decide (4095 < n) = true := by simp; omega
      have e : pushF ⟨i0, n0, p0, p1, 0, p3, p4, p5, p6, p7, p8, p9, p10⟩ n = (zeroSeen, 1) := by unfold pushF; rw [if_pos rfl, if_neg hn]
      rw [e]
      clear e hn
      go_enter Try.func17, Try.ntmps17
      go_upto_region 1 with fail
      refine two_boxes_wp ?_
      intro W hb1 hb2 hbel hsz
      obtain ⟨c0, c1, c2, c3, c4, c5, c6, c7, c8, c9, c10, c11, c12⟩ := seen_cells hb1
      have hf := hb1.frozen 4
      go_wp2_with (first
        | (refine wpList_load_row rfl 32 _ rfl _ rfl _ _ (0, 0) _ hb1 Try.underlying32 rfl (by kernel_rfl) ?_)
        | (refine wpList_store_row rfl 32 _ _ rfl _ rfl _ rfl _ _ hb2 rfl (by kernel_rfl) (by simp [Value.oneCell']) ?_; intro W2 hs2 hbar)
        | fail)
      refine bodyPost_ret (v := .tuple #[.agg #[.int .i64 0, .int .u64 0, .int .u64 0, .int .u64 0, .int .i64 0, .int .i64 0, .int .u32 0, .int .u32 0, .int .i64 0, .int .i64 0, .int .i64 0, .int .i64 0, .string ByteArray.empty], .int .i64 1]) ?_ rfl ⟨rfl, ?_⟩
      · exact results_row_tmp (p := 4) (u := 5) rfl _ _ (w.heap.size + 1) _ _ _ rfl hs2 Try.underlying32 rfl (by kernel_rfl)
      exact hbar.below hbel (Nat.le_succ _) hbel.size
  · have t1 : (p2 == 0) = false := beq_eq_false_iff_ne.mpr hv
    have e : pushF ⟨i0, n0, p0, p1, p2, p3, p4, p5, p6, p7, p8, p9, p10⟩ n = (zeroSeen, 29) := by unfold pushF; rw [if_neg hv]
    · rw [e]
      clear e hv h0 h1
      go_enter Try.func17, Try.ntmps17
      go_upto_region 1 with fail
      refine two_boxes_wp ?_
      intro W hb1 hb2 hbel hsz
      obtain ⟨c0, c1, c2, c3, c4, c5, c6, c7, c8, c9, c10, c11, c12⟩ := seen_cells hb1
      have hf := hb1.frozen 4
      go_wp2_with (first
        | (refine wpList_load_row rfl 32 _ rfl _ rfl _ _ (0, 0) _ hb1 Try.underlying32 rfl (by kernel_rfl) ?_)
        | (refine wpList_store_row rfl 32 _ _ rfl _ rfl _ rfl _ _ hb2 rfl (by kernel_rfl) (by simp [Value.oneCell']) ?_; intro W2 hs2 hbar)
        | fail)
      refine bodyPost_ret (v := .tuple #[.agg #[.int .i64 0, .int .u64 0, .int .u64 0, .int .u64 0, .int .i64 0, .int .i64 0, .int .u32 0, .int .u32 0, .int .i64 0, .int .i64 0, .int .i64 0, .int .i64 0, .string ByteArray.empty], .int .i64 29]) ?_ rfl ⟨rfl, ?_⟩
      · exact results_row_tmp (p := 4) (u := 5) rfl _ _ (w.heap.size + 1) _ _ _ rfl hs2 Try.underlying32 rfl (by kernel_rfl)
      exact hbar.below hbel (Nat.le_succ _) hbel.size

set_option maxRecDepth 100000 in
set_option maxHeartbeats 4000000 in
theorem Pop_any (w : World) (s : Seen) :
    Calls Try.prog 18 #[valSeen s] w fun x w' => x = .returned (.tuple #[valSeen (popF s).1, .int .i64 (popF s).2]) ∧ Below w.heap.size w w' := by
  obtain ⟨i0, n0, p⟩ := s
  obtain ⟨p0, p1, p2, p3, p4, p5, p6, p7, p8, p9, p10⟩ := p
  by_cases hv : p2 = 0
  · subst hv
    have e : popF ⟨i0, n0, p0, p1, 0, p3, p4, p5, p6, p7, p8, p9, p10⟩ = (zeroSeen, 31) := by unfold popF; rw [if_pos rfl]
    · rw [e]
      clear e
      go_enter Try.func18, Try.ntmps18
      go_upto_region 1 with fail
      refine two_boxes_wp ?_
      intro W hb1 hb2 hbel hsz
      obtain ⟨c0, c1, c2, c3, c4, c5, c6, c7, c8, c9, c10, c11, c12⟩ := seen_cells hb1
      have hf := hb1.frozen 4
      go_wp2_with (first
        | (refine wpList_load_row rfl 27 _ rfl _ rfl _ _ (0, 0) _ hb1 Try.underlying27 rfl (by kernel_rfl) ?_)
        | (refine wpList_store_row rfl 27 _ _ rfl _ rfl _ rfl _ _ hb2 rfl (by kernel_rfl) (by simp [Value.oneCell']) ?_; intro W2 hs2 hbar)
        | fail)
      refine bodyPost_ret (v := .tuple #[.agg #[.int .i64 0, .int .u64 0, .int .u64 0, .int .u64 0, .int .i64 0, .int .i64 0, .int .u32 0, .int .u32 0, .int .i64 0, .int .i64 0, .int .i64 0, .int .i64 0, .string ByteArray.empty], .int .i64 31]) ?_ rfl ⟨rfl, ?_⟩
      · exact results_row_tmp (p := 2) (u := 3) rfl _ _ (w.heap.size + 1) _ _ _ rfl hs2 Try.underlying27 rfl (by kernel_rfl)
      exact hbar.below hbel (Nat.le_succ _) hbel.size
  · have t1 : (p2 == 0) = false := beq_eq_false_iff_ne.mpr hv
    have e : popF ⟨i0, n0, p0, p1, p2, p3, p4, p5, p6, p7, p8, p9, p10⟩ = (withVlan ⟨i0, n0, p0, p1, p2, p3, p4, p5, p6, p7, p8, p9, p10⟩ 0, 0) := by unfold popF; rw [if_neg hv]
    · rw [e]
      clear e hv
      go_enter Try.func18, Try.ntmps18
      go_upto_region 1 with fail
      refine two_boxes_wp ?_
      intro W hb1 hb2 hbel hsz
      obtain ⟨c0, c1, c2, c3, c4, c5, c6, c7, c8, c9, c10, c11, c12⟩ := seen_cells hb1
      have hf := hb1.frozen 4
      go_upto_region 4 with fail
      clear c0 c1 c2 c3 c4 c5 c6 c7 c8 c9 c10 c11 c12 hf
      refine set_wp hb1 hb2 hbel (Nat.succ_ne_self _) (Nat.le_refl _) ?_
      clear hb1 hb2 hbel
      intro W' hb1 hb2 hbel
      go_wp2_with (first
        | (refine wpList_load_row rfl 27 _ rfl _ rfl _ _ (0, 0) _ hb1 Try.underlying27 rfl (by kernel_rfl) ?_)
        | (refine wpList_store_row rfl 27 _ _ rfl _ rfl _ rfl _ _ hb2 rfl (by kernel_rfl) (by simp [Value.oneCell']) ?_; intro W2 hs2 hbar)
        | fail)
      refine bodyPost_ret (v := .tuple #[.agg #[.int .i64 i0, .int .u64 n0, .int .u64 p0, .int .u64 p1, .int .i64 0, .int .i64 p3, .int .u32 p4, .int .u32 p5, .int .i64 p6, .int .i64 p7, .int .i64 p8, .int .i64 p9, .string p10], .int .i64 0]) ?_ rfl ⟨rfl, ?_⟩
      · exact results_row_tmp (p := 2) (u := 3) rfl _ _ (w.heap.size + 1) _ _ _ rfl hs2 Try.underlying27 rfl (by kernel_rfl)
      exact hbar.below hbel (Nat.le_succ _) hbel.size

set_option maxRecDepth 100000 in
set_option maxHeartbeats 4000000 in
theorem rPop_any (w : World) (s : Seen) :
    Calls Try.prog 19 #[valSeen s] w fun x w' => x = .returned (.tuple #[valSeen (popF s).1, .int .i64 (popF s).2]) ∧ Below w.heap.size w w' := by
  obtain ⟨i0, n0, p⟩ := s
  obtain ⟨p0, p1, p2, p3, p4, p5, p6, p7, p8, p9, p10⟩ := p
  by_cases hv : p2 = 0
  · subst hv
    have e : popF ⟨i0, n0, p0, p1, 0, p3, p4, p5, p6, p7, p8, p9, p10⟩ = (zeroSeen, 31) := by unfold popF; rw [if_pos rfl]
    · rw [e]
      clear e
      go_enter Try.func19, Try.ntmps19
      go_upto_region 1 with fail
      refine two_boxes_wp ?_
      intro W hb1 hb2 hbel hsz
      obtain ⟨c0, c1, c2, c3, c4, c5, c6, c7, c8, c9, c10, c11, c12⟩ := seen_cells hb1
      have hf := hb1.frozen 4
      go_wp2_with (first
        | (refine wpList_load_row rfl 32 _ rfl _ rfl _ _ (0, 0) _ hb1 Try.underlying32 rfl (by kernel_rfl) ?_)
        | (refine wpList_store_row rfl 32 _ _ rfl _ rfl _ rfl _ _ hb2 rfl (by kernel_rfl) (by simp [Value.oneCell']) ?_; intro W2 hs2 hbar)
        | fail)
      refine bodyPost_ret (v := .tuple #[.agg #[.int .i64 0, .int .u64 0, .int .u64 0, .int .u64 0, .int .i64 0, .int .i64 0, .int .u32 0, .int .u32 0, .int .i64 0, .int .i64 0, .int .i64 0, .int .i64 0, .string ByteArray.empty], .int .i64 31]) ?_ rfl ⟨rfl, ?_⟩
      · exact results_row_tmp (p := 2) (u := 3) rfl _ _ (w.heap.size + 1) _ _ _ rfl hs2 Try.underlying32 rfl (by kernel_rfl)
      exact hbar.below hbel (Nat.le_succ _) hbel.size
  · have t1 : (p2 == 0) = false := beq_eq_false_iff_ne.mpr hv
    have e : popF ⟨i0, n0, p0, p1, p2, p3, p4, p5, p6, p7, p8, p9, p10⟩ = (withVlan ⟨i0, n0, p0, p1, p2, p3, p4, p5, p6, p7, p8, p9, p10⟩ 0, 0) := by unfold popF; rw [if_neg hv]
    · rw [e]
      clear e hv
      go_enter Try.func19, Try.ntmps19
      go_upto_region 1 with fail
      refine two_boxes_wp ?_
      intro W hb1 hb2 hbel hsz
      obtain ⟨c0, c1, c2, c3, c4, c5, c6, c7, c8, c9, c10, c11, c12⟩ := seen_cells hb1
      have hf := hb1.frozen 4
      go_upto_region 4 with fail
      clear c0 c1 c2 c3 c4 c5 c6 c7 c8 c9 c10 c11 c12 hf
      refine set_wp hb1 hb2 hbel (Nat.succ_ne_self _) (Nat.le_refl _) ?_
      clear hb1 hb2 hbel
      intro W' hb1 hb2 hbel
      go_wp2_with (first
        | (refine wpList_load_row rfl 32 _ rfl _ rfl _ _ (0, 0) _ hb1 Try.underlying32 rfl (by kernel_rfl) ?_)
        | (refine wpList_store_row rfl 32 _ _ rfl _ rfl _ rfl _ _ hb2 rfl (by kernel_rfl) (by simp [Value.oneCell']) ?_; intro W2 hs2 hbar)
        | fail)
      refine bodyPost_ret (v := .tuple #[.agg #[.int .i64 i0, .int .u64 n0, .int .u64 p0, .int .u64 p1, .int .i64 0, .int .i64 p3, .int .u32 p4, .int .u32 p5, .int .i64 p6, .int .i64 p7, .int .i64 p8, .int .i64 p9, .string p10], .int .i64 0]) ?_ rfl ⟨rfl, ?_⟩
      · exact results_row_tmp (p := 2) (u := 3) rfl _ _ (w.heap.size + 1) _ _ _ rfl hs2 Try.underlying32 rfl (by kernel_rfl)
      exact hbar.below hbel (Nat.le_succ _) hbel.size
end Go.Proofs.Ytiolfccfkpggcaa
