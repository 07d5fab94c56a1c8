/- droverref04.Get, Plain, awake; the laws FieldGets. -/
import Derived.Test.YtaaadbmhcfjooaaFieldGet
namespace Go.Proofs.Ytaaadbmhcfjooaa
open Go.RowKit
set_option linter.unusedVariables false

/-- One cell of a world that stays while a region's calls run. -/
def OneR (B : Nat) (w : World) (a : Addr) (v : Value) (W : World) : Prop := W.cell? a = some v ∧ a.block < W.heap.size ∧ Below B w W ∧ B ≤ W.heap.size
section
variable {B : Nat} {w W W' : World} {a : Addr} {v : Value}
theorem OneR.cell (h : OneR B w a v W) : W.cell? a = some v := h.1
theorem OneR.drew (h : OneR B w a v W) : OneR B w a v W.drew := ⟨h.1, h.2.1, h.2.2.1.drew, h.2.2.2⟩
theorem OneR.call (h : OneR B w a v W) (hb : Below W.heap.size W W') : OneR B w a v W' := ⟨(hb.cell h.2.1).trans h.1, Nat.lt_of_lt_of_le h.2.1 hb.size, h.2.2.1.trans (hb.mono h.2.2.2), Nat.le_trans h.2.2.2 hb.size⟩
theorem OneR.below (h : OneR B w a v W) : Below B w W := h.2.2.1
theorem OneR.start (h : Below B w W) (hB : B ≤ W.heap.size) (t : TypeId) (cs : Array Value) (j : Nat) (hv : cs[j]? = some v) : OneR B w ⟨W.heap.size, j, none⟩ v (W.alloc (.cells cs t (0, 0))) :=
  ⟨(BlkAt.new W t cs).cell j v hv, by simp, h.alloc hB _, by simp; omega⟩
end

set_option maxRecDepth 100000 in
set_option maxHeartbeats 8000000 in
theorem rGet_any (w : World) (s : Seen) (f : Int) (h0 : 0 ≤ s.fMeta) (h1 : s.fMeta < 18446744073709551616) :
    Calls Try.prog 46 #[valSeen s, .int .i64 f] w fun x w' => x = .returned (.tuple #[.int .u64 (getF s f).1, .int .i64 (getF s f).2]) ∧ Below w.heap.size w w' := by
  have HH := Lib.hid (fun W => rHas_any W s f)
  have hA := Lib.hid (fun (o : Obj) => (Below.refl w.heap.size w).alloc (Nat.le_refl _) o)
  have hr := rawF_range s f h0 h1
  cases hh : hasF s f with
  | false =>
    have e : getF s f = (0, 20) := by unfold getF; rw [hh]; rfl
    rw [e]
    rw [hh] at HH
    clear e hh h0 h1 hr
    obtain ⟨i0, n0, p⟩ := s
    obtain ⟨p0, p1, p2, p3, p4, p5, p6, p7, p8, p9, p10⟩ := p
    go_enter Try.func46, Try.ntmps46
    go_wp2_with fail
    refine (HH.out _).mono ?_
    rintro e w1 ⟨rfl, b1⟩
    go_wp2
    go_ret2
    exact ⟨rfl, (hA.out _).trans (b1.mono (by simp))⟩
  | true =>
    have e : getF s f = (rawF s f % (maskF f : Int), 0) := by unfold getF; rw [hh]; rfl
    rw [e]
    rw [hh] at HH
    have HW := Lib.hid (fun W => rWidth_any W f)
    have hf : 1 ≤ f ∧ f ≤ 9 := by
      by_cases h : f < 1 ∨ 9 < f
      · rw [hasF_none h] at hh; cases hh
      · omega
    have HL := Lib.hid (fun W => rlow_any W (rawF s f) f hf hr.1 hr.2)
    clear e hh h0 h1 hr
    obtain ⟨i0, n0, p⟩ := s
    obtain ⟨p0, p1, p2, p3, p4, p5, p6, p7, p8, p9, p10⟩ := p
    rcases fcases f with rfl | rfl | rfl | rfl | rfl | rfl | rfl | rfl | rfl | ⟨h1, h2, h3, h4, h5, h6, h7, h8, h9, h⟩
    · clear hf
      go_enter Try.func46, Try.ntmps46
      go_wp2_with fail
      refine (HH.out _).mono ?_
      rintro e w1 ⟨rfl, b1⟩
      have hs := (BlkAt.new w 40 #[.int .i64 i0, .int .u64 n0, .int .u64 p0, .int .u64 p1, .int .i64 p2, .int .i64 p3, .int .u32 p4, .int .u32 p5, .int .i64 p6, .int .i64 p7, .int .i64 p8, .int .i64 p9, .string p10]).below b1 (by simp)
      obtain ⟨c0, c1, c2, c3, c4, c5, c6, c7, c8, c9, c10, c11, c12⟩ := seen_cells hs
      have k1 := (hA.out _).trans (b1.mono (by simp))
      have HK := Lib.hid (And.intro k1 k1.size)
      clear hs b1 k1
      go_wp2_with fail
      clear c0 c1 c2 c3 c4 c5 c6 c7 c8 c9 c10 c11 c12
      go_region_with (first
        | (go_at_call 29; go_must (refine (HW.out _).mono ?_; rintro x w5 ⟨rfl, b5⟩; have hN5 := OneR.call (by first | assumption | exact (OneR.start HK.out.1 HK.out.2 _ _ 0 rfl).drew) b5; have hc5 := hN5.cell))
        | (go_at_call 61; go_must (refine (HL.out _).mono ?_; rintro x w6 ⟨rfl, rfl⟩))
        | fail)
      all_goals
        go_wp2
        go_ret2
        exact ⟨rfl, OneR.below (by assumption)⟩
    · clear hf
      go_enter Try.func46, Try.ntmps46
      go_wp2_with fail
      refine (HH.out _).mono ?_
      rintro e w1 ⟨rfl, b1⟩
      have hs := (BlkAt.new w 40 #[.int .i64 i0, .int .u64 n0, .int .u64 p0, .int .u64 p1, .int .i64 p2, .int .i64 p3, .int .u32 p4, .int .u32 p5, .int .i64 p6, .int .i64 p7, .int .i64 p8, .int .i64 p9, .string p10]).below b1 (by simp)
      obtain ⟨c0, c1, c2, c3, c4, c5, c6, c7, c8, c9, c10, c11, c12⟩ := seen_cells hs
      have k1 := (hA.out _).trans (b1.mono (by simp))
      have HK := Lib.hid (And.intro k1 k1.size)
      clear hs b1 k1
      go_wp2_with fail
      clear c0 c1 c2 c3 c4 c5 c6 c7 c8 c9 c10 c11 c12
      go_region_with (first
        | (go_at_call 29; go_must (refine (HW.out _).mono ?_; rintro x w5 ⟨rfl, b5⟩; have hN5 := OneR.call (by first | assumption | exact (OneR.start HK.out.1 HK.out.2 _ _ 1 rfl).drew) b5; have hc5 := hN5.cell))
        | (go_at_call 61; go_must (refine (HL.out _).mono ?_; rintro x w6 ⟨rfl, rfl⟩))
        | fail)
      all_goals
        go_wp2
        go_ret2
        exact ⟨rfl, OneR.below (by assumption)⟩
    · clear hf
      go_enter Try.func46, Try.ntmps46
      go_wp2_with fail
      refine (HH.out _).mono ?_
      rintro e w1 ⟨rfl, b1⟩
      have hs := (BlkAt.new w 40 #[.int .i64 i0, .int .u64 n0, .int .u64 p0, .int .u64 p1, .int .i64 p2, .int .i64 p3, .int .u32 p4, .int .u32 p5, .int .i64 p6, .int .i64 p7, .int .i64 p8, .int .i64 p9, .string p10]).below b1 (by simp)
      obtain ⟨c0, c1, c2, c3, c4, c5, c6, c7, c8, c9, c10, c11, c12⟩ := seen_cells hs
      have k1 := (hA.out _).trans (b1.mono (by simp))
      have HK := Lib.hid (And.intro k1 k1.size)
      clear hs b1 k1
      go_wp2_with fail
      clear c0 c1 c2 c3 c4 c5 c6 c7 c8 c9 c10 c11 c12
      go_region_with (first
        | (go_at_call 29; go_must (refine (HW.out _).mono ?_; rintro x w5 ⟨rfl, b5⟩; have hN5 := OneR.call (by first | assumption | exact (OneR.start HK.out.1 HK.out.2 _ _ 2 rfl).drew) b5; have hc5 := hN5.cell))
        | (go_at_call 61; go_must (refine (HL.out _).mono ?_; rintro x w6 ⟨rfl, rfl⟩))
        | fail)
      all_goals
        go_wp2
        go_ret2
        exact ⟨rfl, OneR.below (by assumption)⟩
    · clear hf
      go_enter Try.func46, Try.ntmps46
      go_wp2_with fail
      refine (HH.out _).mono ?_
      rintro e w1 ⟨rfl, b1⟩
      have hs := (BlkAt.new w 40 #[.int .i64 i0, .int .u64 n0, .int .u64 p0, .int .u64 p1, .int .i64 p2, .int .i64 p3, .int .u32 p4, .int .u32 p5, .int .i64 p6, .int .i64 p7, .int .i64 p8, .int .i64 p9, .string p10]).below b1 (by simp)
      obtain ⟨c0, c1, c2, c3, c4, c5, c6, c7, c8, c9, c10, c11, c12⟩ := seen_cells hs
      have k1 := (hA.out _).trans (b1.mono (by simp))
      have HK := Lib.hid (And.intro k1 k1.size)
      clear hs b1 k1
      go_wp2_with fail
      clear c0 c1 c2 c3 c4 c5 c6 c7 c8 c9 c10 c11 c12
      go_region_with (first
        | (go_at_call 29; go_must (refine (HW.out _).mono ?_; rintro x w5 ⟨rfl, b5⟩; have hN5 := OneR.call (by first | assumption | exact (OneR.start HK.out.1 HK.out.2 _ _ 3 rfl).drew) b5; have hc5 := hN5.cell))
        | (go_at_call 61; go_must (refine (HL.out _).mono ?_; rintro x w6 ⟨rfl, rfl⟩))
        | fail)
      all_goals
        go_wp2
        go_ret2
        exact ⟨rfl, OneR.below (by assumption)⟩
    · clear hf
      go_enter Try.func46, Try.ntmps46
      go_wp2_with fail
      refine (HH.out _).mono ?_
      rintro e w1 ⟨rfl, b1⟩
      have hs := (BlkAt.new w 40 #[.int .i64 i0, .int .u64 n0, .int .u64 p0, .int .u64 p1, .int .i64 p2, .int .i64 p3, .int .u32 p4, .int .u32 p5, .int .i64 p6, .int .i64 p7, .int .i64 p8, .int .i64 p9, .string p10]).below b1 (by simp)
      obtain ⟨c0, c1, c2, c3, c4, c5, c6, c7, c8, c9, c10, c11, c12⟩ := seen_cells hs
      have k1 := (hA.out _).trans (b1.mono (by simp))
      have HK := Lib.hid (And.intro k1 k1.size)
      clear hs b1 k1
      go_wp2_with fail
      clear c0 c1 c2 c3 c4 c5 c6 c7 c8 c9 c10 c11 c12
      go_region_with (first
        | (go_at_call 29; go_must (refine (HW.out _).mono ?_; rintro x w5 ⟨rfl, b5⟩; have hN5 := OneR.call (by first | assumption | exact (OneR.start HK.out.1 HK.out.2 _ _ 4 rfl).drew) b5; have hc5 := hN5.cell))
        | (go_at_call 61; go_must (refine (HL.out _).mono ?_; rintro x w6 ⟨rfl, rfl⟩))
        | fail)
      all_goals
        go_wp2
        go_ret2
        exact ⟨rfl, OneR.below (by assumption)⟩
    · clear hf
      go_enter Try.func46, Try.ntmps46
      go_wp2_with fail
      refine (HH.out _).mono ?_
      rintro e w1 ⟨rfl, b1⟩
      have hs := (BlkAt.new w 40 #[.int .i64 i0, .int .u64 n0, .int .u64 p0, .int .u64 p1, .int .i64 p2, .int .i64 p3, .int .u32 p4, .int .u32 p5, .int .i64 p6, .int .i64 p7, .int .i64 p8, .int .i64 p9, .string p10]).below b1 (by simp)
      obtain ⟨c0, c1, c2, c3, c4, c5, c6, c7, c8, c9, c10, c11, c12⟩ := seen_cells hs
      have k1 := (hA.out _).trans (b1.mono (by simp))
      have HK := Lib.hid (And.intro k1 k1.size)
      clear hs b1 k1
      go_wp2_with fail
      clear c0 c1 c2 c3 c4 c5 c6 c7 c8 c9 c10 c11 c12
      go_region_with (first
        | (go_at_call 29; go_must (refine (HW.out _).mono ?_; rintro x w5 ⟨rfl, b5⟩; have hN5 := OneR.call (by first | assumption | exact (OneR.start HK.out.1 HK.out.2 _ _ 5 rfl).drew) b5; have hc5 := hN5.cell))
        | (go_at_call 61; go_must (refine (HL.out _).mono ?_; rintro x w6 ⟨rfl, rfl⟩))
        | fail)
      all_goals
        go_wp2
        go_ret2
        exact ⟨rfl, OneR.below (by assumption)⟩
    · clear hf
      go_enter Try.func46, Try.ntmps46
      go_wp2_with fail
      refine (HH.out _).mono ?_
      rintro e w1 ⟨rfl, b1⟩
      have hs := (BlkAt.new w 40 #[.int .i64 i0, .int .u64 n0, .int .u64 p0, .int .u64 p1, .int .i64 p2, .int .i64 p3, .int .u32 p4, .int .u32 p5, .int .i64 p6, .int .i64 p7, .int .i64 p8, .int .i64 p9, .string p10]).below b1 (by simp)
      obtain ⟨c0, c1, c2, c3, c4, c5, c6, c7, c8, c9, c10, c11, c12⟩ := seen_cells hs
      have k1 := (hA.out _).trans (b1.mono (by simp))
      have HK := Lib.hid (And.intro k1 k1.size)
      clear hs b1 k1
      go_wp2_with fail
      clear c0 c1 c2 c3 c4 c5 c6 c7 c8 c9 c10 c11 c12
      go_region_with (first
        | (go_at_call 29; go_must (refine (HW.out _).mono ?_; rintro x w5 ⟨rfl, b5⟩; have hN5 := OneR.call (by first | assumption | exact (OneR.start HK.out.1 HK.out.2 _ _ 6 rfl).drew) b5; have hc5 := hN5.cell))
        | (go_at_call 61; go_must (refine (HL.out _).mono ?_; rintro x w6 ⟨rfl, rfl⟩))
        | fail)
      all_goals
        go_wp2
        go_ret2
        exact ⟨rfl, OneR.below (by assumption)⟩
    · clear hf
      go_enter Try.func46, Try.ntmps46
      go_wp2_with fail
      refine (HH.out _).mono ?_
      rintro e w1 ⟨rfl, b1⟩
      have hs := (BlkAt.new w 40 #[.int .i64 i0, .int .u64 n0, .int .u64 p0, .int .u64 p1, .int .i64 p2, .int .i64 p3, .int .u32 p4, .int .u32 p5, .int .i64 p6, .int .i64 p7, .int .i64 p8, .int .i64 p9, .string p10]).below b1 (by simp)
      obtain ⟨c0, c1, c2, c3, c4, c5, c6, c7, c8, c9, c10, c11, c12⟩ := seen_cells hs
      have k1 := (hA.out _).trans (b1.mono (by simp))
      have HK := Lib.hid (And.intro k1 k1.size)
      clear hs b1 k1
      go_wp2_with fail
      clear c0 c1 c2 c3 c4 c5 c6 c7 c8 c9 c10 c11 c12
      go_region_with (first
        | (go_at_call 29; go_must (refine (HW.out _).mono ?_; rintro x w5 ⟨rfl, b5⟩; have hN5 := OneR.call (by first | assumption | exact (OneR.start HK.out.1 HK.out.2 _ _ 7 rfl).drew) b5; have hc5 := hN5.cell))
        | (go_at_call 61; go_must (refine (HL.out _).mono ?_; rintro x w6 ⟨rfl, rfl⟩))
        | fail)
      all_goals
        go_wp2
        go_ret2
        exact ⟨rfl, OneR.below (by assumption)⟩
    · clear hf
      go_enter Try.func46, Try.ntmps46
      go_wp2_with fail
      refine (HH.out _).mono ?_
      rintro e w1 ⟨rfl, b1⟩
      have hs := (BlkAt.new w 40 #[.int .i64 i0, .int .u64 n0, .int .u64 p0, .int .u64 p1, .int .i64 p2, .int .i64 p3, .int .u32 p4, .int .u32 p5, .int .i64 p6, .int .i64 p7, .int .i64 p8, .int .i64 p9, .string p10]).below b1 (by simp)
      obtain ⟨c0, c1, c2, c3, c4, c5, c6, c7, c8, c9, c10, c11, c12⟩ := seen_cells hs
      have k1 := (hA.out _).trans (b1.mono (by simp))
      have HK := Lib.hid (And.intro k1 k1.size)
      clear hs b1 k1
      go_wp2_with fail
      clear c0 c1 c2 c3 c4 c5 c6 c7 c8 c9 c10 c11 c12
      go_region_with (first
        | (go_at_call 29; go_must (refine (HW.out _).mono ?_; rintro x w5 ⟨rfl, b5⟩; have hN5 := OneR.call (by first | assumption | exact (OneR.start HK.out.1 HK.out.2 _ _ 8 rfl).drew) b5; have hc5 := hN5.cell))
        | (go_at_call 61; go_must (refine (HL.out _).mono ?_; rintro x w6 ⟨rfl, rfl⟩))
        | fail)
      all_goals
        go_wp2
        go_ret2
        exact ⟨rfl, OneR.below (by assumption)⟩
    · omega
end Go.Proofs.Ytaaadbmhcfjooaa
