/- The walk of FieldTags. -/
import Derived.Test.YtiolfccfkpggcaaFieldTag
import Derived.Test.YtiolfccfkpggcaaAwake04
import Derived.Test.YtiolfccfkpggcaaSeenEq
import Derived.Test.YtiolfccfkpggcaaQuiet
namespace Go.Proofs.Ytiolfccfkpggcaa
open Go.RowKit
set_option linter.unusedVariables false

abbrev cellsSeen (x : Seen) : Array Value := #[.int .i64 x.fIn, .int .u64 x.fMeta, .int .u64 x.fP.fTo, .int .u64 x.fP.fFrom, .int .i64 x.fP.fVlan, .int .i64 x.fP.fType, .int .u32 x.fP.fSrc, .int .u32 x.fP.fDst, .int .i64 x.fP.fLife, .int .i64 x.fP.fProto, .int .i64 x.fP.fSport, .int .i64 x.fP.fDport, .string x.fP.fData]
/-- The four variables, while the last line's calls run. -/
def TR (B : Nat) (w : World) (g1 g2 g3 g4 : Nat) (a c : Seen) (W : World) : Prop :=
  BlkAt W g1 27 (cellsSeen a) ∧ BlkAt W g2 32 (cellsSeen a) ∧ BlkAt W g3 27 (cellsSeen c) ∧ BlkAt W g4 32 (cellsSeen c) ∧ Below B w W ∧ B ≤ W.heap.size
section
variable {B g1 g2 g3 g4 : Nat} {w W W' : World} {a c : Seen}
theorem TR.b1 (h : TR B w g1 g2 g3 g4 a c W) : BlkAt W g1 27 (cellsSeen a) := h.1
theorem TR.b2 (h : TR B w g1 g2 g3 g4 a c W) : BlkAt W g2 32 (cellsSeen a) := h.2.1
theorem TR.b3 (h : TR B w g1 g2 g3 g4 a c W) : BlkAt W g3 27 (cellsSeen c) := h.2.2.1
theorem TR.b4 (h : TR B w g1 g2 g3 g4 a c W) : BlkAt W g4 32 (cellsSeen c) := h.2.2.2.1
theorem TR.below (h : TR B w g1 g2 g3 g4 a c W) : Below B w W := h.2.2.2.2.1
theorem TR.drew (h : TR B w g1 g2 g3 g4 a c W) : TR B w g1 g2 g3 g4 a c W.drew := ⟨h.1, h.2.1, h.2.2.1, h.2.2.2.1, h.2.2.2.2.1.drew, h.2.2.2.2.2⟩
theorem TR.call (h : TR B w g1 g2 g3 g4 a c W) (hb : Below W.heap.size W W') : TR B w g1 g2 g3 g4 a c W' :=
  ⟨h.1.below hb h.1.lt, h.2.1.below hb h.2.1.lt, h.2.2.1.below hb h.2.2.1.lt, h.2.2.2.1.below hb h.2.2.2.1.lt, h.2.2.2.2.1.trans (hb.mono h.2.2.2.2.2), Nat.le_trans h.2.2.2.2.2 hb.size⟩
end

set_option maxRecDepth 100000 in
set_option maxHeartbeats 8000000 in
theorem FieldTags_walk (w : World) (s : Seen) (ok : okSeen w s) (n : Int) (wf : (Lit.int .u64 n).wf = true) :
    Calls Try.prog 5 #[valSeen s, .int .u64 n] w fun x w' => x = .returned (.bool true) ∧ Below w.heap.size w w' := by
  have hn := wf_u64 wf
  have HPu := Lib.hid (fun W => Push_any W s n hn.1 hn.2)
  have HrPu := Lib.hid (fun W => rPush_any W s n hn.1 hn.2)
  have HPo := Lib.hid (fun W => Pop_any W s)
  have HrPo := Lib.hid (fun W => rPop_any W s)
  have HP := Lib.hid (fun W y => Plain_any W y)
  clear hn wf ok
  generalize (pushF s n).1 = a at *
  generalize (pushF s n).2 = ea at *
  generalize (popF s).1 = c at *
  generalize (popF s).2 = ec at *
  go_enter Try.func5, Try.ntmps5
  go_upto_region 1 with fail
  refine one_box_wp ?_
  intro W hb1 hbel hsz
  have HK0 := Lib.hid (And.intro hbel hbel.size)
  have HB0 := Lib.hid hb1
  clear hbel hb1 hsz
  go_wp2_with (first
    | (refine wpList_load_row rfl 27 _ rfl _ rfl _ _ (0, 0) _ HB0.out Try.underlying27 rfl (by kernel_rfl) ?_)
    | fail)
  refine (HPu.out _).mono ?_
  rintro x w1 ⟨rfl, b⟩
  have HB_1 := Lib.hid (HB0.out.below b HB0.out.lt)
  have k1 := HK0.out.1.trans (b.mono HK0.out.2)
  have HK1 := Lib.hid (And.intro k1 k1.size)
  clear b k1 HK0 HB0
  go_upto_region 2 with fail
  refine one_box_wp ?_
  intro W1 hc b hsz
  clear hsz
  have HB_2 := Lib.hid (HB_1.out.below b HB_1.out.lt)
  have k2 := HK1.out.1.trans (b.mono HK1.out.2)
  have HK2 := Lib.hid (And.intro k2 k2.size)
  clear b k2 HK1 HB_1
  have HC1 := Lib.hid hc
  clear hc
  go_wp2_with (first
    | (refine wpList_load_row rfl 27 _ rfl _ rfl _ _ (0, 0) _ HB_2.out Try.underlying27 rfl (by kernel_rfl) ?_)
    | fail)
  refine (HP.out _ s).mono ?_
  rintro x w2 ⟨rfl, b⟩
  have HB_3 := Lib.hid (HB_2.out.below b HB_2.out.lt)
  have HC1_3 := Lib.hid (HC1.out.below b HC1.out.lt)
  have k3 := HK2.out.1.trans (b.mono HK2.out.2)
  have HK3 := Lib.hid (And.intro k3 k3.size)
  clear b k3 HK2 HB_2 HC1
  go_wp2_with fail
  refine (HrPu.out _).mono ?_
  rintro x w3 ⟨rfl, b⟩
  have HB_4 := Lib.hid (HB_3.out.below b HB_3.out.lt)
  have HC1_4 := Lib.hid (HC1_3.out.below b HC1_3.out.lt)
  have k4 := HK3.out.1.trans (b.mono HK3.out.2)
  have HK4 := Lib.hid (And.intro k4 k4.size)
  clear b k4 HK3 HB_3 HC1_3
  go_upto_region 3 with fail
  refine one_box_wp ?_
  intro W2 hc b hsz
  clear hsz
  have HB_5 := Lib.hid (HB_4.out.below b HB_4.out.lt)
  have HC1_5 := Lib.hid (HC1_4.out.below b HC1_4.out.lt)
  have k5 := HK4.out.1.trans (b.mono HK4.out.2)
  have HK5 := Lib.hid (And.intro k5 k5.size)
  clear b k5 HK4 HB_4 HC1_4
  have HC2 := Lib.hid hc
  clear hc
  go_wp2_with (first
    | (refine wpList_load_row rfl 27 _ rfl _ rfl _ _ (0, 0) _ HB_5.out Try.underlying27 rfl (by kernel_rfl) ?_)
    | fail)
  refine (HPo.out _).mono ?_
  rintro x w4 ⟨rfl, b⟩
  have HB_6 := Lib.hid (HB_5.out.below b HB_5.out.lt)
  have HC1_6 := Lib.hid (HC1_5.out.below b HC1_5.out.lt)
  have HC2_6 := Lib.hid (HC2.out.below b HC2.out.lt)
  have k6 := HK5.out.1.trans (b.mono HK5.out.2)
  have HK6 := Lib.hid (And.intro k6 k6.size)
  clear b k6 HK5 HB_5 HC1_5 HC2
  go_upto_region 4 with fail
  refine one_box_wp ?_
  intro W3 hc b hsz
  clear hsz
  have HB_7 := Lib.hid (HB_6.out.below b HB_6.out.lt)
  have HC1_7 := Lib.hid (HC1_6.out.below b HC1_6.out.lt)
  have HC2_7 := Lib.hid (HC2_6.out.below b HC2_6.out.lt)
  have k7 := HK6.out.1.trans (b.mono HK6.out.2)
  have HK7 := Lib.hid (And.intro k7 k7.size)
  clear b k7 HK6 HB_6 HC1_6 HC2_6
  have HC3 := Lib.hid hc
  clear hc
  go_wp2_with (first
    | (refine wpList_load_row rfl 27 _ rfl _ rfl _ _ (0, 0) _ HB_7.out Try.underlying27 rfl (by kernel_rfl) ?_)
    | fail)
  refine (HP.out _ s).mono ?_
  rintro x w5 ⟨rfl, b⟩
  have HB_8 := Lib.hid (HB_7.out.below b HB_7.out.lt)
  have HC1_8 := Lib.hid (HC1_7.out.below b HC1_7.out.lt)
  have HC2_8 := Lib.hid (HC2_7.out.below b HC2_7.out.lt)
  have HC3_8 := Lib.hid (HC3.out.below b HC3.out.lt)
  have k8 := HK7.out.1.trans (b.mono HK7.out.2)
  have HK8 := Lib.hid (And.intro k8 k8.size)
  clear b k8 HK7 HB_7 HC1_7 HC2_7 HC3
  go_wp2_with fail
  refine (HrPo.out _).mono ?_
  rintro x w6 ⟨rfl, b⟩
  have HB_9 := Lib.hid (HB_8.out.below b HB_8.out.lt)
  have HC1_9 := Lib.hid (HC1_8.out.below b HC1_8.out.lt)
  have HC2_9 := Lib.hid (HC2_8.out.below b HC2_8.out.lt)
  have HC3_9 := Lib.hid (HC3_8.out.below b HC3_8.out.lt)
  have k9 := HK8.out.1.trans (b.mono HK8.out.2)
  have HK9 := Lib.hid (And.intro k9 k9.size)
  clear b k9 HK8 HB_8 HC1_8 HC2_8 HC3_8
  go_upto_region 5 with fail
  refine one_box_wp ?_
  intro W4 hc b hsz
  clear hsz
  have HB_10 := Lib.hid (HB_9.out.below b HB_9.out.lt)
  have HC1_10 := Lib.hid (HC1_9.out.below b HC1_9.out.lt)
  have HC2_10 := Lib.hid (HC2_9.out.below b HC2_9.out.lt)
  have HC3_10 := Lib.hid (HC3_9.out.below b HC3_9.out.lt)
  have k10 := HK9.out.1.trans (b.mono HK9.out.2)
  have HK10 := Lib.hid (And.intro k10 k10.size)
  clear b k10 HK9 HB_9 HC1_9 HC2_9 HC3_9
  have HC4 := Lib.hid hc
  clear hc
  have hT : TR w.heap.size w _ _ _ _ a c W4 := ⟨HC1_10.out, HC2_10.out, HC3_10.out, HC4.out, HK10.out.1, HK10.out.2⟩
  have hTd := hT.drew
  clear HB_10 HC1_10 HC2_10 HC3_10 HC4 HK10 HPu HrPu HPo HrPo
  have hq1 := eq_rSeen a
  have hq2 := eq_rSeen c
  have d1 : decide (ea = ea) = true := by simp
  have d2 : decide (ec = ec) = true := by simp
  refine wp_region_keep (Cl := TR w.heap.size w _ _ _ _ a c) (by kernel_rfl) (by kernel_rfl) hTd ?_
  haveI : Nonempty (Keep (TR w.heap.size w _ _ _ _ a c)) := ⟨⟨_, hT⟩⟩
  clear hT hTd
  repeat (first
    | (refine wpQuiet_row (by rfl) 27 _ rfl _ _ rfl _ (fun W h => run_loadVar_row W _ _ _ _ (0, 0) _ (TR.b1 h) Try.underlying27 rfl (by kernel_rfl)) ?_)
    | (refine wpQuiet_row (by rfl) 32 _ rfl _ _ rfl _ (fun W h => run_loadVar_row W _ _ _ _ (0, 0) _ (TR.b2 h) Try.underlying32 rfl (by kernel_rfl)) ?_)
    | (refine wpQuiet_row (by rfl) 27 _ rfl _ _ rfl _ (fun W h => run_loadVar_row W _ _ _ _ (0, 0) _ (TR.b3 h) Try.underlying27 rfl (by kernel_rfl)) ?_)
    | (refine wpQuiet_row (by rfl) 32 _ rfl _ _ rfl _ (fun W h => run_loadVar_row W _ _ _ _ (0, 0) _ (TR.b4 h) Try.underlying32 rfl (by kernel_rfl)) ?_)
    | (quiet_step ((first
        | (exact Calls.keep (HP.out _ a) (fun w' hb => TR.call (Keep.h _) hb))
        | (exact Calls.keep (HP.out _ c) (fun w' hb => TR.call (Keep.h _) hb))
        | (exact Calls.keep (awake04 _) (fun w' hb => TR.call (Keep.h _) hb))))))
  refine wpQuiet_nil ?_
  intro W9 hT9
  go_wp2
  go_ret
  exact ⟨rfl, TR.below hT9⟩
end Go.Proofs.Ytiolfccfkpggcaa
