/- The walk of FieldPuts. -/
import Derived.Test.YtiolfccfkpggcaaFieldPutR
import Derived.Test.YtiolfccfkpggcaaAwake04
import Derived.Test.YtiolfccfkpggcaaSeenEq
import Derived.Test.YtiolfccfkpggcaaQuiet
namespace Go.Proofs.Ytiolfccfkpggcaa
open Go.RowKit
set_option linter.unusedVariables false

abbrev cellsSeen (x : Seen) : Array Value := #[.int .i64 x.fIn, .int .u64 x.fMeta, .int .u64 x.fP.fTo, .int .u64 x.fP.fFrom, .int .i64 x.fP.fVlan, .int .i64 x.fP.fType, .int .u32 x.fP.fSrc, .int .u32 x.fP.fDst, .int .i64 x.fP.fLife, .int .i64 x.fP.fProto, .int .i64 x.fP.fSport, .int .i64 x.fP.fDport, .string x.fP.fData]
/-- The two variables, while the last line's calls run. -/
def UR (B : Nat) (w : World) (g1 g2 : Nat) (a : Seen) (W : World) : Prop :=
  BlkAt W g1 27 (cellsSeen a) ∧ BlkAt W g2 32 (cellsSeen a) ∧ Below B w W ∧ B ≤ W.heap.size
section
variable {B g1 g2 : Nat} {w W W' : World} {a : Seen}
theorem UR.b1 (h : UR B w g1 g2 a W) : BlkAt W g1 27 (cellsSeen a) := h.1
theorem UR.b2 (h : UR B w g1 g2 a W) : BlkAt W g2 32 (cellsSeen a) := h.2.1
theorem UR.below (h : UR B w g1 g2 a W) : Below B w W := h.2.2.1
theorem UR.drew (h : UR B w g1 g2 a W) : UR B w g1 g2 a W.drew := ⟨h.1, h.2.1, h.2.2.1.drew, h.2.2.2⟩
theorem UR.call (h : UR B w g1 g2 a W) (hb : Below W.heap.size W W') : UR B w g1 g2 a W' :=
  ⟨h.1.below hb h.1.lt, h.2.1.below hb h.2.1.lt, h.2.2.1.trans (hb.mono h.2.2.2), Nat.le_trans h.2.2.2 hb.size⟩
end

set_option maxRecDepth 100000 in
set_option maxHeartbeats 8000000 in
theorem FieldPuts_walk (w : World) (s : Seen) (ok : okSeen w s) (f : Int) (wff : (Lit.int .i64 f).wf = true) (n : Int) (wf : (Lit.int .u64 n).wf = true) :
    Calls Try.prog 6 #[valSeen s, .int .i64 f, .int .u64 n] w fun x w' => x = .returned (.bool true) ∧ Below w.heap.size w w' := by
  have hn := wf_u64 wf
  have HPu := Lib.hid (fun W => Put_any W s f n hn.1 hn.2)
  have HrPu := Lib.hid (fun W => rPut_any W s f n hn.1 hn.2)
  have HP := Lib.hid (fun W y => Plain_any W y)
  clear hn wf ok wff
  generalize (putF s f n).1 = a at *
  generalize (putF s f n).2 = ea at *
  go_enter Try.func6, Try.ntmps6
  go_upto_region 1 with fail
  refine one_box_wp ?_
  intro W hb1 hbel hsz
  have HK0 := Lib.hid (And.intro hbel hbel.size)
  have HB0 := Lib.hid hb1
  clear hbel hb1 hsz
  go_wp2_with (first
    | (refine wpList_load_row rfl 27 _ rfl _ rfl _ _ (0, 0) _ HB0.out Try.underlying27 rfl (by kernel_rfl) ?_)
    | fail)
  refine (HPu.out _).mono ?_
  rintro x w1 ⟨rfl, b⟩
  have HB_1 := Lib.hid (HB0.out.below b HB0.out.lt)
  have k1 := HK0.out.1.trans (b.mono HK0.out.2)
  have HK1 := Lib.hid (And.intro k1 k1.size)
  clear b k1 HK0 HB0
  go_upto_region 2 with fail
  refine one_box_wp ?_
  intro W1 hc b hsz
  clear hsz
  have HB_2 := Lib.hid (HB_1.out.below b HB_1.out.lt)
  have k2 := HK1.out.1.trans (b.mono HK1.out.2)
  have HK2 := Lib.hid (And.intro k2 k2.size)
  clear b k2 HK1 HB_1
  have HC1 := Lib.hid hc
  clear hc
  go_wp2_with (first
    | (refine wpList_load_row rfl 27 _ rfl _ rfl _ _ (0, 0) _ HB_2.out Try.underlying27 rfl (by kernel_rfl) ?_)
    | fail)
  refine (HP.out _ s).mono ?_
  rintro x w2 ⟨rfl, b⟩
  have HB_3 := Lib.hid (HB_2.out.below b HB_2.out.lt)
  have HC1_3 := Lib.hid (HC1.out.below b HC1.out.lt)
  have k3 := HK2.out.1.trans (b.mono HK2.out.2)
  have HK3 := Lib.hid (And.intro k3 k3.size)
  clear b k3 HK2 HB_2 HC1
  go_wp2_with fail
  refine (HrPu.out _).mono ?_
  rintro x w3 ⟨rfl, b⟩
  have HB_4 := Lib.hid (HB_3.out.below b HB_3.out.lt)
  have HC1_4 := Lib.hid (HC1_3.out.below b HC1_3.out.lt)
  have k4 := HK3.out.1.trans (b.mono HK3.out.2)
  have HK4 := Lib.hid (And.intro k4 k4.size)
  clear b k4 HK3 HB_3 HC1_3
  go_upto_region 3 with fail
  refine one_box_wp ?_
  intro W2 hc b hsz
  clear hsz
  have HB_5 := Lib.hid (HB_4.out.below b HB_4.out.lt)
  have HC1_5 := Lib.hid (HC1_4.out.below b HC1_4.out.lt)
  have k5 := HK4.out.1.trans (b.mono HK4.out.2)
  have HK5 := Lib.hid (And.intro k5 k5.size)
  clear b k5 HK4 HB_4 HC1_4
  have HC2 := Lib.hid hc
  clear hc
  have hT : UR w.heap.size w _ _ a W2 := ⟨HC1_5.out, HC2.out, HK5.out.1, HK5.out.2⟩
  have hTd := hT.drew
  clear HB_5 HC1_5 HC2 HK5 HPu HrPu
  have hq1 := eq_rSeen a
  have d1 : decide (ea = ea) = true := by simp
  refine wp_region_keep (Cl := UR w.heap.size w _ _ a) (by kernel_rfl) (by kernel_rfl) hTd ?_
  haveI : Nonempty (Keep (UR w.heap.size w _ _ a)) := ⟨⟨_, hT⟩⟩
  clear hT hTd
  repeat (first
    | (refine wpQuiet_row (by rfl) 27 _ rfl _ _ rfl _ (fun W h => run_loadVar_row W _ _ _ _ (0, 0) _ (UR.b1 h) Try.underlying27 rfl (by kernel_rfl)) ?_)
    | (refine wpQuiet_row (by rfl) 32 _ rfl _ _ rfl _ (fun W h => run_loadVar_row W _ _ _ _ (0, 0) _ (UR.b2 h) Try.underlying32 rfl (by kernel_rfl)) ?_)
    | (quiet_step ((first
        | (exact Calls.keep (HP.out _ a) (fun w' hb => UR.call (Keep.h _) hb))
        | (exact Calls.keep (awake04 _) (fun w' hb => UR.call (Keep.h _) hb))))))
  refine wpQuiet_nil ?_
  intro W9 hT9
  go_wp2
  go_ret
  exact ⟨rfl, UR.below hT9⟩
end Go.Proofs.Ytiolfccfkpggcaa
