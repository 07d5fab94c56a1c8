/- The walk of FieldGets. -/
import Derived.Test.YtiolfccfkpggcaaFieldRef
import Derived.Test.YtiolfccfkpggcaaFieldPlain
import Derived.Test.YtiolfccfkpggcaaAwake04
namespace Go.Proofs.Ytiolfccfkpggcaa
open Go.RowKit
set_option linter.unusedVariables false

set_option maxRecDepth 100000 in
set_option maxHeartbeats 4000000 in
theorem FieldGets_walk (w : World) (s : Seen) (ok : okSeen w s) (f : Int) (wf : (Lit.int .i64 f).wf = true) :
    Calls Try.prog 3 #[valSeen s, .int .i64 f] w fun x w' => x = .returned (.bool true) ∧ Below w.heap.size w w' := by
  have hm := wf_u64 ok.2.1
  have HG := Lib.hid (fun W => Get_any W s f hm.1 (by omega))
  have HR := Lib.hid (fun W => rGet_any W s f hm.1 (by omega))
  have HP := Lib.hid (fun W => Plain_any W s)
  have HW := Lib.hid (fun W => Width_any W f)
  have HV := Lib.hid (fun W => rWidth_any W f)
  clear hm ok wf
  generalize widthF f = wi at *
  generalize (getF s f).1 = a at *
  generalize (getF s f).2 = er at *
  have d1 : decide (a = a) = true := by simp
  have d2 : decide (er = er) = true := by simp
  have d3 : decide (wi = wi) = true := by simp
  obtain ⟨i0, n0, p⟩ := s
  obtain ⟨p0, p1, p2, p3, p4, p5, p6, p7, p8, p9, p10⟩ := p
  go_enter Try.func3, Try.ntmps3
  go_upto_region 1 with fail
  refine one_box_wp ?_
  intro W hb1 hbel hsz
  have HK := Lib.hid (And.intro hbel hbel.size)
  have HB := Lib.hid hb1
  clear hbel hb1
  go_wp2_with (first
    | (refine wpList_load_row rfl 27 _ rfl _ rfl _ _ (0, 0) _ HB.out Try.underlying27 rfl (by kernel_rfl) ?_)
    | fail)
  refine (HG.out _).mono ?_
  rintro x w1 ⟨rfl, b1⟩
  have HB1 := Lib.hid (HB.out.below b1 hsz.out)
  have k1 := HK.out.1.trans (b1.mono HK.out.2)
  have K1 := Lib.hid (And.intro k1 k1.size)
  clear b1 k1
  go_wp2_with (first
    | (refine wpList_load_row rfl 27 _ rfl _ rfl _ _ (0, 0) _ HB1.out Try.underlying27 rfl (by kernel_rfl) ?_)
    | fail)
  refine (HP.out _).mono ?_
  rintro x w2 ⟨rfl, b2⟩
  have k2 := K1.out.1.trans (b2.mono K1.out.2)
  have K2 := Lib.hid (And.intro k2 k2.size)
  clear b2 k2
  go_wp2_with fail
  refine (HR.out _).mono ?_
  rintro x w3 ⟨rfl, b3⟩
  have k3 := K2.out.1.trans (b3.mono K2.out.2)
  have K3 := Lib.hid (And.intro k3 k3.size)
  clear b3 k3
  go_wp2_with fail
  refine (HW.out _).mono ?_
  rintro x w4 ⟨rfl, rfl⟩
  go_wp2_with fail
  refine (HV.out _).mono ?_
  rintro x w5 ⟨rfl, b5⟩
  have k5 := K3.out.1.trans (b5.mono K3.out.2)
  have K5 := Lib.hid (And.intro k5 k5.size)
  clear b5 k5
  go_wp2_with fail
  refine (awake04 _).mono ?_
  rintro x w6 ⟨rfl, b6⟩
  go_wp2
  go_ret
  exact ⟨rfl, K5.out.1.trans (b6.mono K5.out.2)⟩
end Go.Proofs.Ytiolfccfkpggcaa
