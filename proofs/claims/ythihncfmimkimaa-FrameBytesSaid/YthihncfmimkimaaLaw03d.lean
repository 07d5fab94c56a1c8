/- The walk of FrameBytes. -/
import Derived.Test.YthihncfmimkimaaLaw03a
import Derived.Test.YthihncfmimkimaaFrameRE
namespace Go.Proofs.Ythihncfmimkimaa
open Go.RowKit
set_option linter.unusedVariables false
set_option linter.unusedSimpArgs false

set_option maxRecDepth 100000 in
set_option maxHeartbeats 8000000 in
theorem FrameBytes_walk (w : World) (p : Pkt) (hok : okPkt w p) :
    Calls Try.prog 3 #[valPkt p] w fun x w' => x = .returned (.bool true) ∧ Below w.heap.size w w' := by
  have hu := okU_of hok
  clear hok
  have HA := Lib.hid awake03
  by_cases h1 : 3000 < (dat p).length
  · have t1 : decide ((3000 : Int) < ((dat p).length : Int)) = true := decide_eq_true (by omega)
    clear h1
    go_enter Try.func3, Try.ntmps3
    go_upto_region 1 with fail
    refine one_box_wp ?_
    intro W hb1 hbel hsz
    have K : Hid (KR w.heap.size w [(w.heap.size, 25, pktC p)] W) := Lib.hid ((KR.start hbel hbel.size).add hb1)
    clear hb1 hbel hsz
    have c10 := (K.out.at 0 rfl).cell 10 _ (pktC_10s p)
    go_wp2_with fail
    refine (HA.out _).mono ?_
    rintro x w1 ⟨rfl, b1⟩
    go_wp2_with fail
    go_ret
    exact ⟨rfl, (K.out.call b1).below⟩
  · have t1 : decide ((3000 : Int) < ((dat p).length : Int)) = false := decide_eq_false (by omega)
    have HB1 : Hid (∀ W : World, Calls Try.prog 9 #[.agg (pktC p)] W fun x w' => x = .returned (.tuple #[.string (str (bytesF p).1), .int .i64 (bytesF p).2]) ∧ Below W.heap.size W w') := Lib.hid (fun W => Bytes_any' W p hu (by omega))
    have HB2 : Hid (∀ W : World, Calls Try.prog 10 #[.agg (pktC p)] W fun x w' => x = .returned (.tuple #[.string (str (bytesF p).1), .int .i64 (bytesF p).2]) ∧ Below W.heap.size W w') := Lib.hid (fun W => rBytes_any W p hu (by omega))
    generalize bytesF p = B1 at *
    obtain ⟨bs, be⟩ := B1
    have e1 : (bs == bs) = true := by simp
    have e2 : (be == be) = true := by simp
    clear h1 hu
    go_enter Try.func3, Try.ntmps3
    go_upto_region 1 with fail
    refine one_box_wp ?_
    intro W hb1 hbel hsz
    have K : Hid (KR w.heap.size w [(w.heap.size, 25, pktC p)] W) := Lib.hid ((KR.start hbel hbel.size).add hb1)
    clear hb1 hbel hsz
    have c10 := (K.out.at 0 rfl).cell 10 _ (pktC_10s p)
    go_wp2_with (first
      | (refine wpList_row 25 _ rfl (by rfl) _ _ rfl _ (run_loadVar_row _ _ _ 25 _ (0, 0) _ (K.out.at 0 rfl) Try.underlying25 rfl (by kernel_rfl)) ?_)
      | fail)
    refine (HB1.out _).mono ?_
    rintro x w1 ⟨rfl, b1⟩
    replace K := Lib.hid (K.out.call b1)
    clear b1 HB1 c10
    go_wp2_with (first
      | (refine wpList_row 25 _ rfl (by rfl) _ _ rfl _ (run_loadVar_row _ _ _ 25 _ (0, 0) _ (K.out.at 0 rfl) Try.underlying25 rfl (by kernel_rfl)) ?_)
      | fail)
    refine (HB2.out _).mono ?_
    rintro x w2 ⟨rfl, b2⟩
    replace K := Lib.hid (K.out.call b2)
    clear b2 HB2
    go_wp2_with fail
    refine (HA.out _).mono ?_
    rintro x w3 ⟨rfl, b3⟩
    go_wp2_with fail
    go_ret
    exact ⟨rfl, (K.out.call b3).below⟩
end Go.Proofs.Ythihncfmimkimaa
