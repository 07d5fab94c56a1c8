/- The walks of frame.Bytes and frame.Parse. -/
import Derived.Test.YthihncfmimkimaaFrameC
import Derived.Test.YthihncfmimkimaaFrameF
import Derived.Test.YthihncfmimkimaaFrameG
namespace Go.Proofs.Ythihncfmimkimaa
open Go.RowKit
set_option linter.unusedVariables false
set_option linter.unusedSimpArgs false

set_option maxRecDepth 100000 in
set_option maxHeartbeats 4000000 in
theorem Bytes_any' (w : World) (p : Pkt) (hu : okU p) (hd : (dat p).length ≤ 1000000) :
    Calls Try.prog 9 #[valPkt p] w fun x w' => x = .returned (.tuple #[.string (str (bytesF p).1), .int .i64 (bytesF p).2]) ∧ Below w.heap.size w w' := by
  have HRi := Lib.hid (fun W => right_any W p hu)
  have hc : (∃ x : Unit, decide (rightP p) = false ∧ Hid (bytesF p = ([], 1))) ∨
      (∃ x : Unit, decide (rightP p) = true ∧ decide ((1500 : Int) < ((dat p).length : Int)) = true ∧ Hid (bytesF p = ([], 44))) ∨
      (∃ x : Unit, decide (rightP p) = true ∧ decide ((1500 : Int) < ((dat p).length : Int)) = false ∧ Hid (rightP p ∧ ¬ 1500 < (dat p).length)) := by
    by_cases h1 : rightP p
    · by_cases h2 : 1500 < (dat p).length
      · exact .inr (.inl ⟨(), decide_eq_true h1, decide_eq_true (by omega), Lib.hid (by unfold bytesF; rw [if_neg (by simpa using h1), if_pos h2])⟩)
      · exact .inr (.inr ⟨(), decide_eq_true h1, decide_eq_false (by omega), Lib.hid ⟨h1, h2⟩⟩)
    · exact .inl ⟨(), decide_eq_false h1, Lib.hid (by unfold bytesF; rw [if_pos h1])⟩
  rcases hc with ⟨_, t1, HB⟩ | ⟨_, t1, t2, HB⟩ | ⟨_, t1, t2, HB⟩
  case' inr.inr =>
    have hrp := HB.out.1
    have hle : (dat p).length ≤ 1500 := by have := HB.out.2; omega
    have HSm : Hid (∀ W : World, Calls Try.prog 16 #[.agg (pktC p)] W fun x w' => x = .returned (.agg #[.int .i64 (sumA p), .int .i64 (sumB p)]) ∧ Below W.heap.size W w') := Lib.hid (fun W => summed_any W p (okW_of hrp hle) hu)
    have HLa : Hid (∀ W : World, Calls Try.prog 15 #[.agg (pktC p), .agg #[.int .i64 (sumA p), .int .i64 (sumB p)]] W fun x w' => x = .returned (.string (str (laidB p (sumA p) (sumB p)))) ∧ Below W.heap.size W w') := Lib.hid (fun W => laid_any W p _ _ hrp hu hle (sumA_lt p) (sumB_lt p))
    have HQ : Hid (bytesF p = if 1500 < (laidB p (sumA p) (sumB p)).length then ([], 44) else (laidB p (sumA p) (sumB p), 0)) := Lib.hid (by unfold bytesF; rw [if_neg (by simpa using hrp), if_neg (by omega)])
    clear hrp HB
    generalize laidB p (sumA p) (sumB p) = L at *
  all_goals
    generalize bytesF p = R at *
    generalize decide (rightP p) = rr at *
    subst t1
    clear hu hd
    go_enter Try.func9, Try.ntmps9
    go_upto_region 1 with fail
    refine one_box_wp ?_
    intro W hb1 hbel hsz
    have K : Hid (KR w.heap.size w [(w.heap.size, 25, pktC p)] W) := Lib.hid ((KR.start hbel hbel.size).add hb1)
    clear hb1 hbel hsz
    go_wp2_with (first
      | (refine wpList_row 25 _ rfl (by rfl) _ _ rfl _ (run_loadVar_row _ _ _ 25 _ (0, 0) _ (K.out.at 0 rfl) Try.underlying25 rfl (by kernel_rfl)) ?_)
      | fail)
    refine (HRi.out _).mono ?_
    rintro x w1 ⟨rfl, b1⟩
    replace K := Lib.hid (K.out.call b1)
    clear b1 HRi
    have c10 := (K.out.at 0 rfl).cell 10 _ (pktC_10s p)
  · haveI : Nonempty (Keep (KR w.heap.size w [(w.heap.size, 25, pktC p)])) := ⟨⟨_, K.out⟩⟩
    go_upto_region 5 with fail
    refine wp_region_keep2 (Cl := KR w.heap.size w [(w.heap.size, 25, pktC p)]) (by kernel_rfl) (by kernel_rfl) K.out.drew ?_
    intro y' hy'
    clear hy' K
    repeat
      first
        | (refine wpQ2_rowk _ _ rfl _ (fun W h => run_loadVar_row W _ _ 25 _ (0, 0) _ (KR.at h 0 rfl) Try.underlying25 rfl (by kernel_rfl)) ?_ ?_
           · (go_simp; done))
        | (refine wpQ2_step (fun K hK => ?_)
           go_simp
           first
             | (refine hK _ ?_; clear hK K)
             | (apply Exists.intro
                refine ⟨fun _ => ?_, hK _ ?_⟩
                (rw [if_neg (by omega)]; exact ⟨rfl, rfl⟩)
                clear hK K)
             | (apply Exists.intro
                refine ⟨fun _ => ?_, hK _ ?_⟩
                ((with_reducible refine Calls.keep (HSm.out _) ?_); exact (fun w' hb => KR.call (Keep.h _) hb))
                clear hK K)
             | (apply Exists.intro
                refine ⟨fun _ => ?_, hK _ ?_⟩
                ((with_reducible refine Calls.keep (HLa.out _) ?_); exact (fun w' hb => KR.call (Keep.h _) hb))
                clear hK K))
    refine wpQ2_nil ?_
    intro Wk Kk
    have K := Lib.hid Kk
    clear Kk
    by_cases h5 : 1500 < L.length
    · have t5 : decide ((1500 : Int) < (L.length : Int)) = true := decide_eq_true (by omega)
      have HR : Hid (R = ([], 44)) := Lib.hid (by rw [HQ.out, if_pos h5])
      clear h5 HQ
      go_wp2_with fail
      go_ret2
      rw [HR.out]
      exact ⟨rfl, K.out.below⟩
    · have t5 : decide ((1500 : Int) < (L.length : Int)) = false := decide_eq_false (by omega)
      have HR : Hid (R = (L, 0)) := Lib.hid (by rw [HQ.out, if_neg h5])
      clear h5 HQ
      go_wp2_with fail
      go_ret2
      rw [HR.out]
      exact ⟨rfl, K.out.below⟩
  · go_wp2_with fail
    go_ret2
    rw [HB.out]
    exact ⟨rfl, K.out.below⟩
  · go_wp2_with fail
    go_ret2
    rw [HB.out]
    exact ⟨rfl, K.out.below⟩
end Go.Proofs.Ythihncfmimkimaa
