/- The reference's with, Bytes. -/
import Derived.Test.YthihncfmimkimaaFrameRC
import Derived.Test.YthihncfmimkimaaFrameRD
namespace Go.Proofs.Ythihncfmimkimaa
open Go.RowKit
set_option linter.unusedVariables false
set_option linter.unusedSimpArgs false

set_option maxRecDepth 100000 in
set_option maxHeartbeats 4000000 in
theorem rwith_any (w : World) (p : Pkt) (a b : Nat) (hr : rightP p) (hu : okU p) (hl : (dat p).length ≤ 1500) (ha : a < 65536) (hb : b < 65536) :
    Calls Try.prog 19 #[valPkt p, .int .i64 a, .int .i64 b] w fun x w' => x = .returned (.string (str (laidB p a b))) ∧ Below w.heap.size w w' := by
  have hw := okW_of hr hl
  have hpl : (partB p b).length ≤ 1520 := by
    have h1 := partB_len p b
    split at h1 <;> (try split at h1) <;> omega
  have HQ1 := Lib.hid (fun W => rpart_any W p b hw hb)
  have HQ2 := Lib.hid (fun W => rhead_any W p (partB p b).length a hw hu (by omega) ha)
  obtain ⟨⟨r1, r2, r3, r4, r5, r6⟩, _, _⟩ := hr
  have HP1 := Lib.hid (fun W => r3Put_any W p.fTo 6 hu.1 (by decide) (by decide))
  have HP2 := Lib.hid (fun W => r3Put_any W p.fFrom 6 hu.2.1 (by decide) (by decide))
  have HP5 := Lib.hid (fun W => r3Put_any W p.fType 2 (by omega) (by decide) (by decide))
  have q5 := u64_id (n := p.fType) (by omega) (by omega)
  have hv : (∃ x : Unit, (p.fVlan != 0) = false ∧ Hid (vlanB p = [])) ∨
      (∃ x : Unit, (p.fVlan != 0) = true ∧ IntKind.i64.wrap (p.fVlan - 4096) = p.fVlan - 4096 ∧ IntKind.u64.wrap (p.fVlan - 4096) = p.fVlan - 4096 ∧ Hid (vlanB p = 129 :: 0 :: beL 2 (p.fVlan - 4096).toNat) ∧
        Hid (∀ W : World, Calls Try.prog 35 #[.int .u64 (p.fVlan - 4096), .int .i64 2] W fun x w' => x = .returned (.string (str (beL 2 (p.fVlan - 4096).toNat))) ∧ Below W.heap.size W w')) := by
    by_cases h0 : p.fVlan = 0
    · exact .inl ⟨(), by simpa using h0, Lib.hid (by unfold vlanB; rw [if_pos h0])⟩
    · exact .inr ⟨(), by simpa using h0, i64_id (by omega) (by omega), u64_id (by omega) (by omega), Lib.hid (by unfold vlanB; rw [if_neg h0]), Lib.hid (fun W => r3Put_any W _ 2 (by omega) (by decide) (by decide))⟩
  have ht : (∃ x : Unit, (p.fType != 2048) = true ∧ Hid (laidB p a b = beL 6 p.fTo.toNat ++ (beL 6 p.fFrom.toNat ++ (vlanB p ++ (beL 2 p.fType.toNat ++ dat p))))) ∨
      (∃ x : Unit, (p.fType != 2048) = false ∧ Hid (laidB p a b = beL 6 p.fTo.toNat ++ (beL 6 p.fFrom.toNat ++ (vlanB p ++ (beL 2 p.fType.toNat ++ (headB p (partB p b).length a ++ partB p b)))))) := by
    by_cases h0 : p.fType = 2048
    · exact .inr ⟨(), by simpa using h0, Lib.hid (by unfold laidB; rw [if_pos h0])⟩
    · exact .inl ⟨(), by simpa using h0, Lib.hid (by unfold laidB; rw [if_neg h0])⟩
  have hvl : (vlanB p).length ≤ 4 := by rw [vlanB_len]; split <;> omega
  have hhl := headB_len p (partB p b).length a
  clear r1 r2 r3 r4 r5 r6 hw hu
  generalize laidB p a b = R at *
  generalize headB p (partB p b).length a = hB at *
  generalize partB p b = pB at *
  go_enter Try.func19, Try.ntmps19
  go_upto_region 1 with fail
  refine one_box_wp ?_
  intro W hb1 hbel hsz
  have K : Hid (KR w.heap.size w [(w.heap.size, 25, pktC p)] W) := Lib.hid ((KR.start hbel hbel.size).add hb1)
  clear hb1 hbel hsz
  haveI : Nonempty (Keep (KR w.heap.size w [(w.heap.size, 25, pktC p)])) := ⟨⟨_, K.out⟩⟩
  have kc0 := fun q : Keep (KR w.heap.size w [(w.heap.size, 25, pktC p)]) => (KR.at q.h 0 rfl).cell 0 _ (pktC_0 p)
  have kc1 := fun q : Keep (KR w.heap.size w [(w.heap.size, 25, pktC p)]) => (KR.at q.h 0 rfl).cell 1 _ (pktC_1 p)
  go_upto_region 1 with fail
  refine wp_region_keep2 (Cl := KR w.heap.size w [(w.heap.size, 25, pktC p)]) (by kernel_rfl) (by kernel_rfl) K.out.drew ?_
  intro y' hy'
  clear hy' K
  repeat
    first
      | (refine wpQ2_step (fun K hK => ?_)
         go_simp
         first
           | (refine hK _ ?_; clear hK K)
           | (apply Exists.intro
              refine ⟨fun _ => ?_, hK _ ?_⟩
              (rw [if_neg (by omega)]; exact ⟨rfl, rfl⟩)
              clear hK K)
           | (apply Exists.intro
              refine ⟨fun _ => ?_, hK _ ?_⟩
              ((with_reducible refine Calls.keep (HP1.out _) ?_); exact (fun w' hb => KR.call (Keep.h _) hb))
              clear hK K)
           | (apply Exists.intro
              refine ⟨fun _ => ?_, hK _ ?_⟩
              ((with_reducible refine Calls.keep (HP2.out _) ?_); exact (fun w' hb => KR.call (Keep.h _) hb))
              clear hK K))
  refine wpQ2_nil ?_
  clear kc0 kc1
  intro Wk Kk
  have K := Lib.hid Kk
  clear Kk
  clear HP1 HP2
  have c2 := (K.out.at 0 rfl).cell 2 _ (pktC_2 p)
  have c3 := (K.out.at 0 rfl).cell 3 _ (pktC_3 p)
  rcases hv with ⟨_, t1, HV⟩ | ⟨_, t1, q1, q2, HV, HP4⟩
  case' inr =>
    have e0 : (⟨#[129, 0]⟩ : ByteArray) = str [129, 0] := rfl
    go_wp2_with fail
    refine (HP4.out _).mono ?_
    rintro x w2 ⟨rfl, b2⟩
    replace K := Lib.hid (K.out.call b2)
    clear b2 HP4 c2 c3
    have c3 := (K.out.at 0 rfl).cell 3 _ (pktC_3 p)
  all_goals
    go_wp2_with fail
    refine (HP5.out _).mono ?_
    rintro x w4 ⟨rfl, b4⟩
    replace K := Lib.hid (K.out.call b4)
    clear b4 HP5 c3
    have c3 := (K.out.at 0 rfl).cell 3 _ (pktC_3 p)
    rcases ht with ⟨_, t2, HR⟩ | ⟨_, t2, HR⟩
    · have c10 := (K.out.at 0 rfl).cell 10 _ (pktC_10s p)
      have n1 : ¬ 9223372036854775807 < 14 + (dat p).length := by omega
      have n2 : ¬ 9223372036854775807 < 18 + (dat p).length := by omega
      go_wp2_with fail
      go_ret
      refine ⟨ret_str ?_, K.out.below⟩
      rw [HR.out, HV.out]
      simp
    · have n3 : IntKind.i64.wrap ((20 : Int) + (pB.length : Int)) = 20 + (pB.length : Int) := i64_id (by omega) (by omega)
      go_wp2_with (first
        | (refine wpList_row 25 _ rfl (by rfl) _ _ rfl _ (run_loadVar_row _ _ _ 25 _ (0, 0) _ (K.out.at 0 rfl) Try.underlying25 rfl (by kernel_rfl)) ?_)
        | fail)
      refine (HQ1.out _).mono ?_
      rintro x w6 ⟨rfl, b6⟩
      replace K := Lib.hid (K.out.call b6)
      clear b6 c3 HQ1
      go_wp2_with (first
        | (refine wpList_row 25 _ rfl (by rfl) _ _ rfl _ (run_loadVar_row _ _ _ 25 _ (0, 0) _ (K.out.at 0 rfl) Try.underlying25 rfl (by kernel_rfl)) ?_)
        | fail)
      refine (HQ2.out _).mono ?_
      rintro x w7 ⟨rfl, b7⟩
      replace K := Lib.hid (K.out.call b7)
      clear b7 HQ2
      have n1 : ¬ 9223372036854775807 < 34 + pB.length := by omega
      have n2 : ¬ 9223372036854775807 < 38 + pB.length := by omega
      go_wp2_with fail
      go_ret
      refine ⟨ret_str ?_, K.out.below⟩
      rw [HR.out, HV.out]
      simp
set_option maxRecDepth 100000 in
set_option maxHeartbeats 4000000 in
theorem rBytes_any (w : World) (p : Pkt) (hu : okU p) (hd : (dat p).length ≤ 1000000) :
    Calls Try.prog 10 #[valPkt p] w fun x w' => x = .returned (.tuple #[.string (str (bytesF p).1), .int .i64 (bytesF p).2]) ∧ Below w.heap.size w w' := by
  have HRi := Lib.hid (fun W => rRight_any W p hu)
  have hc : (∃ x : Unit, decide (rightP p) = false ∧ Hid (bytesF p = ([], 1))) ∨
      (∃ x : Unit, decide (rightP p) = true ∧ decide ((1500 : Int) < ((dat p).length : Int)) = true ∧ Hid (bytesF p = ([], 44))) ∨
      (∃ x : Unit, decide (rightP p) = true ∧ decide ((1500 : Int) < ((dat p).length : Int)) = false ∧ Hid (rightP p ∧ ¬ 1500 < (dat p).length)) := by
    by_cases h1 : rightP p
    · by_cases h2 : 1500 < (dat p).length
      · exact .inr (.inl ⟨(), decide_eq_true h1, decide_eq_true (by omega), Lib.hid (by unfold bytesF; rw [if_neg (by simpa using h1), if_pos h2])⟩)
      · exact .inr (.inr ⟨(), decide_eq_true h1, decide_eq_false (by omega), Lib.hid ⟨h1, h2⟩⟩)
    · exact .inl ⟨(), decide_eq_false h1, Lib.hid (by unfold bytesF; rw [if_pos h1])⟩
  rcases hc with ⟨_, t1, HB⟩ | ⟨_, t1, t2, HB⟩ | ⟨_, t1, t2, HB⟩
  case' inr.inr =>
    have hrp := HB.out.1
    have hle : (dat p).length ≤ 1500 := by have := HB.out.2; omega
    have HSm := Lib.hid (fun W => rsums_any W p (okW_of hrp hle) hu)
    have HLa := Lib.hid (fun W => rwith_any W p _ _ hrp hu hle (sumA_lt p) (sumB_lt p))
    have HQ : Hid (bytesF p = if 1500 < (laidB p (sumA p) (sumB p)).length then ([], 44) else (laidB p (sumA p) (sumB p), 0)) := Lib.hid (by unfold bytesF; rw [if_neg (by simpa using hrp), if_neg (by omega)])
    clear hrp HB
    generalize laidB p (sumA p) (sumB p) = L at *
    generalize sumA p = sa at *
    generalize sumB p = sb at *
  all_goals
    generalize bytesF p = R at *
    generalize decide (rightP p) = rr at *
    subst t1
    clear hu hd
    go_enter Try.func10, Try.ntmps10
    go_upto_region 1 with fail
    refine one_box_wp ?_
    intro W hb1 hbel hsz
    have K : Hid (KR w.heap.size w [(w.heap.size, 25, pktC p)] W) := Lib.hid ((KR.start hbel hbel.size).add hb1)
    clear hb1 hbel hsz
    go_wp2_with (first
      | (refine wpList_row 25 _ rfl (by rfl) _ _ rfl _ (run_loadVar_row _ _ _ 25 _ (0, 0) _ (K.out.at 0 rfl) Try.underlying25 rfl (by kernel_rfl)) ?_)
      | fail)
    refine (HRi.out _).mono ?_
    rintro x w1 ⟨rfl, b1⟩
    replace K := Lib.hid (K.out.call b1)
    clear b1 HRi
    have c10 := (K.out.at 0 rfl).cell 10 _ (pktC_10s p)
  · go_wp2_with (first
      | (refine wpList_row 25 _ rfl (by rfl) _ _ rfl _ (run_loadVar_row _ _ _ 25 _ (0, 0) _ (K.out.at 0 rfl) Try.underlying25 rfl (by kernel_rfl)) ?_)
      | fail)
    refine (HSm.out _).mono ?_
    rintro x w2 ⟨rfl, b2⟩
    replace K := Lib.hid (K.out.call b2)
    clear b2 HSm c10
    go_wp2_with (first
      | (refine wpList_row 25 _ rfl (by rfl) _ _ rfl _ (run_loadVar_row _ _ _ 25 _ (0, 0) _ (K.out.at 0 rfl) Try.underlying25 rfl (by kernel_rfl)) ?_)
      | fail)
    refine (HLa.out _).mono ?_
    rintro x w3 ⟨rfl, b3⟩
    replace K := Lib.hid (K.out.call b3)
    clear b3 HLa
    by_cases h5 : 1500 < L.length
    · have t5 : decide ((1500 : Int) < (L.length : Int)) = true := decide_eq_true (by omega)
      have HR : Hid (R = ([], 44)) := Lib.hid (by rw [HQ.out, if_pos h5])
      clear h5 HQ
      go_wp2_with fail
      go_ret2
      rw [HR.out]
      exact ⟨rfl, K.out.below⟩
    · have t5 : decide ((1500 : Int) < (L.length : Int)) = false := decide_eq_false (by omega)
      have HR : Hid (R = (L, 0)) := Lib.hid (by rw [HQ.out, if_neg h5])
      clear h5 HQ
      go_wp2_with fail
      go_ret2
      rw [HR.out]
      exact ⟨rfl, K.out.below⟩
  · go_wp2_with fail
    go_ret2
    rw [HB.out]
    exact ⟨rfl, K.out.below⟩
  · go_wp2_with fail
    go_ret2
    rw [HB.out]
    exact ⟨rfl, K.out.below⟩
end Go.Proofs.Ythihncfmimkimaa
