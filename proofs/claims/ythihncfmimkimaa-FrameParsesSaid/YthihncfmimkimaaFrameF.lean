/- The walk of frame.laid. -/
import Derived.Test.YthihncfmimkimaaFrameE
import Derived.Test.YthihncfmimkimaaBldK
namespace Go.Proofs.Ythihncfmimkimaa
open Go.RowKit
set_option linter.unusedVariables false

theorem i64_and12 (n : Int) : Go.bits .and .i64 n 4095 = n % 4096 := by
  have h1 : (BitVec.ofInt 64 4095).toNat = 2 ^ 12 - 1 := by decide
  have key : (BitVec.ofInt 64 n &&& BitVec.ofInt 64 4095).toNat = (n % ((2 ^ 64 : Nat) : Int)).toNat % 2 ^ 12 := by
    rw [BitVec.toNat_and, BitVec.toNat_ofInt, h1, Nat.and_two_pow_sub_one_eq_mod]
  show IntKind.i64.wrap ((BitVec.ofInt 64 n &&& BitVec.ofInt 64 4095).toNat : Nat) = n % 4096
  rw [key, IntKind.wrap_i64]
  omega
theorem okW_of {p : Pkt} (h : rightP p) (hl : (dat p).length ≤ 1500) : okW p := by
  by_cases ht : p.fType = 2048
  · obtain ⟨a, b, c, d, e, f, g, h', _⟩ := h.2.2 ht
    exact ⟨⟨a, b⟩, ⟨c, d⟩, ⟨e, f⟩, ⟨g, h'⟩, hl⟩
  · obtain ⟨_, _, c, d, e, f⟩ := h.2.1 ht
    exact ⟨by omega, by omega, by omega, by omega, hl⟩

set_option maxRecDepth 100000 in
set_option maxHeartbeats 8000000 in
theorem laid_any (w : World) (p : Pkt) (a b : Nat) (hr : rightP p) (hu : okU p) (hl : (dat p).length ≤ 1500) (ha : a < 65536) (hb : b < 65536) :
    Calls Try.prog 15 #[valPkt p, .agg #[.int .i64 a, .int .i64 b]] w fun x w' => x = .returned (.string (str (laidB p a b))) ∧ Below w.heap.size w w' := by
  have hw := okW_of hr hl
  have hpl : (partB p b).length ≤ 1520 := by
    have h1 := partB_len p b
    split at h1 <;> (try split at h1) <;> omega
  have HQ1 := Lib.hid (fun W => part_any W p a b hw hb)
  have HQ2 := Lib.hid (fun W => head_any W p (partB p b).length a b hw hu (by omega) ha)
  obtain ⟨⟨r1, r2, r3, r4, r5, r6⟩, _, _⟩ := hr
  have HP1 := Lib.hid (fun W => put_any W p.fTo 6 hu.1 (by decide) (by decide) (by omega))
  have HP2 := Lib.hid (fun W => put_any W p.fFrom 6 hu.2.1 (by decide) (by decide) (by omega))
  have HP3 : Hid (∀ W : World, Calls Try.prog 26 #[.int .u64 33024, .int .i64 2] W fun x w' => x = .returned (.string (str [129, 0])) ∧ Below W.heap.size W w') := Lib.hid (fun W => put_nat W 33024 2 (by decide) (by decide) (by decide))
  have HP5 := Lib.hid (fun W => put_any W p.fType 2 (by omega) (by decide) (by decide) (by omega))
  have q5 := u64_id (n := p.fType) (by omega) (by omega)
  have hv : (∃ x : Unit, (p.fVlan != 0) = false ∧ Hid (vlanB p = [])) ∨
      (∃ x : Unit, (p.fVlan != 0) = true ∧ ∃ n : Int, Go.bits .and .i64 p.fVlan 4095 = n ∧ IntKind.u64.wrap n = n ∧ Hid (vlanB p = 129 :: 0 :: beL 2 n.toNat) ∧
        Hid (∀ W : World, Calls Try.prog 26 #[.int .u64 n, .int .i64 2] W fun x w' => x = .returned (.string (str (beL 2 n.toNat))) ∧ Below W.heap.size W w')) := by
    by_cases h0 : p.fVlan = 0
    · exact .inl ⟨(), by simpa using h0, Lib.hid (by unfold vlanB; rw [if_pos h0])⟩
    · refine .inr ⟨(), by simpa using h0, p.fVlan - 4096, ?_, u64_id (by omega) (by omega), Lib.hid (by unfold vlanB; rw [if_neg h0]), Lib.hid (fun W => put_any W _ 2 (by omega) (by decide) (by decide) (by omega))⟩
      rw [i64_and12]; omega
  have ht : (∃ x : Unit, (p.fType != 2048) = true ∧ Hid (laidB p a b = (beL 6 p.fTo.toNat ++ beL 6 p.fFrom.toNat) ++ (vlanB p ++ (beL 2 p.fType.toNat ++ dat p)))) ∨
      (∃ x : Unit, (p.fType != 2048) = false ∧ Hid (laidB p a b = (beL 6 p.fTo.toNat ++ beL 6 p.fFrom.toNat) ++ (vlanB p ++ (beL 2 p.fType.toNat ++ (headB p (partB p b).length a ++ partB p b))))) := by
    by_cases h0 : p.fType = 2048
    · exact .inr ⟨(), by simpa using h0, Lib.hid (by unfold laidB; rw [if_pos h0]; simp only [List.append_assoc])⟩
    · exact .inl ⟨(), by simpa using h0, Lib.hid (by unfold laidB; rw [if_neg h0]; simp only [List.append_assoc])⟩
  have hvl : (vlanB p).length ≤ 4 := by rw [vlanB_len]; split <;> omega
  have hhl := headB_len p (partB p b).length a
  clear r1 r2 r3 r4 r5 r6 hw hu
  generalize laidB p a b = R at *
  generalize headB p (partB p b).length a = hB at *
  generalize partB p b = pB at *
  go_enter Try.func15, Try.ntmps15
  go_upto_region 1 with fail
  refine two_boxes_wp ?_
  intro W hb1 hb2 hbel hsz
  have K : Hid (KR w.heap.size w [(w.heap.size, 25, pktC p), (w.heap.size + 1, 39, #[.int .i64 a, .int .i64 b])] W) := Lib.hid (((KR.start hbel hbel.size).add hb2).add hb1)
  clear hb1 hb2 hbel hsz
  go_upto_region 2 with fail
  refine one_box_wp ?_
  intro W2 hb hbel hsz
  have L := Lib.hid (LK.new K.out hb hbel)
  clear hb hbel hsz K
  generalize W.heap.size = g at *
  haveI : Nonempty (Keep (LK w [(w.heap.size, 25, pktC p), (w.heap.size + 1, 39, #[.int .i64 a, .int .i64 b])] g [])) := ⟨⟨_, L.out⟩⟩
  have kc0 := fun q : Keep (LK w [(w.heap.size, 25, pktC p), (w.heap.size + 1, 39, #[.int .i64 a, .int .i64 b])] g []) => (LK.at q.h 0 rfl).cell 0 _ (pktC_0 p)
  have kc1 := fun q : Keep (LK w [(w.heap.size, 25, pktC p), (w.heap.size + 1, 39, #[.int .i64 a, .int .i64 b])] g []) => (LK.at q.h 0 rfl).cell 1 _ (pktC_1 p)
  refine wp_region_tail2 (Cl := LK w [(w.heap.size, 25, pktC p), (w.heap.size + 1, 39, #[.int .i64 a, .int .i64 b])] g []) 7 (by kernel_rfl) (by kernel_rfl) L.out.drew ?_
  intro y' hy'
  clear hy' L
  simp only [List.take_succ_cons, List.take_zero, List.drop_succ_cons, List.drop_zero]
  repeat
    first
      | (refine wpQ2_step (fun K hK => ?_)
         go_simp
         first
           | (refine hK _ ?_; clear hK K)
           | (apply Exists.intro
              refine ⟨fun _ => ?_, hK _ ?_⟩
              (rw [if_neg (by omega)]; exact ⟨rfl, rfl⟩)
              clear hK K)
           | (apply Exists.intro
              refine ⟨fun _ => ?_, hK _ ?_⟩
              ((with_reducible refine Calls.keep (HP1.out _) ?_); exact (fun w' hb => LK.call (Keep.h _) hb))
              clear hK K)
           | (apply Exists.intro
              refine ⟨fun _ => ?_, hK _ ?_⟩
              ((with_reducible refine Calls.keep (HP2.out _) ?_); exact (fun w' hb => LK.call (Keep.h _) hb))
              clear hK K))
  refine wpQ2_nil ?_
  clear kc0 kc1
  intro Wk Kk
  have L := Lib.hid Kk
  clear Kk
  go_wp2_with fail
  refine (L.out.write _ (by simp [beL_length])).mono ?_
  rintro x w3 ⟨rfl, l3⟩
  have c2 := (l3.at 0 rfl).cell 2 _ (pktC_2 p)
  have L3 : Hid (LK w [(w.heap.size, 25, pktC p), (w.heap.size + 1, 39, #[.int .i64 a, .int .i64 b])] g (beL 6 p.fTo.toNat ++ beL 6 p.fFrom.toNat) w3) := Lib.hid l3
  clear l3 L HP1 HP2
  clear c2
  rcases hv with ⟨_, t1, HV⟩ | ⟨_, t1, n, q1, q2, HV, HP4⟩
  case' inl =>
    have c2 := (L3.out.at 0 rfl).cell 2 _ (pktC_2 p)
    have c3 := (L3.out.at 0 rfl).cell 3 _ (pktC_3 p)
    have L4 : Hid (LK w [(w.heap.size, 25, pktC p), (w.heap.size + 1, 39, #[.int .i64 a, .int .i64 b])] g ((beL 6 p.fTo.toNat ++ beL 6 p.fFrom.toNat) ++ vlanB p) w3) := Lib.hid (by rw [HV.out, List.append_nil]; exact L3.out)
    clear L3
  case' inr =>
    have c2 := (L3.out.at 0 rfl).cell 2 _ (pktC_2 p)
    haveI : Nonempty (Keep (LK w [(w.heap.size, 25, pktC p), (w.heap.size + 1, 39, #[.int .i64 a, .int .i64 b])] g (beL 6 p.fTo.toNat ++ beL 6 p.fFrom.toNat))) := ⟨⟨_, L3.out⟩⟩
    have kc0 := fun q : Keep (LK w [(w.heap.size, 25, pktC p), (w.heap.size + 1, 39, #[.int .i64 a, .int .i64 b])] g (beL 6 p.fTo.toNat ++ beL 6 p.fFrom.toNat)) => (LK.at q.h 0 rfl).cell 2 _ (pktC_2 p)
    go_upto_region 4 with fail
    refine wp_region_tail2 (Cl := LK w [(w.heap.size, 25, pktC p), (w.heap.size + 1, 39, #[.int .i64 a, .int .i64 b])] g (beL 6 p.fTo.toNat ++ beL 6 p.fFrom.toNat)) 7 (by kernel_rfl) (by kernel_rfl) L3.out.drew ?_
    intro y' hy'
    clear hy' L3
    simp only [List.take_succ_cons, List.take_zero, List.drop_succ_cons, List.drop_zero]
    repeat
      first
        | (refine wpQ2_step (fun K hK => ?_)
           go_simp
           first
             | (refine hK _ ?_; clear hK K)
             | (apply Exists.intro
                refine ⟨fun _ => ?_, hK _ ?_⟩
                (rw [if_neg (by omega)]; exact ⟨rfl, rfl⟩)
                clear hK K)
             | (apply Exists.intro
                refine ⟨fun _ => ?_, hK _ ?_⟩
                ((with_reducible refine Calls.keep (HP3.out _) ?_); exact (fun w' hb => LK.call (Keep.h _) hb))
                clear hK K)
             | (apply Exists.intro
                refine ⟨fun _ => ?_, hK _ ?_⟩
                ((with_reducible refine Calls.keep (HP4.out _) ?_); exact (fun w' hb => LK.call (Keep.h _) hb))
                clear hK K))
    refine wpQ2_nil ?_
    clear kc0
    intro Wk Kk
    have L3 := Lib.hid Kk
    clear Kk
    clear c2
    go_wp2_with fail
    refine (L3.out.write _ (by simp [beL_length])).mono ?_
    rintro x w3 ⟨rfl, l3⟩
    have c3 := (l3.at 0 rfl).cell 3 _ (pktC_3 p)
    have L4 : Hid (LK w [(w.heap.size, 25, pktC p), (w.heap.size + 1, 39, #[.int .i64 a, .int .i64 b])] g ((beL 6 p.fTo.toNat ++ beL 6 p.fFrom.toNat) ++ vlanB p) w3) := Lib.hid (by rw [HV.out]; exact l3)
    clear l3 L3 q1 q2 HP4
  all_goals
    clear HV
    generalize vlanB p = vB at *
    go_wp2_with fail
    refine (HP5.out _).mono ?_
    rintro x w4 ⟨rfl, b4⟩
    have L5 := Lib.hid (L4.out.call b4)
    clear b4 L4 c3
    go_wp2_with fail
    refine (L5.out.write _ (by simp [beL_length]; omega)).mono ?_
    rintro x w5 ⟨rfl, l6⟩
    have c3 := (l6.at 0 rfl).cell 3 _ (pktC_3 p)
    have L6 := Lib.hid l6
    clear l6 L5
    rcases ht with ⟨_, t2, HR⟩ | ⟨_, t2, HR⟩
    · have c10 := (L6.out.at 0 rfl).cell 10 _ (pktC_10s p)
      go_wp2_with fail
      refine (L6.out.write _ (by simp [beL_length]; omega)).mono ?_
      rintro x w6 ⟨rfl, l7⟩
      go_wp2_with fail
      refine l7.string.mono ?_
      rintro x w7 ⟨rfl, b7⟩
      have HB := Lib.hid b7
      clear b7 l7 L6 c3 c10
      go_wp2_with fail
      go_ret
      exact ⟨ret_str (by rw [HR.out]; simp only [List.append_assoc]), HB.out⟩
    · go_wp2_with (first
        | (refine wpList_row 25 _ rfl (by rfl) _ _ rfl _ (run_loadVar_row _ _ _ 25 _ (0, 0) _ (L6.out.at 0 rfl) Try.underlying25 rfl (by kernel_rfl)) ?_)
        | (refine wpList_row 39 _ rfl (by rfl) _ _ rfl _ (run_loadVar_row _ _ _ 39 _ (0, 0) _ (L6.out.at 1 rfl) Try.underlying39 rfl (by kernel_rfl)) ?_)
        | fail)
      refine (HQ1.out _).mono ?_
      rintro x w6 ⟨rfl, b6⟩
      have L7 := Lib.hid (L6.out.call b6)
      clear b6 L6 c3 HQ1
      go_wp2_with (first
        | (refine wpList_row 25 _ rfl (by rfl) _ _ rfl _ (run_loadVar_row _ _ _ 25 _ (0, 0) _ (L7.out.at 0 rfl) Try.underlying25 rfl (by kernel_rfl)) ?_)
        | (refine wpList_row 39 _ rfl (by rfl) _ _ rfl _ (run_loadVar_row _ _ _ 39 _ (0, 0) _ (L7.out.at 1 rfl) Try.underlying39 rfl (by kernel_rfl)) ?_)
        | fail)
      refine (HQ2.out _).mono ?_
      rintro x w7 ⟨rfl, b7⟩
      have L8 := Lib.hid (L7.out.call b7)
      clear b7 L7 HQ2
      have hn9 : ¬ 9223372036854775807 < hB.length + pB.length := by omega
      go_wp2_with fail
      refine (L8.out.write _ (by simp [beL_length]; omega)).mono ?_
      rintro x w8 ⟨rfl, l9⟩
      go_wp2_with fail
      refine l9.string.mono ?_
      rintro x w9 ⟨rfl, b9⟩
      have HB := Lib.hid b9
      clear b9 l9 L8
      go_wp2_with fail
      go_ret
      exact ⟨ret_str (by rw [HR.out]; simp only [List.append_assoc]), HB.out⟩
end Go.Proofs.Ythihncfmimkimaa
