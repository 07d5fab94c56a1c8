/- The walk of frame.summed. -/
import Derived.Test.YthihncfmimkimaaFrameD
import Derived.Test.YthihncfmimkimaaKRMore
namespace Go.Proofs.Ythihncfmimkimaa
open Go.RowKit
set_option linter.unusedVariables false

theorem sum_str (W : World) (l : List UInt8) (h : l.length ≤ 1000000) : Calls Try.prog 23 #[.string (str l)] W fun x w' => x = .returned (.int .i64 (sumR l)) ∧ W = w' :=
  Sum_any W (str l) (by rw [str_size]; exact h)
def sumC (p : Pkt) : Array Value := #[.int .i64 (sumA p), .int .i64 (sumB p)]
set_option maxRecDepth 100000 in
set_option maxHeartbeats 4000000 in
theorem summed_any (w : World) (p : Pkt) (hw : okW p) (hu : okU p) :
    Calls Try.prog 16 #[valPkt p] w fun x w' => x = .returned (.agg (sumC p)) ∧ Below w.heap.size w w' := by
  have hpl : (partB p 0).length ≤ 1520 := by
    have h1 := partB_len p 0
    have h2 := hw.2.2.2.2
    split at h1 <;> (try split at h1) <;> omega
  have H1 := Lib.hid (fun W => part_any W p 0 0 hw (by decide))
  have H2 := Lib.hid (fun W => head_any W p (partB p 0).length 0 0 hw hu (by omega) (by decide))
  have H3 := Lib.hid (fun W => sum_str W (headB p (partB p 0).length 0) (by rw [headB_len]; decide))
  have hc : (∃ x : Unit, (p.fProto == 17) = true ∧ (((sumR (pseudoB p) : Nat) : Int) == 0) = true ∧ Hid (sumC p = #[.int .i64 (sumA p), .int .i64 65535])) ∨
      (∃ x : Unit, (p.fProto == 17) = true ∧ (((sumR (pseudoB p) : Nat) : Int) == 0) = false ∧ Hid (sumC p = #[.int .i64 (sumA p), .int .i64 (sumR (pseudoB p))])) ∨
      (∃ x : Unit, (p.fProto == 17) = false ∧ Hid (sumC p = #[.int .i64 (sumA p), .int .i64 (sumR (pseudoB p))])) := by
    unfold sumC sumB
    by_cases h : p.fProto = 17
    · by_cases h0 : sumR (pseudoB p) = 0
      · exact .inl ⟨(), by simpa using h, by rw [h0]; rfl, Lib.hid (by rw [if_pos ⟨h, h0⟩]; rfl)⟩
      · exact .inr (.inl ⟨(), by simpa using h, beq_eq_false_iff_ne.mpr (by omega), Lib.hid (by rw [if_neg (fun e => h0 e.2)])⟩)
    · exact .inr (.inr ⟨(), by simpa using h, Lib.hid (by rw [if_neg (fun e => h e.1)])⟩)
  have HA : Hid (sumR (headB p (partB p 0).length 0) = sumA p) := Lib.hid rfl
  have HPs : Hid (pseudoB p = beL 4 p.fSrc.toNat ++ (beL 4 p.fDst.toNat ++ (beL 2 p.fProto.toNat ++ (beL 2 (partB p 0).length ++ partB p 0)))) := Lib.hid rfl
  have H4 : Hid (∀ W : World, Calls Try.prog 23 #[.string (str (beL 4 p.fSrc.toNat ++ (beL 4 p.fDst.toNat ++ (beL 2 p.fProto.toNat ++ (beL 2 (partB p 0).length ++ partB p 0)))))] W fun x w' => x = .returned (.int .i64 (sumR (pseudoB p))) ∧ Below W.heap.size W w') := Lib.hid (fun W => by
    rw [← HPs.out]
    exact (sum_str W (pseudoB p) (by unfold pseudoB; simp [beL_length]; omega)).mono fun _ _ ⟨h, e⟩ => ⟨h, e ▸ Below.refl _ _⟩)
  clear HPs
  obtain ⟨_, l1, _, _, h5⟩ := hw
  obtain ⟨_, _, u1, u2, u3, u4⟩ := hu
  have HP1 := Lib.hid (fun W => put_any W p.fSrc 4 u1 (by decide) (by decide) (by omega))
  have HP2 := Lib.hid (fun W => put_any W p.fDst 4 u3 (by decide) (by decide) (by omega))
  have HP3 := Lib.hid (fun W => put_any W p.fProto 2 l1.1 (by decide) (by decide) (by have := l1.2; omega))
  have HP4 := Lib.hid (fun W => put_nat W (partB p 0).length 2 (by decide) (by decide) (by omega))
  have q3 := u64_id l1.1 (by omega)
  have q5 := u64_id (n := ((partB p 0).length : Int)) (by omega) (by omega)
  have q6 := u64_id u1 (by omega)
  have q7 := u64_id u3 (by omega)
  clear l1 u1 u2 u3 u4 h5
  go_enter Try.func16, Try.ntmps16
  go_upto_region 1 with fail
  refine two_boxes_wp ?_
  intro W hb1 hb2 hbel hsz
  have K : Hid (KR w.heap.size w [(w.heap.size, 25, pktC p), (w.heap.size + 1, 39, #[.int .i64 0, .int .i64 0])] W) := Lib.hid (((KR.start hbel hbel.size).add hb2).add hb1)
  clear hb1 hb2 hbel hsz
  go_wp2_with (first
    | (refine wpList_row 25 _ rfl (by rfl) _ _ rfl _ (run_loadVar_row _ _ _ 25 _ (0, 0) _ (K.out.at 0 rfl) Try.underlying25 rfl (by kernel_rfl)) ?_)
    | fail)
  refine (H1.out _).mono ?_
  rintro x w1 ⟨rfl, b1⟩
  have K1 := Lib.hid (K.out.call b1)
  clear b1 K H1
  go_wp2_with (first
    | (refine wpList_row 25 _ rfl (by rfl) _ _ rfl _ (run_loadVar_row _ _ _ 25 _ (0, 0) _ (K1.out.at 0 rfl) Try.underlying25 rfl (by kernel_rfl)) ?_)
    | fail)
  refine (H2.out _).mono ?_
  rintro x w2 ⟨rfl, b2⟩
  have K2 := Lib.hid (K1.out.call b2)
  clear b2 K1 H2
  go_wp2_with fail
  refine (H3.out _).mono ?_
  rintro x w3 ⟨rfl, rfl⟩
  clear H3
  rw [HA.out]
  clear HA
  generalize partB p 0 = pb at *
  generalize sumR (pseudoB p) = sb at *
  generalize sumA p = sa at *
  go_upto_region 3 with fail
  refine one_box_wp ?_
  intro W3 hb hbel hsz
  have hlt := K2.out.lt 1 rfl
  have K := Lib.hid (K2.out.new hb hbel)
  clear hb hbel hsz K2
  generalize w2.heap.size = g3 at *
  simp only at hlt
  haveI : Nonempty (Keep (KR w.heap.size w [(g3, 39, #[.int .i64 sa, .int .i64 0]), (w.heap.size, 25, pktC p), (w.heap.size + 1, 39, #[.int .i64 0, .int .i64 0])])) := ⟨⟨_, K.out⟩⟩
  have kc0 := fun q : Keep (KR w.heap.size w [(g3, 39, #[.int .i64 sa, .int .i64 0]), (w.heap.size, 25, pktC p), (w.heap.size + 1, 39, #[.int .i64 0, .int .i64 0])]) => (KR.at q.h 1 rfl).cell 4 _ (pktC_4 p)
  have kc1 := fun q : Keep (KR w.heap.size w [(g3, 39, #[.int .i64 sa, .int .i64 0]), (w.heap.size, 25, pktC p), (w.heap.size + 1, 39, #[.int .i64 0, .int .i64 0])]) => (KR.at q.h 1 rfl).cell 5 _ (pktC_5 p)
  have kc2 := fun q : Keep (KR w.heap.size w [(g3, 39, #[.int .i64 sa, .int .i64 0]), (w.heap.size, 25, pktC p), (w.heap.size + 1, 39, #[.int .i64 0, .int .i64 0])]) => (KR.at q.h 1 rfl).cell 7 _ (pktC_7 p)
  refine wp_region_tail2 (Cl := KR w.heap.size w [(g3, 39, #[.int .i64 sa, .int .i64 0]), (w.heap.size, 25, pktC p), (w.heap.size + 1, 39, #[.int .i64 0, .int .i64 0])]) 22 (by kernel_rfl) (by kernel_rfl) K.out.drew ?_
  intro y' hy'
  clear hy' K
  simp only [List.take_succ_cons, List.take_zero, List.drop_succ_cons, List.drop_zero]
  repeat
    first
      | (refine wpQ2_step (fun K hK => ?_)
         go_simp
         first
           | (refine hK _ ?_; clear hK K)
           | (apply Exists.intro
              refine ⟨fun _ => ?_, hK _ ?_⟩
              (rw [if_neg (by omega)]; exact ⟨rfl, rfl⟩)
              clear hK K)
           | (apply Exists.intro
              refine ⟨fun _ => ?_, hK _ ?_⟩
              ((with_reducible refine Calls.keep (HP1.out _) ?_); exact (fun w' hb => KR.call (Keep.h _) hb))
              clear hK K)
           | (apply Exists.intro
              refine ⟨fun _ => ?_, hK _ ?_⟩
              ((with_reducible refine Calls.keep (HP2.out _) ?_); exact (fun w' hb => KR.call (Keep.h _) hb))
              clear hK K)
           | (apply Exists.intro
              refine ⟨fun _ => ?_, hK _ ?_⟩
              ((with_reducible refine Calls.keep (HP3.out _) ?_); exact (fun w' hb => KR.call (Keep.h _) hb))
              clear hK K)
           | (apply Exists.intro
              refine ⟨fun _ => ?_, hK _ ?_⟩
              ((with_reducible refine Calls.keep (HP4.out _) ?_); exact (fun w' hb => KR.call (Keep.h _) hb))
              clear hK K)
           | (apply Exists.intro
              refine ⟨fun _ => ?_, hK _ ?_⟩
              ((with_reducible refine Calls.keep (H4.out _) ?_); exact (fun w' hb => KR.call (Keep.h _) hb))
              clear hK K))
  refine wpQ2_nil ?_
  clear kc0 kc1 kc2
  intro Wk Kk
  have K := Lib.hid Kk
  clear Kk
  have e1 := (K.out.at 0 rfl).cell 1 _ rfl
  have f1 := (K.out.at 0 rfl).frozen 1
  go_upto_region 4 with fail
  clear e1 f1
  have K4 : Hid (KR w.heap.size w [(g3, 39, #[.int .i64 sa, .int .i64 sb]), (w.heap.size, 25, pktC p), (w.heap.size + 1, 39, #[.int .i64 0, .int .i64 0])] (Wk.setCell ⟨g3, 1, none⟩ (.int .i64 sb))) := Lib.hid (K.out.set0 1 (.int .i64 sb) (by omega) (by simp; omega))
  clear K
  generalize Wk.setCell ⟨g3, 1, none⟩ (.int .i64 sb) = W4 at *
  have e0 := (K4.out.at 0 rfl).cell 0 _ rfl
  have e1 := (K4.out.at 0 rfl).cell 1 _ rfl
  have f1 := (K4.out.at 0 rfl).frozen 1
  have e7 := (K4.out.at 1 rfl).cell 7 _ (pktC_7 p)
  have r0 := (K4.out.at 2 rfl).cell 0 _ rfl
  have r1 := (K4.out.at 2 rfl).cell 1 _ rfl
  have rf := (K4.out.at 2 rfl).frozen
  have rf0 := rf 0
  have rf1 := rf 1
  clear rf q3 q5 q6 q7 HP1 HP2 HP3 HP4 H4
  have hne : g3 ≠ w.heap.size + 1 := by omega
  have K5 : Hid (KR w.heap.size w [(w.heap.size + 1, 39, #[.int .i64 0, .int .i64 0]), (g3, 39, #[.int .i64 sa, .int .i64 sb])] W4) := Lib.hid (K4.out.sub (by simp))
  rcases hc with ⟨_, t1, t2, HR⟩ | ⟨_, t1, t2, HR⟩ | ⟨_, t1, HR⟩
  · go_wp2_with fail
    have K6 := (K4.out.set0 1 (.int .i64 65535) (by omega) (by simp; omega)).sub (l' := [(w.heap.size + 1, 39, #[.int .i64 0, .int .i64 0]), (g3, 39, #[.int .i64 sa, .int .i64 65535])]) (by simp)
    have K7 := (K6.set0 0 (.int .i64 sa) (by omega) (by simp; omega)).set0 1 (.int .i64 65535) (by omega) (by simp; omega)
    refine bodyPost_ret (v := .agg #[.int .i64 sa, .int .i64 65535]) (results_cell_row rfl _ _ (w.heap.size + 1) _ _ _ _ rfl (K7.at 0 rfl) Try.underlying39 rfl (by kernel_rfl)) rfl ⟨?_, K7.below⟩
    rw [HR.out]
  · go_wp2_with fail
    have K7 := (K5.out.set0 0 (.int .i64 sa) (by omega) (by simp; omega)).set0 1 (.int .i64 sb) (by omega) (by simp; omega)
    refine bodyPost_ret (v := .agg #[.int .i64 sa, .int .i64 sb]) (results_cell_row rfl _ _ (w.heap.size + 1) _ _ _ _ rfl (K7.at 0 rfl) Try.underlying39 rfl (by kernel_rfl)) rfl ⟨?_, K7.below⟩
    rw [HR.out]
  · go_wp2_with fail
    have K7 := (K5.out.set0 0 (.int .i64 sa) (by omega) (by simp; omega)).set0 1 (.int .i64 sb) (by omega) (by simp; omega)
    refine bodyPost_ret (v := .agg #[.int .i64 sa, .int .i64 sb]) (results_cell_row rfl _ _ (w.heap.size + 1) _ _ _ _ rfl (K7.at 0 rfl) Try.underlying39 rfl (by kernel_rfl)) rfl ⟨?_, K7.below⟩
    rw [HR.out]
end Go.Proofs.Ythihncfmimkimaa
