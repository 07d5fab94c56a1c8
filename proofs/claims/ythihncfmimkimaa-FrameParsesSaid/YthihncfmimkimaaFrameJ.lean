/- The walk of frame.Parse. -/
import Derived.Test.YthihncfmimkimaaFrameI
namespace Go.Proofs.Ythihncfmimkimaa
open Go.RowKit
set_option linter.unusedVariables false
set_option linter.unusedSimpArgs false

def ParsePost (w : World) (r : Pkt × Int) (x : Ending) (w' : World) : Prop := x = .returned (.tuple #[.agg (pktC r.1), .int .i64 r.2]) ∧ Below w.heap.size w w'
theorem one25 (p : Pkt) : ∀ v ∈ (pktC p).toList, v.oneCell' = true := by
  intro u hu; simp [pktC] at hu; rcases hu with rfl | rfl | rfl | rfl | rfl | rfl | rfl | rfl | rfl | rfl | rfl <;> rfl
theorem field_sums (W : World) (x y : Int) : (Instr.field 39 (.agg #[.int .i64 x, .int .i64 y]) 0).run Try.prog W = .ok (.int .i64 x) W := by kernel_rfl
set_option maxRecDepth 100000 in
set_option maxHeartbeats 8000000 in
theorem Parse_any (w : World) (s : ByteArray) (hs : s.size ≤ 140737488351232) :
    Calls Try.prog 11 #[.string s] w (ParsePost w (parseF s.data.toList (seemsP s))) := by
  have hok := okR_P s
  have hways := parse_ways s hok
  have hds := dat_seems s
  have HSe := Lib.hid (fun W => seems_any W s hs)
  obtain ⟨hu, a0, a1, b0, b1⟩ := hok
  generalize parseF s.data.toList (seemsP s) = R at *
  generalize seemsP s = sp at *
  obtain ⟨p, a, b⟩ := sp
  simp only at hways hds HSe hu a0 a1 b0 b1
  have HRi := Lib.hid (fun W => right_any W p hu)
  obtain ⟨a, rfl⟩ := Int.eq_ofNat_of_zero_le a0
  obtain ⟨b, rfl⟩ := Int.eq_ofNat_of_zero_le b0
  simp only [Int.toNat_natCast] at hways
  have one0 := one25 pkt0
  have oneP := one25 p
  rcases hways with ⟨_, t1, HR⟩ | ⟨_, t1, t2, HR⟩ | ⟨_, t1, t2, HW, t3, HR⟩ | ⟨_, t1, t2, HW, HL, nb, hb, tb, pb, HN, t4, t5, t6, HR⟩
  · clear HSe HRi hds
    go_enter Try.func11, Try.ntmps11
    go_upto_region 1 with fail
    refine one_box_wp ?_
    intro W hb1 hbel hsz
    have K : Hid (KR w.heap.size w [(w.heap.size, 25, pktC pkt0)] W) := Lib.hid ((KR.start hbel hbel.size).add hb1)
    clear hb1 hbel hsz
    go_wp2_with (first
      | (refine wpList_store_row rfl 25 _ _ rfl _ rfl (pktC pkt0) rfl _ _ (K.out.at 0 rfl) rfl (by kernel_rfl) one0 ?_)
      | fail)
    intro W7 hb7 hbar7
    have K1 := K.out.bar0 hbar7 hb7 (Nat.le_refl _) (by simp)
    clear hb7 hbar7 K
    go_wp2_with fail
    refine bodyPost_ret (v := .tuple #[.agg (pktC pkt0), .int .i64 44]) ?_ rfl ⟨?_, K1.below⟩
    · exact results_row_tmp (p := 2) (u := 3) rfl _ _ w.heap.size _ _ _ rfl (K1.at 0 rfl) Try.underlying25 rfl (by kernel_rfl)
    · rw [HR.out]
  all_goals
    go_enter Try.func11, Try.ntmps11
    go_upto_region 1 with fail
    refine one_box_wp ?_
    intro W hb1 hbel hsz
    have K : Hid (KR w.heap.size w [(w.heap.size, 25, pktC pkt0)] W) := Lib.hid ((KR.start hbel hbel.size).add hb1)
    clear hb1 hbel hsz
    go_wp2_with fail
    refine (HSe.out _).mono ?_
    rintro x w1 ⟨rfl, b1'⟩
    replace K := Lib.hid (K.out.call b1')
    clear b1' HSe
    have hlt := K.out.lt 0 rfl
    have L1 : Hid (∀ A B : Array Value, KR w.heap.size w [(w1.heap.size, 25, A), (w1.heap.size + 1, 39, B), (w.heap.size, 25, pktC pkt0)] ((w1.alloc (.cells A 25)).alloc (.cells B 39))) := Lib.hid (fun A B => by
      have h1 := (K.out.call ((Below.refl w1.heap.size w1).alloc (Nat.le_refl _) (.cells A 25))).add (BlkAt.new w1 25 A)
      have h2 := (h1.call ((Below.refl _ (w1.alloc (.cells A 25))).alloc (Nat.le_refl _) (.cells B 39))).add (BlkAt.new (w1.alloc (.cells A 25)) 39 B)
      rw [heap_alloc1] at h2
      exact h2.sub (by simp))
    go_wp2_with (first
      | (refine wpList_store_row rfl 25 _ _ rfl _ rfl (pktC p) rfl _ _ ((L1.out _ _).at 0 rfl) rfl (by kernel_rfl) oneP ?_)
      | fail)
    intro W2 hb2 hbar2
    have K2 := Lib.hid (((L1.out _ _).bar0 hbar2 hb2 (by omega) (by simp; omega)).sub (l' := [(w1.heap.size + 1, 39, #[.int .i64 0, .int .i64 0]), (w1.heap.size, 25, pktC p), (w.heap.size, 25, pktC pkt0)]) (by simp))
    clear hb2 hbar2 L1 K
    generalize w1.heap.size = gp at *
    go_wp2_with (first
      | (refine wpList_store_row rfl 39 _ _ rfl _ rfl #[.int .i64 a, .int .i64 b] rfl _ _ (K2.out.at 0 rfl) rfl (by kernel_rfl) (by intro u hu; simp at hu; rcases hu with rfl | rfl <;> rfl) ?_)
      | fail)
    intro W3 hb3 hbar3
    have K : Hid (KR w.heap.size w [(w.heap.size, 25, pktC pkt0), (gp, 25, pktC p), (gp + 1, 39, #[.int .i64 a, .int .i64 b])] W3) := Lib.hid ((K2.out.bar0 hbar3 hb3 (by omega) (by simp; omega)).sub (by simp))
    clear hb3 hbar3 K2
    go_wp2_with (first
      | (refine wpList_row 25 _ rfl (by rfl) _ _ rfl _ (run_loadVar_row _ _ _ 25 _ (0, 0) _ (K.out.at 1 rfl) Try.underlying25 rfl (by kernel_rfl)) ?_)
      | (refine wpList_row 39 _ rfl (by rfl) _ _ rfl _ (run_loadVar_row _ _ _ 39 _ (0, 0) _ (K.out.at 2 rfl) Try.underlying39 rfl (by kernel_rfl)) ?_)
      | fail)
    refine (HRi.out _).mono ?_
    rintro x w2 ⟨rfl, b2⟩
    replace K := Lib.hid (K.out.call b2)
    clear b2 HRi
  · clear hds hu a1 b1
    go_wp2_with (first
      | (refine wpList_store_row rfl 25 _ _ rfl _ rfl (pktC pkt0) rfl _ _ (K.out.at 0 rfl) rfl (by kernel_rfl) one0 ?_)
      | fail)
    intro W7 hb7 hbar7
    have KE := K.out.bar0 hbar7 hb7 (Nat.le_refl _) (by simp; omega)
    clear hb7 hbar7
    go_wp2_with fail
    refine bodyPost_ret (v := .tuple #[.agg (pktC pkt0), .int .i64 11]) ?_ rfl ⟨?_, KE.below⟩
    · exact results_row_tmp (p := 2) (u := 3) rfl _ _ w.heap.size _ _ _ rfl (KE.at 0 rfl) Try.underlying25 rfl (by kernel_rfl)
    · rw [HR.out]
  · have hle : (dat p).length ≤ 1500 := by have h := of_decide_eq_false t1; omega
    have HLa : Hid (∀ W : World, Calls Try.prog 15 #[.agg (pktC p), .agg #[.int .i64 a, .int .i64 b]] W fun x w' => x = .returned (.string (str (laidB p a b))) ∧ Below W.heap.size W w') := Lib.hid (fun W => laid_any W p a b HW.out hu hle (by omega) (by omega))
    clear hds hu a1 b1 HW hle
    go_wp2_with (first
      | (refine wpList_row 25 _ rfl (by rfl) _ _ rfl _ (run_loadVar_row _ _ _ 25 _ (0, 0) _ (K.out.at 1 rfl) Try.underlying25 rfl (by kernel_rfl)) ?_)
      | (refine wpList_row 39 _ rfl (by rfl) _ _ rfl _ (run_loadVar_row _ _ _ 39 _ (0, 0) _ (K.out.at 2 rfl) Try.underlying39 rfl (by kernel_rfl)) ?_)
      | fail)
    refine (HLa.out _).mono ?_
    rintro x w3 ⟨rfl, b3⟩
    replace K := Lib.hid (K.out.call b3)
    clear b3 HLa
    go_wp2_with (first
      | (refine wpList_store_row rfl 25 _ _ rfl _ rfl (pktC pkt0) rfl _ _ (K.out.at 0 rfl) rfl (by kernel_rfl) one0 ?_)
      | fail)
    intro W7 hb7 hbar7
    have KE := K.out.bar0 hbar7 hb7 (Nat.le_refl _) (by simp; omega)
    clear hb7 hbar7
    go_wp2_with fail
    refine bodyPost_ret (v := .tuple #[.agg (pktC pkt0), .int .i64 11]) ?_ rfl ⟨?_, KE.below⟩
    · exact results_row_tmp (p := 2) (u := 3) rfl _ _ w.heap.size _ _ _ rfl (KE.at 0 rfl) Try.underlying25 rfl (by kernel_rfl)
    · rw [HR.out]
  · have hle : (dat p).length ≤ 1500 := by have h := of_decide_eq_false t1; omega
    have HLa : Hid (∀ W : World, Calls Try.prog 15 #[.agg (pktC p), .agg #[.int .i64 a, .int .i64 b]] W fun x w' => x = .returned (.string (str (laidB p a b))) ∧ Below W.heap.size W w') := Lib.hid (fun W => laid_any W p a b HW.out hu hle (by omega) (by omega))
    have HSm : Hid (∀ W : World, Calls Try.prog 16 #[.agg (pktC p)] W fun x w' => x = .returned (.agg #[.int .i64 (sumA p), .int .i64 (sumB p)]) ∧ Below W.heap.size W w') := Lib.hid (fun W => summed_any W p (okW_of HW.out hle) hu)
    have HPo : Hid (∀ W : World, Calls Try.prog 21 #[.agg (pktC p)] W fun x w' => x = .returned (.bool (portedF p)) ∧ Below W.heap.size W w') := Lib.hid (fun W => ported_any W p)
    rw [HL.out] at HLa
    clear hds hu a1 b1 HW hle HL
    have tn : (s.toList == s.toList) = true := by simp
    go_wp2_with (first
      | (refine wpList_row 25 _ rfl (by rfl) _ _ rfl _ (run_loadVar_row _ _ _ 25 _ (0, 0) _ (K.out.at 1 rfl) Try.underlying25 rfl (by kernel_rfl)) ?_)
      | (refine wpList_row 39 _ rfl (by rfl) _ _ rfl _ (run_loadVar_row _ _ _ 39 _ (0, 0) _ (K.out.at 2 rfl) Try.underlying39 rfl (by kernel_rfl)) ?_)
      | fail)
    refine (HLa.out _).mono ?_
    rintro x w3 ⟨rfl, b3⟩
    replace K := Lib.hid (K.out.call b3)
    clear b3 HLa
    clear tn
    rw [t6] at HPo
    have hN : ∀ W : World, (binOp .neq 39 (.agg #[.int .i64 a, .int .i64 b]) (.agg #[.int .i64 (sumA p), .int .i64 (sumB p)])).run Try.prog W = .ok (.bool nb) W := by intro W; rw [neq_sums, HN.out]
    clear HN t6
    have hF := field_sums
    generalize sumA p = sa at *
    generalize sumB p = sb at *
    generalize portedF p = zz at *
    have hcase : (nb = false ∧ Hid (R = (p, 0))) ∨ (nb = true ∧ tb = false ∧ Hid (R = (p, 0))) ∨ (nb = true ∧ tb = true ∧ hb = true ∧ Hid (R = (pkt0, 13))) ∨ (nb = true ∧ tb = true ∧ hb = false ∧ pb = true ∧ Hid (R = (pkt0, 13))) ∨ (nb = true ∧ tb = true ∧ hb = false ∧ pb = false ∧ Hid (R = (p, 0))) := by
      have h := HR.out
      cases nb <;> cases tb <;> cases hb <;> cases pb <;> simp_all <;> exact Lib.hid h
    clear HR
    rcases hcase with ⟨rfl, HR⟩ | ⟨rfl, rfl, HR⟩ | ⟨rfl, rfl, rfl, HR⟩ | ⟨rfl, rfl, rfl, rfl, HR⟩ | ⟨rfl, rfl, rfl, rfl, HR⟩
    · haveI : Nonempty (Keep (KR w.heap.size w [(w.heap.size, 25, pktC pkt0), (gp, 25, pktC p), (gp + 1, 39, #[.int .i64 a, .int .i64 b])])) := ⟨⟨_, K.out⟩⟩
      have kc0 := fun q : Keep (KR w.heap.size w [(w.heap.size, 25, pktC pkt0), (gp, 25, pktC p), (gp + 1, 39, #[.int .i64 a, .int .i64 b])]) => (KR.at q.h 1 rfl).cell 3 _ (pktC_3 p)
      have kc1 := fun q : Keep (KR w.heap.size w [(w.heap.size, 25, pktC pkt0), (gp, 25, pktC p), (gp + 1, 39, #[.int .i64 a, .int .i64 b])]) => (KR.at q.h 2 rfl).cell 0 _ rfl
      go_upto_region 6 with fail
      refine wp_region_keep2 (Cl := KR w.heap.size w [(w.heap.size, 25, pktC pkt0), (gp, 25, pktC p), (gp + 1, 39, #[.int .i64 a, .int .i64 b])]) (by kernel_rfl) (by kernel_rfl) K.out.drew ?_
      intro y' hy'
      have g4_ := fun tmps => hy' tmps 4 32 rfl
      have g9_ := fun tmps => hy' tmps 9 37 rfl
      have g16_ := fun tmps => hy' tmps 16 44 rfl
      have gb_ := yl_bool
      clear hy' K
      repeat
        first
          | (refine wpQ2_rowk _ _ rfl _ (fun W h => run_loadVar_row W _ _ 25 _ (0, 0) _ (KR.at h 1 rfl) Try.underlying25 rfl (by kernel_rfl)) ?_ ?_
             · (go_simp; done))
          | (refine wpQ2_rowk _ _ rfl _ (fun W h => run_loadVar_row W _ _ 39 _ (0, 0) _ (KR.at h 2 rfl) Try.underlying39 rfl (by kernel_rfl)) ?_ ?_
             · (go_simp; done))
          | (refine wpQ2_step (fun K hK => ?_)
             go_simp
             first
               | (refine hK _ ?_; clear hK K)
               | (apply Exists.intro
                  refine ⟨fun _ => ?_, hK _ ?_⟩
                  (rw [if_neg (by omega)]; exact ⟨rfl, rfl⟩)
                  clear hK K)
               | (apply Exists.intro
                  refine ⟨fun _ => ?_, hK _ ?_⟩
                  ((with_reducible refine Calls.keep (HSm.out _) ?_); exact (fun w' hb => KR.call (Keep.h _) hb))
                  clear hK K)
               | (apply Exists.intro
                  refine ⟨fun _ => ?_, hK _ ?_⟩
                  ((with_reducible refine Calls.keep (HPo.out _) ?_); exact (fun w' hb => KR.call (Keep.h _) hb))
                  clear hK K))
      refine wpQ2_nil ?_
      clear kc0 kc1
      intro Wk Kk
      have K := Lib.hid Kk
      clear Kk
      clear gb_ g4_ g9_ g16_
      clear hN t4 t5 hF
      go_wp2_with (first
        | (refine wpList_row 25 _ rfl (by rfl) _ _ rfl _ (run_loadVar_row _ _ _ 25 _ (0, 0) _ (K.out.at 1 rfl) Try.underlying25 rfl (by kernel_rfl)) ?_)
        | (refine wpList_store_row rfl 25 _ _ rfl _ rfl (pktC p) rfl _ _ (K.out.at 0 rfl) rfl (by kernel_rfl) oneP ?_)
        | fail)
      intro W8 hb8 hbar8
      have KE := K.out.bar0 hbar8 hb8 (Nat.le_refl _) (by simp; omega)
      clear hb8 hbar8
      go_wp2_with fail
      refine bodyPost_ret (v := .tuple #[.agg (pktC p), .int .i64 0]) ?_ rfl ⟨?_, KE.below⟩
      · exact results_row_tmp (p := 2) (u := 3) rfl _ _ w.heap.size _ _ _ rfl (KE.at 0 rfl) Try.underlying25 rfl (by kernel_rfl)
      · rw [HR.out]
    · haveI : Nonempty (Keep (KR w.heap.size w [(w.heap.size, 25, pktC pkt0), (gp, 25, pktC p), (gp + 1, 39, #[.int .i64 a, .int .i64 b])])) := ⟨⟨_, K.out⟩⟩
      have kc0 := fun q : Keep (KR w.heap.size w [(w.heap.size, 25, pktC pkt0), (gp, 25, pktC p), (gp + 1, 39, #[.int .i64 a, .int .i64 b])]) => (KR.at q.h 1 rfl).cell 3 _ (pktC_3 p)
      have kc1 := fun q : Keep (KR w.heap.size w [(w.heap.size, 25, pktC pkt0), (gp, 25, pktC p), (gp + 1, 39, #[.int .i64 a, .int .i64 b])]) => (KR.at q.h 2 rfl).cell 0 _ rfl
      go_upto_region 6 with fail
      refine wp_region_keep2 (Cl := KR w.heap.size w [(w.heap.size, 25, pktC pkt0), (gp, 25, pktC p), (gp + 1, 39, #[.int .i64 a, .int .i64 b])]) (by kernel_rfl) (by kernel_rfl) K.out.drew ?_
      intro y' hy'
      have g4_ := fun tmps => hy' tmps 4 32 rfl
      have g9_ := fun tmps => hy' tmps 9 37 rfl
      have g16_ := fun tmps => hy' tmps 16 44 rfl
      have gb_ := yl_bool
      clear hy' K
      repeat
        first
          | (refine wpQ2_rowk _ _ rfl _ (fun W h => run_loadVar_row W _ _ 25 _ (0, 0) _ (KR.at h 1 rfl) Try.underlying25 rfl (by kernel_rfl)) ?_ ?_
             · (go_simp; done))
          | (refine wpQ2_rowk _ _ rfl _ (fun W h => run_loadVar_row W _ _ 39 _ (0, 0) _ (KR.at h 2 rfl) Try.underlying39 rfl (by kernel_rfl)) ?_ ?_
             · (go_simp; done))
          | (refine wpQ2_step (fun K hK => ?_)
             go_simp
             first
               | (refine hK _ ?_; clear hK K)
               | (apply Exists.intro
                  refine ⟨fun _ => ?_, hK _ ?_⟩
                  (rw [if_neg (by omega)]; exact ⟨rfl, rfl⟩)
                  clear hK K)
               | (apply Exists.intro
                  refine ⟨fun _ => ?_, hK _ ?_⟩
                  ((with_reducible refine Calls.keep (HSm.out _) ?_); exact (fun w' hb => KR.call (Keep.h _) hb))
                  clear hK K)
               | (apply Exists.intro
                  refine ⟨fun _ => ?_, hK _ ?_⟩
                  ((with_reducible refine Calls.keep (HPo.out _) ?_); exact (fun w' hb => KR.call (Keep.h _) hb))
                  clear hK K))
      refine wpQ2_nil ?_
      clear kc0 kc1
      intro Wk Kk
      have K := Lib.hid Kk
      clear Kk
      clear gb_ g4_ g9_ g16_
      clear hN t4 t5 hF
      go_wp2_with (first
        | (refine wpList_row 25 _ rfl (by rfl) _ _ rfl _ (run_loadVar_row _ _ _ 25 _ (0, 0) _ (K.out.at 1 rfl) Try.underlying25 rfl (by kernel_rfl)) ?_)
        | (refine wpList_store_row rfl 25 _ _ rfl _ rfl (pktC p) rfl _ _ (K.out.at 0 rfl) rfl (by kernel_rfl) oneP ?_)
        | fail)
      intro W8 hb8 hbar8
      have KE := K.out.bar0 hbar8 hb8 (Nat.le_refl _) (by simp; omega)
      clear hb8 hbar8
      go_wp2_with fail
      refine bodyPost_ret (v := .tuple #[.agg (pktC p), .int .i64 0]) ?_ rfl ⟨?_, KE.below⟩
      · exact results_row_tmp (p := 2) (u := 3) rfl _ _ w.heap.size _ _ _ rfl (KE.at 0 rfl) Try.underlying25 rfl (by kernel_rfl)
      · rw [HR.out]
    · haveI : Nonempty (Keep (KR w.heap.size w [(w.heap.size, 25, pktC pkt0), (gp, 25, pktC p), (gp + 1, 39, #[.int .i64 a, .int .i64 b])])) := ⟨⟨_, K.out⟩⟩
      have kc0 := fun q : Keep (KR w.heap.size w [(w.heap.size, 25, pktC pkt0), (gp, 25, pktC p), (gp + 1, 39, #[.int .i64 a, .int .i64 b])]) => (KR.at q.h 1 rfl).cell 3 _ (pktC_3 p)
      have kc1 := fun q : Keep (KR w.heap.size w [(w.heap.size, 25, pktC pkt0), (gp, 25, pktC p), (gp + 1, 39, #[.int .i64 a, .int .i64 b])]) => (KR.at q.h 2 rfl).cell 0 _ rfl
      go_upto_region 6 with fail
      refine wp_region_keep2 (Cl := KR w.heap.size w [(w.heap.size, 25, pktC pkt0), (gp, 25, pktC p), (gp + 1, 39, #[.int .i64 a, .int .i64 b])]) (by kernel_rfl) (by kernel_rfl) K.out.drew ?_
      intro y' hy'
      have g4_ := fun tmps => hy' tmps 4 32 rfl
      have g9_ := fun tmps => hy' tmps 9 37 rfl
      have g16_ := fun tmps => hy' tmps 16 44 rfl
      have gb_ := yl_bool
      clear hy' K
      repeat
        first
          | (refine wpQ2_rowk _ _ rfl _ (fun W h => run_loadVar_row W _ _ 25 _ (0, 0) _ (KR.at h 1 rfl) Try.underlying25 rfl (by kernel_rfl)) ?_ ?_
             · (go_simp; done))
          | (refine wpQ2_rowk _ _ rfl _ (fun W h => run_loadVar_row W _ _ 39 _ (0, 0) _ (KR.at h 2 rfl) Try.underlying39 rfl (by kernel_rfl)) ?_ ?_
             · (go_simp; done))
          | (refine wpQ2_step (fun K hK => ?_)
             go_simp
             first
               | (refine hK _ ?_; clear hK K)
               | (apply Exists.intro
                  refine ⟨fun _ => ?_, hK _ ?_⟩
                  (rw [if_neg (by omega)]; exact ⟨rfl, rfl⟩)
                  clear hK K)
               | (apply Exists.intro
                  refine ⟨fun _ => ?_, hK _ ?_⟩
                  ((with_reducible refine Calls.keep (HSm.out _) ?_); exact (fun w' hb => KR.call (Keep.h _) hb))
                  clear hK K)
               | (apply Exists.intro
                  refine ⟨fun _ => ?_, hK _ ?_⟩
                  ((with_reducible refine Calls.keep (HPo.out _) ?_); exact (fun w' hb => KR.call (Keep.h _) hb))
                  clear hK K))
      refine wpQ2_nil ?_
      clear kc0 kc1
      intro Wk Kk
      have K := Lib.hid Kk
      clear Kk
      clear gb_ g4_ g9_ g16_
      clear hN t4 t5 hF
      go_wp2_with (first
        | (refine wpList_store_row rfl 25 _ _ rfl _ rfl (pktC pkt0) rfl _ _ (K.out.at 0 rfl) rfl (by kernel_rfl) one0 ?_)
        | fail)
      intro W8 hb8 hbar8
      have KE := K.out.bar0 hbar8 hb8 (Nat.le_refl _) (by simp; omega)
      clear hb8 hbar8
      go_wp2_with fail
      refine bodyPost_ret (v := .tuple #[.agg (pktC pkt0), .int .i64 13]) ?_ rfl ⟨?_, KE.below⟩
      · exact results_row_tmp (p := 2) (u := 3) rfl _ _ w.heap.size _ _ _ rfl (KE.at 0 rfl) Try.underlying25 rfl (by kernel_rfl)
      · rw [HR.out]
    · haveI : Nonempty (Keep (KR w.heap.size w [(w.heap.size, 25, pktC pkt0), (gp, 25, pktC p), (gp + 1, 39, #[.int .i64 a, .int .i64 b])])) := ⟨⟨_, K.out⟩⟩
      have kc0 := fun q : Keep (KR w.heap.size w [(w.heap.size, 25, pktC pkt0), (gp, 25, pktC p), (gp + 1, 39, #[.int .i64 a, .int .i64 b])]) => (KR.at q.h 1 rfl).cell 3 _ (pktC_3 p)
      have kc1 := fun q : Keep (KR w.heap.size w [(w.heap.size, 25, pktC pkt0), (gp, 25, pktC p), (gp + 1, 39, #[.int .i64 a, .int .i64 b])]) => (KR.at q.h 2 rfl).cell 0 _ rfl
      go_upto_region 6 with fail
      refine wp_region_keep2 (Cl := KR w.heap.size w [(w.heap.size, 25, pktC pkt0), (gp, 25, pktC p), (gp + 1, 39, #[.int .i64 a, .int .i64 b])]) (by kernel_rfl) (by kernel_rfl) K.out.drew ?_
      intro y' hy'
      have g4_ := fun tmps => hy' tmps 4 32 rfl
      have g9_ := fun tmps => hy' tmps 9 37 rfl
      have g16_ := fun tmps => hy' tmps 16 44 rfl
      have gb_ := yl_bool
      clear hy' K
      repeat
        first
          | (refine wpQ2_rowk _ _ rfl _ (fun W h => run_loadVar_row W _ _ 25 _ (0, 0) _ (KR.at h 1 rfl) Try.underlying25 rfl (by kernel_rfl)) ?_ ?_
             · (go_simp; done))
          | (refine wpQ2_rowk _ _ rfl _ (fun W h => run_loadVar_row W _ _ 39 _ (0, 0) _ (KR.at h 2 rfl) Try.underlying39 rfl (by kernel_rfl)) ?_ ?_
             · (go_simp; done))
          | (refine wpQ2_step (fun K hK => ?_)
             go_simp
             first
               | (refine hK _ ?_; clear hK K)
               | (apply Exists.intro
                  refine ⟨fun _ => ?_, hK _ ?_⟩
                  (rw [if_neg (by omega)]; exact ⟨rfl, rfl⟩)
                  clear hK K)
               | (apply Exists.intro
                  refine ⟨fun _ => ?_, hK _ ?_⟩
                  ((with_reducible refine Calls.keep (HSm.out _) ?_); exact (fun w' hb => KR.call (Keep.h _) hb))
                  clear hK K)
               | (apply Exists.intro
                  refine ⟨fun _ => ?_, hK _ ?_⟩
                  ((with_reducible refine Calls.keep (HPo.out _) ?_); exact (fun w' hb => KR.call (Keep.h _) hb))
                  clear hK K))
      refine wpQ2_nil ?_
      clear kc0 kc1
      intro Wk Kk
      have K := Lib.hid Kk
      clear Kk
      clear gb_ g4_ g9_ g16_
      clear hN t4 t5 hF
      go_wp2_with (first
        | (refine wpList_store_row rfl 25 _ _ rfl _ rfl (pktC pkt0) rfl _ _ (K.out.at 0 rfl) rfl (by kernel_rfl) one0 ?_)
        | fail)
      intro W8 hb8 hbar8
      have KE := K.out.bar0 hbar8 hb8 (Nat.le_refl _) (by simp; omega)
      clear hb8 hbar8
      go_wp2_with fail
      refine bodyPost_ret (v := .tuple #[.agg (pktC pkt0), .int .i64 13]) ?_ rfl ⟨?_, KE.below⟩
      · exact results_row_tmp (p := 2) (u := 3) rfl _ _ w.heap.size _ _ _ rfl (KE.at 0 rfl) Try.underlying25 rfl (by kernel_rfl)
      · rw [HR.out]
    · haveI : Nonempty (Keep (KR w.heap.size w [(w.heap.size, 25, pktC pkt0), (gp, 25, pktC p), (gp + 1, 39, #[.int .i64 a, .int .i64 b])])) := ⟨⟨_, K.out⟩⟩
      have kc0 := fun q : Keep (KR w.heap.size w [(w.heap.size, 25, pktC pkt0), (gp, 25, pktC p), (gp + 1, 39, #[.int .i64 a, .int .i64 b])]) => (KR.at q.h 1 rfl).cell 3 _ (pktC_3 p)
      have kc1 := fun q : Keep (KR w.heap.size w [(w.heap.size, 25, pktC pkt0), (gp, 25, pktC p), (gp + 1, 39, #[.int .i64 a, .int .i64 b])]) => (KR.at q.h 2 rfl).cell 0 _ rfl
      go_upto_region 6 with fail
      refine wp_region_keep2 (Cl := KR w.heap.size w [(w.heap.size, 25, pktC pkt0), (gp, 25, pktC p), (gp + 1, 39, #[.int .i64 a, .int .i64 b])]) (by kernel_rfl) (by kernel_rfl) K.out.drew ?_
      intro y' hy'
      have g4_ := fun tmps => hy' tmps 4 32 rfl
      have g9_ := fun tmps => hy' tmps 9 37 rfl
      have g16_ := fun tmps => hy' tmps 16 44 rfl
      have gb_ := yl_bool
      clear hy' K
      repeat
        first
          | (refine wpQ2_rowk _ _ rfl _ (fun W h => run_loadVar_row W _ _ 25 _ (0, 0) _ (KR.at h 1 rfl) Try.underlying25 rfl (by kernel_rfl)) ?_ ?_
             · (go_simp; done))
          | (refine wpQ2_rowk _ _ rfl _ (fun W h => run_loadVar_row W _ _ 39 _ (0, 0) _ (KR.at h 2 rfl) Try.underlying39 rfl (by kernel_rfl)) ?_ ?_
             · (go_simp; done))
          | (refine wpQ2_step (fun K hK => ?_)
             go_simp
             first
               | (refine hK _ ?_; clear hK K)
               | (apply Exists.intro
                  refine ⟨fun _ => ?_, hK _ ?_⟩
                  (rw [if_neg (by omega)]; exact ⟨rfl, rfl⟩)
                  clear hK K)
               | (apply Exists.intro
                  refine ⟨fun _ => ?_, hK _ ?_⟩
                  ((with_reducible refine Calls.keep (HSm.out _) ?_); exact (fun w' hb => KR.call (Keep.h _) hb))
                  clear hK K)
               | (apply Exists.intro
                  refine ⟨fun _ => ?_, hK _ ?_⟩
                  ((with_reducible refine Calls.keep (HPo.out _) ?_); exact (fun w' hb => KR.call (Keep.h _) hb))
                  clear hK K))
      refine wpQ2_nil ?_
      clear kc0 kc1
      intro Wk Kk
      have K := Lib.hid Kk
      clear Kk
      clear gb_ g4_ g9_ g16_
      clear hN t4 t5 hF
      go_wp2_with (first
        | (refine wpList_row 25 _ rfl (by rfl) _ _ rfl _ (run_loadVar_row _ _ _ 25 _ (0, 0) _ (K.out.at 1 rfl) Try.underlying25 rfl (by kernel_rfl)) ?_)
        | (refine wpList_store_row rfl 25 _ _ rfl _ rfl (pktC p) rfl _ _ (K.out.at 0 rfl) rfl (by kernel_rfl) oneP ?_)
        | fail)
      intro W8 hb8 hbar8
      have KE := K.out.bar0 hbar8 hb8 (Nat.le_refl _) (by simp; omega)
      clear hb8 hbar8
      go_wp2_with fail
      refine bodyPost_ret (v := .tuple #[.agg (pktC p), .int .i64 0]) ?_ rfl ⟨?_, KE.below⟩
      · exact results_row_tmp (p := 2) (u := 3) rfl _ _ w.heap.size _ _ _ rfl (KE.at 0 rfl) Try.underlying25 rfl (by kernel_rfl)
      · rw [HR.out]
end Go.Proofs.Ythihncfmimkimaa
