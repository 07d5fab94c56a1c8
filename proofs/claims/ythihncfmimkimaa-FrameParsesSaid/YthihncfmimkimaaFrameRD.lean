/- The reference's part, head, sums, with. -/
import Derived.Test.YthihncfmimkimaaFrameRB
import Derived.Test.YthihncfmimkimaaSumW
namespace Go.Proofs.Ythihncfmimkimaa
open Go.RowKit
set_option linter.unusedVariables false
set_option linter.unusedSimpArgs false

set_option maxRecDepth 100000 in
set_option maxHeartbeats 4000000 in
theorem rpart_any (w : World) (p : Pkt) (s : Nat) (hw : okW p) (hs : s < 65536) :
    Calls Try.prog 32 #[valPkt p, .int .i64 s] w fun x w' => x = .returned (.string (str (partB p s))) ∧ Below w.heap.size w w' := by
  obtain ⟨_, _, s0, s1, h5⟩ := hw
  have HP1 := Lib.hid (fun W => r3Put_any W p.fSport 2 s0.1 (by decide) (by decide))
  have HP2 := Lib.hid (fun W => r3Put_any W p.fDport 2 s1.1 (by decide) (by decide))
  have HP3 := Lib.hid (fun W => r3len_put W (dat p).length 8)
  have HP4 := Lib.hid (fun W => r3Put_nat W s 2 (by decide) (by decide))
  have q1 := u64_id s0.1 (by omega)
  have q2 := u64_id s1.1 (by omega)
  have q3 := u64_id (n := 8 + ((dat p).length : Int)) (by omega) (by omega)
  have q4 := i64_id (n := 8 + ((dat p).length : Int)) (by omega) (by omega)
  have q5 := u64_id (n := (s : Int)) (by omega) (by omega)
  have hc : (∃ x : Unit, (p.fProto == 17) = true ∧ Hid (partB p s = (beL 2 p.fSport.toNat ++ beL 2 p.fDport.toNat) ++ (beL 2 (8 + (dat p).length) ++ (beL 2 s ++ dat p)))) ∨
      (∃ x : Unit, (p.fProto == 17) = false ∧ (p.fProto == 6) = true ∧ Hid (partB p s = (beL 2 p.fSport.toNat ++ beL 2 p.fDport.toNat) ++ (tailB ++ (beL 2 s ++ (0 :: 0 :: dat p))))) ∨
      (∃ x : Unit, (p.fProto == 17) = false ∧ (p.fProto == 6) = false ∧ Hid (partB p s = dat p)) := by
    by_cases h : p.fProto = 17
    · exact .inl ⟨(), by simpa using h, Lib.hid (by unfold partB portsB; rw [if_pos h])⟩
    · by_cases h6 : p.fProto = 6
      · exact .inr (.inl ⟨(), by simpa using h, by simpa using h6, Lib.hid (by unfold partB portsB; rw [if_neg h, if_pos h6])⟩)
      · exact .inr (.inr ⟨(), by simpa using h, by simpa using h6, Lib.hid (by unfold partB portsB; rw [if_neg h, if_neg h6])⟩)
  generalize partB p s = R at *
  clear s0 s1
  go_enter Try.func32, Try.ntmps32
  go_upto_region 1 with fail
  refine one_box_wp ?_
  intro W hb1 hbel hsz
  have K : Hid (KR w.heap.size w [(w.heap.size, 25, pktC p)] W) := Lib.hid ((KR.start hbel hbel.size).add hb1)
  clear hb1 hbel hsz
  haveI : Nonempty (Keep (KR w.heap.size w [(w.heap.size, 25, pktC p)])) := ⟨⟨_, K.out⟩⟩
  have kc0 := fun q : Keep (KR w.heap.size w [(w.heap.size, 25, pktC p)]) => (KR.at q.h 0 rfl).cell 8 _ (pktC_8 p)
  have kc1 := fun q : Keep (KR w.heap.size w [(w.heap.size, 25, pktC p)]) => (KR.at q.h 0 rfl).cell 9 _ (pktC_9 p)
  go_upto_region 1 with fail
  refine wp_region_keep2 (Cl := KR w.heap.size w [(w.heap.size, 25, pktC p)]) (by kernel_rfl) (by kernel_rfl) K.out.drew ?_
  intro y' hy'
  clear hy' K
  repeat
    first
      | (refine wpQ2_step (fun K hK => ?_)
         go_simp
         first
           | (refine hK _ ?_; clear hK K)
           | (apply Exists.intro
              refine ⟨fun _ => ?_, hK _ ?_⟩
              (rw [if_neg (by omega)]; exact ⟨rfl, rfl⟩)
              clear hK K)
           | (apply Exists.intro
              refine ⟨fun _ => ?_, hK _ ?_⟩
              ((with_reducible refine Calls.keep (HP1.out _) ?_); exact (fun w' hb => KR.call (Keep.h _) hb))
              clear hK K)
           | (apply Exists.intro
              refine ⟨fun _ => ?_, hK _ ?_⟩
              ((with_reducible refine Calls.keep (HP2.out _) ?_); exact (fun w' hb => KR.call (Keep.h _) hb))
              clear hK K))
  refine wpQ2_nil ?_
  clear kc0 kc1
  intro Wk Kk
  have K := Lib.hid Kk
  clear Kk
  have c7 := (K.out.at 0 rfl).cell 7 _ (pktC_7 p)
  clear q1 q2 HP1 HP2
  rcases hc with ⟨_, t1, HR⟩ | ⟨_, t1, t2, HR⟩ | ⟨_, t1, t2, HR⟩
  · haveI : Nonempty (Keep (KR w.heap.size w [(w.heap.size, 25, pktC p)])) := ⟨⟨_, K.out⟩⟩
    have kc0 := fun q : Keep (KR w.heap.size w [(w.heap.size, 25, pktC p)]) => (KR.at q.h 0 rfl).cell 10 _ (pktC_10s p)
    go_upto_region 3 with fail
    refine wp_region_keep2 (Cl := KR w.heap.size w [(w.heap.size, 25, pktC p)]) (by kernel_rfl) (by kernel_rfl) K.out.drew ?_
    intro y' hy'
    clear hy' K
    repeat
      first
        | (refine wpQ2_step (fun K hK => ?_)
           go_simp
           first
             | (refine hK _ ?_; clear hK K)
             | (apply Exists.intro
                refine ⟨fun _ => ?_, hK _ ?_⟩
                (rw [if_neg (by omega)]; exact ⟨rfl, rfl⟩)
                clear hK K)
             | (apply Exists.intro
                refine ⟨fun _ => ?_, hK _ ?_⟩
                ((with_reducible refine Calls.keep (HP3.out _) ?_); exact (fun w' hb => KR.call (Keep.h _) hb))
                clear hK K)
             | (apply Exists.intro
                refine ⟨fun _ => ?_, hK _ ?_⟩
                ((with_reducible refine Calls.keep (HP4.out _) ?_); exact (fun w' hb => KR.call (Keep.h _) hb))
                clear hK K))
    refine wpQ2_nil ?_
    clear kc0
    intro Wk Kk
    have K := Lib.hid Kk
    clear Kk
    go_wp2_with fail
    go_ret
    refine ⟨ret_str ?_, K.out.below⟩
    rw [HR.out]; simp
  · haveI : Nonempty (Keep (KR w.heap.size w [(w.heap.size, 25, pktC p)])) := ⟨⟨_, K.out⟩⟩
    have kc0 := fun q : Keep (KR w.heap.size w [(w.heap.size, 25, pktC p)]) => (KR.at q.h 0 rfl).cell 10 _ (pktC_10s p)
    go_upto_region 5 with fail
    refine wp_region_keep2 (Cl := KR w.heap.size w [(w.heap.size, 25, pktC p)]) (by kernel_rfl) (by kernel_rfl) K.out.drew ?_
    intro y' hy'
    clear hy' K
    repeat
      first
        | (refine wpQ2_step (fun K hK => ?_)
           go_simp
           first
             | (refine hK _ ?_; clear hK K)
             | (apply Exists.intro
                refine ⟨fun _ => ?_, hK _ ?_⟩
                (rw [if_neg (by omega)]; exact ⟨rfl, rfl⟩)
                clear hK K)
             | (apply Exists.intro
                refine ⟨fun _ => ?_, hK _ ?_⟩
                ((with_reducible refine Calls.keep (HP4.out _) ?_); exact (fun w' hb => KR.call (Keep.h _) hb))
                clear hK K))
    refine wpQ2_nil ?_
    clear kc0
    intro Wk Kk
    have K := Lib.hid Kk
    clear Kk
    go_wp2_with fail
    go_ret
    refine ⟨ret_str ?_, K.out.below⟩
    rw [HR.out]
    unfold tailB
    simp only [bs_mk, str_append, List.append_assoc]
    rfl
  · have c10 := (K.out.at 0 rfl).cell 10 _ (pktC_10s p)
    go_wp2_with fail
    go_ret
    refine ⟨ret_str ?_, K.out.below⟩
    rw [HR.out]

set_option maxRecDepth 100000 in
set_option maxHeartbeats 4000000 in
theorem rhead_any (w : World) (p : Pkt) (n a : Nat) (hw : okW p) (hu : okU p) (hn : n ≤ 2000) (ha : a < 65536) :
    Calls Try.prog 34 #[valPkt p, .int .i64 ((20 : Int) + n), .int .i64 a] w fun x w' => x = .returned (.string (str (headB p n a))) ∧ Below w.heap.size w w' := by
  obtain ⟨l0, l1, _, _, h5⟩ := hw
  obtain ⟨_, _, u1, u2, u3, u4⟩ := hu
  have HP1 := Lib.hid (fun W => r3len_put W n 20)
  have HP2 := Lib.hid (fun W => r3Put_any W p.fLife 1 l0.1 (by decide) (by decide))
  have HP3 := Lib.hid (fun W => r3Put_any W p.fProto 1 l1.1 (by decide) (by decide))
  have HP4 := Lib.hid (fun W => r3Put_nat W a 2 (by decide) (by decide))
  have HP5 := Lib.hid (fun W => r3Put_any W p.fSrc 4 u1 (by decide) (by decide))
  have HP6 := Lib.hid (fun W => r3Put_any W p.fDst 4 u3 (by decide) (by decide))
  have q1 := u64_id (n := 20 + (n : Int)) (by omega) (by omega)
  have q3 := u64_id l0.1 (by omega)
  have q4 := u64_id l1.1 (by omega)
  have q5 := u64_id (n := (a : Int)) (by omega) (by omega)
  have q6 := u64_id u1 (by omega)
  have q7 := u64_id u3 (by omega)
  clear l0 l1 u1 u2 u3 u4
  have HR : Hid (headB p n a = 69 :: 0 :: (beL 2 (20 + n) ++ (0 :: 0 :: 0 :: 0 :: (beL 1 p.fLife.toNat ++ (beL 1 p.fProto.toNat ++ (beL 2 a ++ (beL 4 p.fSrc.toNat ++ beL 4 p.fDst.toNat))))))) := Lib.hid rfl
  generalize headB p n a = R at *
  go_enter Try.func34, Try.ntmps34
  go_upto_region 1 with fail
  refine one_box_wp ?_
  intro W hb1 hbel hsz
  have K : Hid (KR w.heap.size w [(w.heap.size, 25, pktC p)] W) := Lib.hid ((KR.start hbel hbel.size).add hb1)
  clear hb1 hbel hsz
  haveI : Nonempty (Keep (KR w.heap.size w [(w.heap.size, 25, pktC p)])) := ⟨⟨_, K.out⟩⟩
  have kc0 := fun q : Keep (KR w.heap.size w [(w.heap.size, 25, pktC p)]) => (KR.at q.h 0 rfl).cell 6 _ (pktC_6 p)
  have kc1 := fun q : Keep (KR w.heap.size w [(w.heap.size, 25, pktC p)]) => (KR.at q.h 0 rfl).cell 7 _ (pktC_7 p)
  have kc2 := fun q : Keep (KR w.heap.size w [(w.heap.size, 25, pktC p)]) => (KR.at q.h 0 rfl).cell 4 _ (pktC_4 p)
  have kc3 := fun q : Keep (KR w.heap.size w [(w.heap.size, 25, pktC p)]) => (KR.at q.h 0 rfl).cell 5 _ (pktC_5 p)
  go_upto_region 1 with fail
  refine wp_region_keep2 (Cl := KR w.heap.size w [(w.heap.size, 25, pktC p)]) (by kernel_rfl) (by kernel_rfl) K.out.drew ?_
  intro y' hy'
  clear hy' K
  repeat
    first
      | (refine wpQ2_step (fun K hK => ?_)
         go_simp
         first
           | (refine hK _ ?_; clear hK K)
           | (apply Exists.intro
              refine ⟨fun _ => ?_, hK _ ?_⟩
              (rw [if_neg (by omega)]; exact ⟨rfl, rfl⟩)
              clear hK K)
           | (apply Exists.intro
              refine ⟨fun _ => ?_, hK _ ?_⟩
              ((with_reducible refine Calls.keep (HP1.out _) ?_); exact (fun w' hb => KR.call (Keep.h _) hb))
              clear hK K)
           | (apply Exists.intro
              refine ⟨fun _ => ?_, hK _ ?_⟩
              ((with_reducible refine Calls.keep (HP2.out _) ?_); exact (fun w' hb => KR.call (Keep.h _) hb))
              clear hK K)
           | (apply Exists.intro
              refine ⟨fun _ => ?_, hK _ ?_⟩
              ((with_reducible refine Calls.keep (HP3.out _) ?_); exact (fun w' hb => KR.call (Keep.h _) hb))
              clear hK K)
           | (apply Exists.intro
              refine ⟨fun _ => ?_, hK _ ?_⟩
              ((with_reducible refine Calls.keep (HP4.out _) ?_); exact (fun w' hb => KR.call (Keep.h _) hb))
              clear hK K)
           | (apply Exists.intro
              refine ⟨fun _ => ?_, hK _ ?_⟩
              ((with_reducible refine Calls.keep (HP5.out _) ?_); exact (fun w' hb => KR.call (Keep.h _) hb))
              clear hK K)
           | (apply Exists.intro
              refine ⟨fun _ => ?_, hK _ ?_⟩
              ((with_reducible refine Calls.keep (HP6.out _) ?_); exact (fun w' hb => KR.call (Keep.h _) hb))
              clear hK K))
  refine wpQ2_nil ?_
  clear kc0 kc1 kc2 kc3
  intro Wk Kk
  have K := Lib.hid Kk
  clear Kk
  go_wp2_with fail
  go_ret
  refine ⟨ret_str ?_, K.out.below⟩
  rw [HR.out]
  simp only [bs_mk, str_append, List.append_assoc]
  rfl

theorem rsum_str (W : World) (l : List UInt8) (h : l.length ≤ 1000000) : Calls Try.prog 33 #[.string (str l)] W fun x w' => x = .returned (.int .i64 (sumR l)) ∧ Below W.heap.size W w' :=
  (rSum_any W (str l) (by rw [str_size]; exact h)).mono fun _ _ ⟨h, e⟩ => ⟨h, e ▸ Below.refl _ _⟩
theorem be2_1 (n : Nat) (h : n ≤ 255) : beL 2 n = 0 :: beL 1 n := by
  simp only [beL]
  rw [show n / 256 ^ 1 = 0 by omega]
  rfl
set_option maxRecDepth 100000 in
set_option maxHeartbeats 1000000 in
theorem rsums_any (w : World) (p : Pkt) (hw : okW p) (hu : okU p) :
    Calls Try.prog 18 #[valPkt p] w fun x w' => x = .returned (.tuple #[.int .i64 (sumA p), .int .i64 (sumB p)]) ∧ Below w.heap.size w w' := by
  have hpl : (partB p 0).length ≤ 1520 := by
    have h1 := partB_len p 0
    have h2 := hw.2.2.2.2
    split at h1 <;> (try split at h1) <;> omega
  have H1 := Lib.hid (fun W => rpart_any W p 0 hw (by decide))
  have H2 := Lib.hid (fun W => rhead_any W p (partB p 0).length 0 hw hu (by omega) (by decide))
  have H3 := Lib.hid (fun W => rsum_str W (headB p (partB p 0).length 0) (by rw [headB_len]; decide))
  have hc : (∃ x : Unit, (p.fProto == 17) = true ∧ (((sumR (pseudoB p) : Nat) : Int) == 0) = true ∧ Hid (sumB p = 65535)) ∨
      (∃ x : Unit, (p.fProto == 17) = true ∧ (((sumR (pseudoB p) : Nat) : Int) == 0) = false ∧ Hid (sumB p = sumR (pseudoB p))) ∨
      (∃ x : Unit, (p.fProto == 17) = false ∧ Hid (sumB p = sumR (pseudoB p))) := by
    unfold sumB
    by_cases h : p.fProto = 17
    · by_cases h0 : sumR (pseudoB p) = 0
      · exact .inl ⟨(), by simpa using h, by rw [h0]; rfl, Lib.hid (by rw [if_pos ⟨h, h0⟩])⟩
      · exact .inr (.inl ⟨(), by simpa using h, beq_eq_false_iff_ne.mpr (by omega), Lib.hid (by rw [if_neg (fun e => h0 e.2)])⟩)
    · exact .inr (.inr ⟨(), by simpa using h, Lib.hid (by rw [if_neg (fun e => h e.1)])⟩)
  have HA : Hid (sumR (headB p (partB p 0).length 0) = sumA p) := Lib.hid rfl
  obtain ⟨_, l1, _, _, h5⟩ := hw
  have HPs : Hid (pseudoB p = beL 4 p.fSrc.toNat ++ (beL 4 p.fDst.toNat ++ (0 :: (beL 1 p.fProto.toNat ++ (beL 2 (partB p 0).length ++ partB p 0))))) := Lib.hid (by
    unfold pseudoB; rw [be2_1 _ (by omega)]; rfl)
  have H4 : Hid (∀ W : World, Calls Try.prog 33 #[.string (str (beL 4 p.fSrc.toNat ++ (beL 4 p.fDst.toNat ++ (0 :: (beL 1 p.fProto.toNat ++ (beL 2 (partB p 0).length ++ partB p 0))))))] W fun x w' => x = .returned (.int .i64 (sumR (pseudoB p))) ∧ Below W.heap.size W w') := Lib.hid (fun W => by
    rw [← HPs.out]
    exact rsum_str W (pseudoB p) (by unfold pseudoB; simp [beL_length]; omega))
  clear HPs
  obtain ⟨_, _, u1, u2, u3, u4⟩ := hu
  have HP1 := Lib.hid (fun W => r3Put_any W p.fSrc 4 u1 (by decide) (by decide))
  have HP2 := Lib.hid (fun W => r3Put_any W p.fDst 4 u3 (by decide) (by decide))
  have HP3 := Lib.hid (fun W => r3Put_any W p.fProto 1 l1.1 (by decide) (by decide))
  have HP4 := Lib.hid (fun W => r3Put_nat W (partB p 0).length 2 (by decide) (by decide))
  have q3 := u64_id l1.1 (by omega)
  have q5 := u64_id (n := ((partB p 0).length : Int)) (by omega) (by omega)
  have q6 := u64_id u1 (by omega)
  have q7 := u64_id u3 (by omega)
  clear l1 u1 u2 u3 u4 h5
  go_enter Try.func18, Try.ntmps18
  go_upto_region 1 with fail
  refine one_box_wp ?_
  intro W hb1 hbel hsz
  have K : Hid (KR w.heap.size w [(w.heap.size, 25, pktC p)] W) := Lib.hid ((KR.start hbel hbel.size).add hb1)
  clear hb1 hbel hsz
  go_wp2_with (first
    | (refine wpList_row 25 _ rfl (by rfl) _ _ rfl _ (run_loadVar_row _ _ _ 25 _ (0, 0) _ (K.out.at 0 rfl) Try.underlying25 rfl (by kernel_rfl)) ?_)
    | fail)
  refine (H1.out _).mono ?_
  rintro x w1 ⟨rfl, b1⟩
  replace K := Lib.hid (K.out.call b1)
  clear b1 H1
  go_wp2_with (first
    | (refine wpList_row 25 _ rfl (by rfl) _ _ rfl _ (run_loadVar_row _ _ _ 25 _ (0, 0) _ (K.out.at 0 rfl) Try.underlying25 rfl (by kernel_rfl)) ?_)
    | fail)
  refine (H2.out _).mono ?_
  rintro x w2 ⟨rfl, b2⟩
  replace K := Lib.hid (K.out.call b2)
  clear b2 H2
  go_wp2_with fail
  refine (H3.out _).mono ?_
  rintro x w3 ⟨rfl, b3⟩
  replace K := Lib.hid (K.out.call b3)
  clear b3 H3
  rw [HA.out]
  clear HA
  generalize partB p 0 = pb at *
  generalize hsa : sumA p = sa at *
  have HSA := Lib.hid hsa
  clear hsa
  generalize sumR (pseudoB p) = sb at *
  have e0 : (⟨#[0]⟩ : ByteArray) = str [0] := rfl
  haveI : Nonempty (Keep (KR w.heap.size w [(w.heap.size, 25, pktC p)])) := ⟨⟨_, K.out⟩⟩
  have kc0 := fun q : Keep (KR w.heap.size w [(w.heap.size, 25, pktC p)]) => (KR.at q.h 0 rfl).cell 4 _ (pktC_4 p)
  have kc1 := fun q : Keep (KR w.heap.size w [(w.heap.size, 25, pktC p)]) => (KR.at q.h 0 rfl).cell 5 _ (pktC_5 p)
  have kc2 := fun q : Keep (KR w.heap.size w [(w.heap.size, 25, pktC p)]) => (KR.at q.h 0 rfl).cell 7 _ (pktC_7 p)
  go_upto_region 3 with fail
  refine wp_region_keep2 (Cl := KR w.heap.size w [(w.heap.size, 25, pktC p)]) (by kernel_rfl) (by kernel_rfl) K.out.drew ?_
  intro y' hy'
  clear hy' K
  repeat
    first
      | (refine wpQ2_step (fun K hK => ?_)
         go_simp
         first
           | (refine hK _ ?_; clear hK K)
           | (apply Exists.intro
              refine ⟨fun _ => ?_, hK _ ?_⟩
              (rw [if_neg (by omega)]; exact ⟨rfl, rfl⟩)
              clear hK K)
           | (apply Exists.intro
              refine ⟨fun _ => ?_, hK _ ?_⟩
              ((with_reducible refine Calls.keep (HP1.out _) ?_); exact (fun w' hb => KR.call (Keep.h _) hb))
              clear hK K)
           | (apply Exists.intro
              refine ⟨fun _ => ?_, hK _ ?_⟩
              ((with_reducible refine Calls.keep (HP2.out _) ?_); exact (fun w' hb => KR.call (Keep.h _) hb))
              clear hK K)
           | (apply Exists.intro
              refine ⟨fun _ => ?_, hK _ ?_⟩
              ((with_reducible refine Calls.keep (HP3.out _) ?_); exact (fun w' hb => KR.call (Keep.h _) hb))
              clear hK K)
           | (apply Exists.intro
              refine ⟨fun _ => ?_, hK _ ?_⟩
              ((with_reducible refine Calls.keep (HP4.out _) ?_); exact (fun w' hb => KR.call (Keep.h _) hb))
              clear hK K)
           | (apply Exists.intro
              refine ⟨fun _ => ?_, hK _ ?_⟩
              ((with_reducible refine Calls.keep (H4.out _) ?_); exact (fun w' hb => KR.call (Keep.h _) hb))
              clear hK K))
  refine wpQ2_nil ?_
  clear kc0 kc1 kc2
  intro Wk Kk
  have K := Lib.hid Kk
  clear Kk
  have c7 := (K.out.at 0 rfl).cell 7 _ (pktC_7 p)
  clear q3 q5 q6 q7 HP1 HP2 HP3 HP4 H4 e0
  rcases hc with ⟨_, t1, t2, HR⟩ | ⟨_, t1, t2, HR⟩ | ⟨_, t1, HR⟩
  case' inl => obtain ⟨bb, HB, HB2⟩ : ∃ bb, Hid (sumB p = bb) ∧ Hid (bb = 65535) := ⟨_, Lib.hid rfl, HR⟩
  case' inr.inl => obtain ⟨bb, HB, HB2⟩ : ∃ bb, Hid (sumB p = bb) ∧ Hid (bb = sb) := ⟨_, Lib.hid rfl, HR⟩
  case' inr.inr => obtain ⟨bb, HB, HB2⟩ : ∃ bb, Hid (sumB p = bb) ∧ Hid (bb = sb) := ⟨_, Lib.hid rfl, HR⟩
  all_goals
    go_wp2_with fail
    go_ret2
    rw [HSA.out, HB.out, HB2.out]
    exact ⟨rfl, K.out.below⟩
end Go.Proofs.Ythihncfmimkimaa
