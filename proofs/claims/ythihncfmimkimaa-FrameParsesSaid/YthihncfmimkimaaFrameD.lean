/- The walks of frame's part and head. -/
import Derived.Test.YthihncfmimkimaaFrameB
import Derived.Deep.Cut
namespace Go.Proofs.Ythihncfmimkimaa
open Go.RowKit
set_option linter.unusedVariables false

attribute [go_sem] beL_length
theorem bs_mk (a : Array UInt8) : (⟨a⟩ : ByteArray) = str a.toList := rfl
set_option maxRecDepth 100000 in
theorem u64_id {n : Int} (h0 : 0 ≤ n) (h1 : n ≤ 4294967295) : IntKind.u64.wrap n = n := by
  have : IntKind.u64.wrap n = n % 18446744073709551616 := by simp [IntKind.wrap, IntKind.bits, IntKind.signed]
  omega
theorem i64_id {n : Int} (h0 : 0 ≤ n) (h1 : n ≤ 4294967295) : IntKind.i64.wrap n = n := IntWalk.i64_in n (by omega)
theorem put_nat (w : World) (n c : Nat) (hc : 1 ≤ c) (hc8 : c ≤ 8) (hn : n < 256 ^ c) :
    Calls Try.prog 26 #[.int .u64 n, .int .i64 c] w fun x w' => x = .returned (.string (str (beL c n))) ∧ Below w.heap.size w w' := by
  have := put_any w n c (by omega) hc hc8 (by have h := Int.ofNat_lt.2 hn; rwa [Int.natCast_pow] at h)
  rwa [Int.toNat_natCast] at this
/-- A packet whose numbers fit their places. -/
def okW (p : Pkt) : Prop := (0 ≤ p.fLife ∧ p.fLife ≤ 255) ∧ (0 ≤ p.fProto ∧ p.fProto ≤ 255) ∧ (0 ≤ p.fSport ∧ p.fSport ≤ 65535) ∧ (0 ≤ p.fDport ∧ p.fDport ≤ 65535) ∧ (dat p).length ≤ 1500
theorem pktC_10s (p : Pkt) : (pktC p)[10]? = some (.string (str (dat p))) := by rw [str_dat]; rfl
theorem len_put (W : World) (n : Nat) (k : Nat) (h : k + n ≤ 60000) :
    Calls Try.prog 26 #[.int .u64 ((k : Int) + (n : Int)), .int .i64 2] W fun x w' => x = .returned (.string (str (beL 2 (k + n)))) ∧ Below W.heap.size W w' := by
  have := put_nat W (k + n) 2 (by decide) (by decide) (by omega)
  rwa [Int.natCast_add] at this

set_option maxRecDepth 100000 in
set_option maxHeartbeats 4000000 in
theorem part_any (w : World) (p : Pkt) (a : Int) (s : Nat) (hw : okW p) (hs : s < 65536) :
    Calls Try.prog 28 #[valPkt p, .agg #[.int .i64 a, .int .i64 s]] w fun x w' => x = .returned (.string (str (partB p s))) ∧ Below w.heap.size w w' := by
  obtain ⟨_, _, s0, s1, h5⟩ := hw
  have HP1 := Lib.hid (fun W => put_any W p.fSport 2 s0.1 (by decide) (by decide) (by have := s0.2; omega))
  have HP2 := Lib.hid (fun W => put_any W p.fDport 2 s1.1 (by decide) (by decide) (by have := s1.2; omega))
  have HP3 := Lib.hid (fun W => len_put W (dat p).length 8 (by omega))
  have HP4 := Lib.hid (fun W => put_nat W s 2 (by decide) (by decide) (by omega))
  have q1 := u64_id s0.1 (by omega)
  have q2 := u64_id s1.1 (by omega)
  have q3 := u64_id (n := 8 + ((dat p).length : Int)) (by omega) (by omega)
  have q4 := i64_id (n := 8 + ((dat p).length : Int)) (by omega) (by omega)
  have q5 := u64_id (n := (s : Int)) (by omega) (by omega)
  have h6 : ((dat p).length : Int) ≤ 1500 := by omega
  have hc : (∃ x : Unit, (p.fProto == 17) = true ∧ Hid (partB p s = (beL 2 p.fSport.toNat ++ beL 2 p.fDport.toNat) ++ (beL 2 (8 + (dat p).length) ++ (beL 2 s ++ dat p)))) ∨
      (∃ x : Unit, (p.fProto == 17) = false ∧ (p.fProto == 6) = true ∧ Hid (partB p s = (beL 2 p.fSport.toNat ++ beL 2 p.fDport.toNat) ++ (tailB ++ (beL 2 s ++ (0 :: 0 :: dat p))))) ∨
      (∃ x : Unit, (p.fProto == 17) = false ∧ (p.fProto == 6) = false ∧ Hid (partB p s = dat p)) := by
    by_cases h : p.fProto = 17
    · exact .inl ⟨(), by simpa using h, Lib.hid (by unfold partB portsB; rw [if_pos h])⟩
    · by_cases h6 : p.fProto = 6
      · exact .inr (.inl ⟨(), by simpa using h, by simpa using h6, Lib.hid (by unfold partB portsB; rw [if_neg h, if_pos h6])⟩)
      · exact .inr (.inr ⟨(), by simpa using h, by simpa using h6, Lib.hid (by unfold partB portsB; rw [if_neg h, if_neg h6])⟩)
  generalize partB p s = R at *
  clear s0 s1
  go_enter Try.func28, Try.ntmps28
  go_upto_region 1 with fail
  refine two_boxes_wp ?_
  intro W hb1 hb2 hbel hsz
  have K : Hid (KR w.heap.size w [(w.heap.size, 25, pktC p), (w.heap.size + 1, 39, #[.int .i64 a, .int .i64 s])] W) := Lib.hid (((KR.start hbel hbel.size).add hb2).add hb1)
  clear hb1 hb2 hbel hsz
  haveI : Nonempty (Keep (KR w.heap.size w [(w.heap.size, 25, pktC p), (w.heap.size + 1, 39, #[.int .i64 a, .int .i64 s])])) := ⟨⟨_, K.out⟩⟩
  have kc0 := fun q : Keep (KR w.heap.size w [(w.heap.size, 25, pktC p), (w.heap.size + 1, 39, #[.int .i64 a, .int .i64 s])]) => (KR.at q.h 0 rfl).cell 8 _ (pktC_8 p)
  have kc1 := fun q : Keep (KR w.heap.size w [(w.heap.size, 25, pktC p), (w.heap.size + 1, 39, #[.int .i64 a, .int .i64 s])]) => (KR.at q.h 0 rfl).cell 9 _ (pktC_9 p)
  go_upto_region 1 with fail
  refine wp_region_keep2 (Cl := KR w.heap.size w [(w.heap.size, 25, pktC p), (w.heap.size + 1, 39, #[.int .i64 a, .int .i64 s])]) (by kernel_rfl) (by kernel_rfl) K.out.drew ?_
  intro y' hy'
  clear hy' K
  repeat
    first
      | (refine wpQ2_step (fun K hK => ?_)
         go_simp
         first
           | (refine hK _ ?_; clear hK K)
           | (apply Exists.intro
              refine ⟨fun _ => ?_, hK _ ?_⟩
              (rw [if_neg (by omega)]; exact ⟨rfl, rfl⟩)
              clear hK K)
           | (apply Exists.intro
              refine ⟨fun _ => ?_, hK _ ?_⟩
              ((with_reducible refine Calls.keep (HP1.out _) ?_); exact (fun w' hb => KR.call (Keep.h _) hb))
              clear hK K)
           | (apply Exists.intro
              refine ⟨fun _ => ?_, hK _ ?_⟩
              ((with_reducible refine Calls.keep (HP2.out _) ?_); exact (fun w' hb => KR.call (Keep.h _) hb))
              clear hK K))
  refine wpQ2_nil ?_
  clear kc0 kc1
  intro Wk Kk
  have K := Lib.hid Kk
  clear Kk
  have c7 := (K.out.at 0 rfl).cell 7 _ (pktC_7 p)
  clear q1 q2 HP1 HP2
  rcases hc with ⟨_, t1, HR⟩ | ⟨_, t1, t2, HR⟩ | ⟨_, t1, t2, HR⟩
  · haveI : Nonempty (Keep (KR w.heap.size w [(w.heap.size, 25, pktC p), (w.heap.size + 1, 39, #[.int .i64 a, .int .i64 s])])) := ⟨⟨_, K.out⟩⟩
    have kc0 := fun q : Keep (KR w.heap.size w [(w.heap.size, 25, pktC p), (w.heap.size + 1, 39, #[.int .i64 a, .int .i64 s])]) => (KR.at q.h 0 rfl).cell 10 _ (pktC_10s p)
    have kc1 := fun q : Keep (KR w.heap.size w [(w.heap.size, 25, pktC p), (w.heap.size + 1, 39, #[.int .i64 a, .int .i64 s])]) => (KR.at q.h 1 rfl).cell 1 _ rfl
    go_upto_region 4 with fail
    refine wp_region_keep2 (Cl := KR w.heap.size w [(w.heap.size, 25, pktC p), (w.heap.size + 1, 39, #[.int .i64 a, .int .i64 s])]) (by kernel_rfl) (by kernel_rfl) K.out.drew ?_
    intro y' hy'
    clear hy' K
    repeat
      first
        | (refine wpQ2_step (fun K hK => ?_)
           go_simp
           first
             | (refine hK _ ?_; clear hK K)
             | (apply Exists.intro
                refine ⟨fun _ => ?_, hK _ ?_⟩
                (rw [if_neg (by omega)]; exact ⟨rfl, rfl⟩)
                clear hK K)
             | (apply Exists.intro
                refine ⟨fun _ => ?_, hK _ ?_⟩
                ((with_reducible refine Calls.keep (HP3.out _) ?_); exact (fun w' hb => KR.call (Keep.h _) hb))
                clear hK K)
             | (apply Exists.intro
                refine ⟨fun _ => ?_, hK _ ?_⟩
                ((with_reducible refine Calls.keep (HP4.out _) ?_); exact (fun w' hb => KR.call (Keep.h _) hb))
                clear hK K))
    refine wpQ2_nil ?_
    clear kc0 kc1
    intro Wk Kk
    have K := Lib.hid Kk
    clear Kk
    go_wp2_with fail
    go_ret
    refine ⟨ret_str ?_, K.out.below⟩
    rw [HR.out]; simp
  · haveI : Nonempty (Keep (KR w.heap.size w [(w.heap.size, 25, pktC p), (w.heap.size + 1, 39, #[.int .i64 a, .int .i64 s])])) := ⟨⟨_, K.out⟩⟩
    have kc0 := fun q : Keep (KR w.heap.size w [(w.heap.size, 25, pktC p), (w.heap.size + 1, 39, #[.int .i64 a, .int .i64 s])]) => (KR.at q.h 0 rfl).cell 10 _ (pktC_10s p)
    have kc1 := fun q : Keep (KR w.heap.size w [(w.heap.size, 25, pktC p), (w.heap.size + 1, 39, #[.int .i64 a, .int .i64 s])]) => (KR.at q.h 1 rfl).cell 1 _ rfl
    go_upto_region 6 with fail
    refine wp_region_keep2 (Cl := KR w.heap.size w [(w.heap.size, 25, pktC p), (w.heap.size + 1, 39, #[.int .i64 a, .int .i64 s])]) (by kernel_rfl) (by kernel_rfl) K.out.drew ?_
    intro y' hy'
    clear hy' K
    repeat
      first
        | (refine wpQ2_step (fun K hK => ?_)
           go_simp
           first
             | (refine hK _ ?_; clear hK K)
             | (apply Exists.intro
                refine ⟨fun _ => ?_, hK _ ?_⟩
                (rw [if_neg (by omega)]; exact ⟨rfl, rfl⟩)
                clear hK K)
             | (apply Exists.intro
                refine ⟨fun _ => ?_, hK _ ?_⟩
                ((with_reducible refine Calls.keep (HP4.out _) ?_); exact (fun w' hb => KR.call (Keep.h _) hb))
                clear hK K))
    refine wpQ2_nil ?_
    clear kc0 kc1
    intro Wk Kk
    have K := Lib.hid Kk
    clear Kk
    go_wp2_with fail
    go_ret
    refine ⟨ret_str ?_, K.out.below⟩
    rw [HR.out]
    unfold tailB
    simp only [bs_mk, str_append, List.append_assoc]
    rfl
  · have c10 := (K.out.at 0 rfl).cell 10 _ (pktC_10s p)
    go_wp2_with fail
    go_ret
    refine ⟨ret_str ?_, K.out.below⟩
    rw [HR.out]

set_option maxRecDepth 100000 in
set_option maxHeartbeats 4000000 in
theorem head_any (w : World) (p : Pkt) (n a : Nat) (b : Int) (hw : okW p) (hu : okU p) (hn : n ≤ 2000) (ha : a < 65536) :
    Calls Try.prog 29 #[valPkt p, .int .i64 n, .agg #[.int .i64 a, .int .i64 b]] w fun x w' => x = .returned (.string (str (headB p n a))) ∧ Below w.heap.size w w' := by
  obtain ⟨l0, l1, _, _, h5⟩ := hw
  obtain ⟨_, _, u1, u2, u3, u4⟩ := hu
  have HP1 := Lib.hid (fun W => len_put W n 20 (by omega))
  have HP2 := Lib.hid (fun W => put_any W p.fLife 1 l0.1 (by decide) (by decide) (by have := l0.2; omega))
  have HP3 := Lib.hid (fun W => put_any W p.fProto 1 l1.1 (by decide) (by decide) (by have := l1.2; omega))
  have HP4 := Lib.hid (fun W => put_nat W a 2 (by decide) (by decide) (by omega))
  have HP5 := Lib.hid (fun W => put_any W p.fSrc 4 u1 (by decide) (by decide) (by omega))
  have HP6 := Lib.hid (fun W => put_any W p.fDst 4 u3 (by decide) (by decide) (by omega))
  have q1 := u64_id (n := 20 + (n : Int)) (by omega) (by omega)
  have q2 := i64_id (n := 20 + (n : Int)) (by omega) (by omega)
  have q3 := u64_id l0.1 (by omega)
  have q4 := u64_id l1.1 (by omega)
  have q5 := u64_id (n := (a : Int)) (by omega) (by omega)
  have q6 := u64_id u1 (by omega)
  have q7 := u64_id u3 (by omega)
  clear l0 l1 u1 u2 u3 u4
  have HR : Hid (headB p n a = 69 :: 0 :: (beL 2 (20 + n) ++ (0 :: 0 :: 0 :: 0 :: (beL 1 p.fLife.toNat ++ (beL 1 p.fProto.toNat ++ (beL 2 a ++ (beL 4 p.fSrc.toNat ++ beL 4 p.fDst.toNat))))))) := Lib.hid rfl
  generalize headB p n a = R at *
  go_enter Try.func29, Try.ntmps29
  go_upto_region 1 with fail
  refine two_boxes_wp ?_
  intro W hb1 hb2 hbel hsz
  have K : Hid (KR w.heap.size w [(w.heap.size, 25, pktC p), (w.heap.size + 1, 39, #[.int .i64 a, .int .i64 b])] W) := Lib.hid (((KR.start hbel hbel.size).add hb2).add hb1)
  clear hb1 hb2 hbel hsz
  haveI : Nonempty (Keep (KR w.heap.size w [(w.heap.size, 25, pktC p), (w.heap.size + 1, 39, #[.int .i64 a, .int .i64 b])])) := ⟨⟨_, K.out⟩⟩
  have kc0 := fun q : Keep (KR w.heap.size w [(w.heap.size, 25, pktC p), (w.heap.size + 1, 39, #[.int .i64 a, .int .i64 b])]) => (KR.at q.h 0 rfl).cell 6 _ (pktC_6 p)
  have kc1 := fun q : Keep (KR w.heap.size w [(w.heap.size, 25, pktC p), (w.heap.size + 1, 39, #[.int .i64 a, .int .i64 b])]) => (KR.at q.h 0 rfl).cell 7 _ (pktC_7 p)
  have kc2 := fun q : Keep (KR w.heap.size w [(w.heap.size, 25, pktC p), (w.heap.size + 1, 39, #[.int .i64 a, .int .i64 b])]) => (KR.at q.h 0 rfl).cell 4 _ (pktC_4 p)
  have kc3 := fun q : Keep (KR w.heap.size w [(w.heap.size, 25, pktC p), (w.heap.size + 1, 39, #[.int .i64 a, .int .i64 b])]) => (KR.at q.h 0 rfl).cell 5 _ (pktC_5 p)
  have kc4 := fun q : Keep (KR w.heap.size w [(w.heap.size, 25, pktC p), (w.heap.size + 1, 39, #[.int .i64 a, .int .i64 b])]) => (KR.at q.h 1 rfl).cell 0 _ rfl
  go_upto_region 1 with fail
  refine wp_region_keep2 (Cl := KR w.heap.size w [(w.heap.size, 25, pktC p), (w.heap.size + 1, 39, #[.int .i64 a, .int .i64 b])]) (by kernel_rfl) (by kernel_rfl) K.out.drew ?_
  intro y' hy'
  clear hy' K
  repeat
    first
      | (refine wpQ2_step (fun K hK => ?_)
         go_simp
         first
           | (refine hK _ ?_; clear hK K)
           | (apply Exists.intro
              refine ⟨fun _ => ?_, hK _ ?_⟩
              (rw [if_neg (by omega)]; exact ⟨rfl, rfl⟩)
              clear hK K)
           | (apply Exists.intro
              refine ⟨fun _ => ?_, hK _ ?_⟩
              ((with_reducible refine Calls.keep (HP1.out _) ?_); exact (fun w' hb => KR.call (Keep.h _) hb))
              clear hK K)
           | (apply Exists.intro
              refine ⟨fun _ => ?_, hK _ ?_⟩
              ((with_reducible refine Calls.keep (HP2.out _) ?_); exact (fun w' hb => KR.call (Keep.h _) hb))
              clear hK K)
           | (apply Exists.intro
              refine ⟨fun _ => ?_, hK _ ?_⟩
              ((with_reducible refine Calls.keep (HP3.out _) ?_); exact (fun w' hb => KR.call (Keep.h _) hb))
              clear hK K)
           | (apply Exists.intro
              refine ⟨fun _ => ?_, hK _ ?_⟩
              ((with_reducible refine Calls.keep (HP4.out _) ?_); exact (fun w' hb => KR.call (Keep.h _) hb))
              clear hK K)
           | (apply Exists.intro
              refine ⟨fun _ => ?_, hK _ ?_⟩
              ((with_reducible refine Calls.keep (HP5.out _) ?_); exact (fun w' hb => KR.call (Keep.h _) hb))
              clear hK K)
           | (apply Exists.intro
              refine ⟨fun _ => ?_, hK _ ?_⟩
              ((with_reducible refine Calls.keep (HP6.out _) ?_); exact (fun w' hb => KR.call (Keep.h _) hb))
              clear hK K))
  refine wpQ2_nil ?_
  clear kc0 kc1 kc2 kc3 kc4
  intro Wk Kk
  have K := Lib.hid Kk
  clear Kk
  go_wp2_with fail
  go_ret
  refine ⟨ret_str ?_, K.out.below⟩
  rw [HR.out]
  simp only [bs_mk, str_append, List.append_assoc]
  rfl
end Go.Proofs.Ythihncfmimkimaa
