/- instr.Decode (printed by gen/insi.py). -/
import Derived.Test.YtdjhbahiiabimaaInsH
namespace Go.Proofs.Ytdjhbahiiabimaa
open Go.RowKit
set_option linter.unusedVariables false
set_option linter.unusedSimpArgs false

theorem KR.past {B C : Nat} {w W W' : World} {l : List (Nat × TypeId × Array Value)} (h : KR B w l W) (hb : Below C W W') (hs : W.heap.size ≤ W'.heap.size) (hl : ∀ x ∈ l, x.1 < C) (hc : B ≤ C) : KR B w l W' :=
  ⟨fun x hx => (hb.block x.1 (hl x hx)).trans (h.1 x hx), h.2.1.trans (hb.mono hc), Nat.le_trans h.2.2 hs⟩
set_option maxRecDepth 100000 in
set_option maxHeartbeats 8000000 in
theorem IDecode_any (w : World) (tb : Int) (d : ByteArray) (hd : d.size ≤ 100000) (R : Part × Int) (hR : (if (decide (tb < 0) || decide (7 < tb)) = true then (noPart, 26) else decI tb (d.size + 1) d noPart 0) = R) :
    Calls Try.prog 14 #[.int .i64 tb, .string d] w (IDecPost w tb R) := by
  have K0 : Hid (KR w.heap.size w [] w) := Lib.hid (KR.start (Below.refl _ _) (Nat.le_refl _))
  by_cases ht : tb < 0 ∨ 7 < tb
  · have HRn : Hid ((noPart, 26) = R) := Lib.hid (by rw [← hR, if_pos (by simpa using ht)])
    clear hR
    by_cases ht0 : tb < 0
    · have t1 : decide (tb < 0) = true := decide_eq_true ht0
      clear ht
      go_enter Try.func14, Try.ntmps14
      go_upto_region 1 with fail
      refine one_box_wp ?_
      intro W hb1 hbel hsz
      have K : Hid (KR w.heap.size w [(w.heap.size, 26, entC 0 0 (.slice none 0 0) (.slice none 0 0) (.slice none 0 0) false 0 0 0 0)] W) := Lib.hid ((KR.start hbel hbel.size).add hb1)
      clear hb1 hbel hsz
      go_wp2_with (first
        | (refine wpList_store_row rfl 26 _ _ rfl _ rfl (entC 0 0 (.slice none 0 0) (.slice none 0 0) (.slice none 0 0) false 0 0 0 0) rfl _ _ (K.out.at 0 rfl) rfl (by kernel_rfl) (by simp [Value.oneCell']) ?_)
        | fail)
      intro Wj hbj hbarj
      have HBj := Lib.hid (hbarj.below (K.out.below) (Nat.le_refl _) (K.out.below).size)
      clear hbarj
      go_wp2_with fail
      rw [← HRn.out]
      refine bodyPost_ret (v := .tuple #[.agg (entC 0 0 (.slice none 0 0) (.slice none 0 0) (.slice none 0 0) false 0 0 0 0), .int .i64 26]) (results_row_tmp (p := 4) (u := 5) rfl _ _ w.heap.size _ _ _ rfl hbj Try.underlying26 rfl (by kernel_rfl)) rfl ?_
      exact ⟨_, _, rfl, OwnL.nil _ _ _ _ _, OwnL.nil _ _ _ _ _, HBj.out⟩
    · have t1 : decide (tb < 0) = false := decide_eq_false ht0
      have t2 : decide (7 < tb) = true := decide_eq_true (ht.resolve_left ht0)
      clear ht
      go_enter Try.func14, Try.ntmps14
      go_upto_region 1 with fail
      refine one_box_wp ?_
      intro W hb1 hbel hsz
      have K : Hid (KR w.heap.size w [(w.heap.size, 26, entC 0 0 (.slice none 0 0) (.slice none 0 0) (.slice none 0 0) false 0 0 0 0)] W) := Lib.hid ((KR.start hbel hbel.size).add hb1)
      clear hb1 hbel hsz
      go_wp2_with (first
        | (refine wpList_store_row rfl 26 _ _ rfl _ rfl (entC 0 0 (.slice none 0 0) (.slice none 0 0) (.slice none 0 0) false 0 0 0 0) rfl _ _ (K.out.at 0 rfl) rfl (by kernel_rfl) (by simp [Value.oneCell']) ?_)
        | fail)
      intro Wj hbj hbarj
      have HBj := Lib.hid (hbarj.below (K.out.below) (Nat.le_refl _) (K.out.below).size)
      clear hbarj
      go_wp2_with fail
      rw [← HRn.out]
      refine bodyPost_ret (v := .tuple #[.agg (entC 0 0 (.slice none 0 0) (.slice none 0 0) (.slice none 0 0) false 0 0 0 0), .int .i64 26]) (results_row_tmp (p := 4) (u := 5) rfl _ _ w.heap.size _ _ _ rfl hbj Try.underlying26 rfl (by kernel_rfl)) rfl ?_
      exact ⟨_, _, rfl, OwnL.nil _ _ _ _ _, OwnL.nil _ _ _ _ _, HBj.out⟩
  have t1 : decide (tb < 0) = false := decide_eq_false (by omega)
  have t2 : decide (7 < tb) = false := decide_eq_false (by omega)
  rw [t1, t2] at hR
  have HRR : Hid (decI tb (d.size + 1) d noPart 0 = R) := Lib.hid hR
  have HTb : Hid (0 ≤ tb ∧ tb ≤ 7) := Lib.hid (by omega)
  have HDs := Lib.hid hd
  clear hR ht hd K0
  go_enter Try.func14, Try.ntmps14
  go_upto_region 1 with fail
  refine one_box_wp ?_
  intro W hb1 hbel hsz
  have K : Hid (KR w.heap.size w [(w.heap.size, 26, entC 0 0 (.slice none 0 0) (.slice none 0 0) (.slice none 0 0) false 0 0 0 0)] W) := Lib.hid ((KR.start hbel hbel.size).add hb1)
  have HGx : Hid (w.heap.size + 1 ≤ W.heap.size) := Lib.hid hb1.lt
  clear hb1 hbel hsz
  go_wp2_with (first
    | (refine wpList_store_row rfl 26 _ _ rfl _ rfl (entC tb 0 (.slice none 0 0) (.slice none 0 0) (.slice none 0 0) false 0 0 0 0) rfl _ _ (BlkAt.new W 26 _) rfl (by kernel_rfl) (by simp [Value.oneCell']) ?_)
    | fail)
  intro Wi hbi hbari
  have K2 : Hid (KR w.heap.size w [(W.heap.size, 26, entC tb 0 (.slice none 0 0) (.slice none 0 0) (.slice none 0 0) false 0 0 0 0), (w.heap.size, 26, entC 0 0 (.slice none 0 0) (.slice none 0 0) (.slice none 0 0) false 0 0 0 0)] Wi) := Lib.hid (K.out.into hbari hbi)
  clear hbi hbari K
  generalize W.heap.size = gx at *
  go_wp2_with fail
  go_loopg [1, 7] (d.size + 1) (fun gg dv bv wr => ∃ (d : ByteArray) (b : Int) (p : Part) (vA vW : Value), dv = .string d ∧ bv = .int .i64 b ∧ Hid (d.size ≤ 100000) ∧ Hid (d.size < gg) ∧ Hid (0 ≤ b ∧ b ≤ 6) ∧ Hid (PartIn b p) ∧ Hid (decI tb gg d p b = R) ∧ Hid (OwnL wr (gx + 1) 67 3 encAction vA p.pA) ∧ Hid (OwnL wr (gx + 1) 67 3 encAction vW p.pW) ∧ Hid (Apart vA vW) ∧ Hid (KR w.heap.size w [(gx, 26, entC tb 0 (.slice none 0 0) vA vW p.cl p.me p.ma p.mt p.gt), (w.heap.size, 26, entC 0 0 (.slice none 0 0) (.slice none 0 0) (.slice none 0 0) false 0 0 0 0)] wr))
  case atStart => exact ⟨d, 0, noPart, _, _, rfl, rfl, HDs, Lib.hid (Nat.lt_succ_self _), Lib.hid (by omega), Lib.hid noPart_in, HRR, Lib.hid (OwnL.nil _ _ _ _ _), Lib.hid (OwnL.nil _ _ _ _ _), Lib.hid (fun k hk => by cases hk), K2⟩
  case round =>
    obtain ⟨d1, b, p, vA, vW, rfl, rfl, HD, HG, HBd, HPI, HF, HOA, HOW, HAp, K⟩ := hrel
    clear HRR HDs K2
    obtain ⟨n0, rfl⟩ : ∃ n, gk = n + 1 := ⟨gk - 1, by have := HG.out; omega⟩
    have hF1 := HF.out
    unfold decI at hF1
    clear HF
    by_cases h0 : d1.size = 0
    · rw [if_pos h0] at hF1
      have e0 : d1 = ⟨#[]⟩ := by
        apply ByteArray.ext
        exact Array.eq_empty_of_size_eq_zero h0
      subst e0
      have HFn := Lib.hid hF1
      clear hF1 h0
      have HOK : Hid (EntOk wr ⟨tb, 0, .slice none 0 0, [], vA, p.pA, vW, p.pW, p.cl, p.me, p.ma, p.mt, p.gt⟩) := Lib.hid ⟨ReadL.of_own HOA.out encAction_len, ReadL.of_own HOW.out encAction_len, HPI.out.okA, HPI.out.okW, by have := HPI.out.lenA; have := HBd.out; simp only; omega, by have := HPI.out.lenW; have := HBd.out; simp only; omega, HPI.out.me, HPI.out.ma⟩
      have HRr := Lib.hid (Right_any wr ⟨tb, 0, .slice none 0 0, [], vA, p.pA, vW, p.pW, p.cl, p.me, p.ma, p.mt, p.gt⟩ HOK.out)
      rw [rightE_entP tb 0 (.slice none 0 0) vA vW [] p] at HRr
      obtain ⟨aa, ac, hva, _, _⟩ := HOK.out.ap.slice
      obtain ⟨wa, wcap, hvw, _, _⟩ := HOK.out.wr.slice
      simp only at hva hvw
      have oA : vA.oneCell' = true := by rw [hva]; rfl
      have oW : vW.oneCell' = true := by rw [hvw]; rfl
      have HO := Lib.hid (And.intro oA oW)
      clear oA oW hva hvw
      generalize rightE (entP tb p) = eR at *
      clear HOK
      go_wp2_with (first
        | (refine wpList_load_row rfl 26 _ rfl _ rfl _ _ _ _ (K.out.at 0 rfl) Try.underlying26 rfl (by kernel_rfl) ?_)
        | fail)
      refine HRr.out.mono ?_
      rintro e w1 ⟨rfl, hb⟩
      replace K := Lib.hid (K.out.call hb)
      replace HOA := Lib.hid (HOA.out.belowAll hb)
      replace HOW := Lib.hid (HOW.out.belowAll hb)
      clear hb HRr
      cases hr : (eR != 0)
      case true =>
        have hne : eR ≠ 0 := by simpa using hr
        have HNe := Lib.hid hne
        have HRn : Hid ((noPart, eR) = R) := Lib.hid (by have := HFn.out; rwa [if_neg hne] at this)
        clear HFn hne HOA HOW HO
        go_wp2_with (first
          | (refine wpList_store_row rfl 26 _ _ rfl _ rfl (entC 0 0 (.slice none 0 0) (.slice none 0 0) (.slice none 0 0) false 0 0 0 0) rfl _ _ (K.out.at 1 rfl) rfl (by kernel_rfl) (by simp [Value.oneCell']) ?_)
          | fail)
        intro Wj hbj hbarj
        have HBj := Lib.hid (hbarj.below (K.out.below) (Nat.le_refl _) (K.out.below).size)
        clear hbarj
        go_wp2_with fail
        rw [← HRn.out]
        refine bodyPost_ret (v := .tuple #[.agg (entC 0 0 (.slice none 0 0) (.slice none 0 0) (.slice none 0 0) false 0 0 0 0), .int .i64 eR]) (results_row_tmp (p := 4) (u := 5) rfl _ _ w.heap.size _ _ _ rfl hbj Try.underlying26 rfl (by kernel_rfl)) rfl ?_
        exact ⟨_, _, by simp [noPart, HNe.out], OwnL.nil _ _ _ _ _, OwnL.nil _ _ _ _ _, HBj.out⟩
      have hz : eR = 0 := by simpa using hr
      subst hz
      have HRn : Hid ((p, 0) = R) := Lib.hid (by have := HFn.out; rwa [if_pos rfl] at this)
      clear HFn hr
      go_wp2_with (first
        | (refine wpList_load_row rfl 26 _ rfl _ rfl _ _ _ _ (K.out.at 0 rfl) Try.underlying26 rfl (by kernel_rfl) ?_)
        | (refine wpList_store_row rfl 26 _ _ rfl _ rfl (entC tb 0 (.slice none 0 0) vA vW p.cl p.me p.ma p.mt p.gt) rfl _ _ (K.out.at 1 rfl) rfl (by kernel_rfl) (by simp [Value.oneCell']; exact ⟨HO.out.1, HO.out.2⟩) ?_)
        | fail)
      intro Wj hbj hbarj
      have HBj := Lib.hid (hbarj.below (K.out.below) (Nat.le_refl _) (K.out.below).size)
      replace HOA := Lib.hid (HOA.out.bar hbarj (fun k hk => by have := (HOA.out.block k hk).1; have := HGx.out; omega))
      replace HOW := Lib.hid (HOW.out.bar hbarj (fun k hk => by have := (HOW.out.block k hk).1; have := HGx.out; omega))
      clear hbarj
      go_wp2_with fail
      rw [← HRn.out]
      refine bodyPost_ret (v := .tuple #[.agg (entC tb 0 (.slice none 0 0) vA vW p.cl p.me p.ma p.mt p.gt), .int .i64 0]) (results_row_tmp (p := 4) (u := 5) rfl _ _ w.heap.size _ _ _ rfl hbj Try.underlying26 rfl (by kernel_rfl)) rfl ?_
      exact ⟨vA, vW, rfl, HOA.out.down (by have := HGx.out; omega), HOW.out.down (by have := HGx.out; omega), HBj.out⟩
    rw [if_neg h0] at hF1
    have t0 : d1.toList.isEmpty = false := by
      rw [ByteArray.toList_eq]
      cases h : d1.data.toList with
      | nil => exact absurd (by have := congrArg List.length h; simpa using this) h0
      | cons a l => rfl
    by_cases h4 : d1.size < 4
    · rw [if_pos h4] at hF1
      have t3 : decide ((d1.size : Int) < 4) = true := by simp; omega
      have HRn := Lib.hid hF1
      clear hF1 h4 h0 HOA HOW
      go_wp2_with (first
        | (refine wpList_store_row rfl 26 _ _ rfl _ rfl (entC 0 0 (.slice none 0 0) (.slice none 0 0) (.slice none 0 0) false 0 0 0 0) rfl _ _ (K.out.at 1 rfl) rfl (by kernel_rfl) (by simp [Value.oneCell']) ?_)
        | fail)
      intro Wj hbj hbarj
      have HBj := Lib.hid (hbarj.below (K.out.below) (Nat.le_refl _) (K.out.below).size)
      clear hbarj
      go_wp2_with fail
      rw [← HRn.out]
      refine bodyPost_ret (v := .tuple #[.agg (entC 0 0 (.slice none 0 0) (.slice none 0 0) (.slice none 0 0) false 0 0 0 0), .int .i64 10]) (results_row_tmp (p := 4) (u := 5) rfl _ _ w.heap.size _ _ _ rfl hbj Try.underlying26 rfl (by kernel_rfl)) rfl ?_
      exact ⟨_, _, rfl, OwnL.nil _ _ _ _ _, OwnL.nil _ _ _ _ _, HBj.out⟩
    rw [if_neg h4] at hF1
    have t3 : decide ((d1.size : Int) < 4) = false := by simp; omega
    have q0 : 0 < d1.size := by omega
    have q1 : 1 < d1.size := by omega
    have q2 : 2 < d1.size := by omega
    have q3 : 3 < d1.size := by omega
    have i1 : (1 : Int) < d1.size := by omega
    have i2 : (2 : Int) < d1.size := by omega
    have i3 : (3 : Int) < d1.size := by omega
    have b0 := byteA_get d1 0 q0
    have b1 := byteA_get d1 1 q1
    have b2 := byteA_get d1 2 q2
    have b3 := byteA_get d1 3 q3
    have l0 := byteA_le d1 0
    have l1 := byteA_le d1 1
    have l2 := byteA_le d1 2
    have l3 := byteA_le d1 3
    have HFn := Lib.hid hF1
    have HLn : Hid (lenD d1 = byteA d1 2 * 256 + byteA d1 3) := Lib.hid rfl
    have HKn : Hid (kindD d1 = byteA d1 0 * 256 + byteA d1 1) := Lib.hid rfl
    clear hF1 h0
    generalize byteA d1 0 = x0 at *
    generalize byteA d1 1 = x1 at *
    generalize byteA d1 2 = x2 at *
    generalize byteA d1 3 = x3 at *
    have K : Hid (KS w.heap.size w [(gx, 26, entC tb 0 (.slice none 0 0) vA vW p.cl p.me p.ma p.mt p.gt), (w.heap.size, 26, entC 0 0 (.slice none 0 0) (.slice none 0 0) (.slice none 0 0) false 0 0 0 0)] wr wr) := Lib.hid (KS.start K.out)
    haveI : Nonempty (Keep (KS w.heap.size w [(gx, 26, entC tb 0 (.slice none 0 0) vA vW p.cl p.me p.ma p.mt p.gt), (w.heap.size, 26, entC 0 0 (.slice none 0 0) (.slice none 0 0) (.slice none 0 0) false 0 0 0 0)] wr)) := ⟨⟨_, K.out⟩⟩
    go_upto_region 8 with fail
    refine wp_region_keep2 (Cl := KS w.heap.size w [(gx, 26, entC tb 0 (.slice none 0 0) vA vW p.cl p.me p.ma p.mt p.gt), (w.heap.size, 26, entC 0 0 (.slice none 0 0) (.slice none 0 0) (.slice none 0 0) false 0 0 0 0)] wr) (by kernel_rfl) (by kernel_rfl) K.out.drew ?_
    intro y' hy'
    clear hy' K
    repeat
      first
        | (refine wpQ2_step (fun K hK => ?_)
           go_simp
           first
             | (refine hK _ ?_; clear hK K)
             | (apply Exists.intro
                refine ⟨fun _ => ?_, hK _ ?_⟩
                (rw [if_neg (by omega)]; exact ⟨rfl, rfl⟩)
                clear hK K))
    refine wpQ2_nil ?_
    intro Wk Kk
    have K := Lib.hid Kk
    clear Kk
    have hor : bits .or .i64 ((x2 : Int) * 256) (x3 : Int) = (lenD d1 : Int) := by rw [HLn.out]; exact or_i64 l2 l3
    have hor2 : bits .or .i64 ((x0 : Int) * 256) (x1 : Int) = (kindD d1 : Int) := by rw [HKn.out]; exact or_i64 l0 l1
    have w0 : IntKind.i64.wrap (x0 : Int) = x0 := i64_wrap_in (by omega) (by omega)
    have w1 : IntKind.i64.wrap (x1 : Int) = x1 := i64_wrap_in (by omega) (by omega)
    have w2 : IntKind.i64.wrap (x2 : Int) = x2 := i64_wrap_in (by omega) (by omega)
    have w3 : IntKind.i64.wrap (x3 : Int) = x3 := i64_wrap_in (by omega) (by omega)
    have w4 : IntKind.i64.wrap ((x2 : Int) * 256) = (x2 : Int) * 256 := i64_wrap_in (by omega) (by omega)
    have w5 : IntKind.i64.wrap ((x0 : Int) * 256) = (x0 : Int) * 256 := i64_wrap_in (by omega) (by omega)
    simp only [w0, w1, w2, w3, w4, w5, hor, hor2]
    have hn : lenD d1 ≤ 65535 := by have := HLn.out; omega
    clear w0 w1 w2 w3 w4 w5 hor hor2 HLn HKn b0 b1 b2 b3 l0 l1 l2 l3 q0 q1 q2 q3 i1 i2 i3
    have hF2 := HFn.out
    clear HFn
    have HN : Hid (chunkA d1 = d1.extract 0 (lenD d1)) := Lib.hid rfl
    generalize lenD d1 = n at *
    generalize kindD d1 = kd at *
    have e0 : (0 : Int) ≤ n := by omega
    by_cases h5 : d1.size < n
    · have d2 : decide (d1.size < n) = true := by simp; omega
      rw [if_pos h5] at hF2
      have HRn := Lib.hid hF2
      clear hF2 h5 HOA HOW
      go_wp2_with (first
        | (refine wpList_store_row rfl 26 _ _ rfl _ rfl (entC 0 0 (.slice none 0 0) (.slice none 0 0) (.slice none 0 0) false 0 0 0 0) rfl _ _ (K.out.at 1 rfl) rfl (by kernel_rfl) (by simp [Value.oneCell']) ?_)
        | fail)
      intro Wj hbj hbarj
      have HBj := Lib.hid (hbarj.below (K.out.1.below) (Nat.le_refl _) (K.out.1.below).size)
      clear hbarj
      go_wp2_with fail
      rw [← HRn.out]
      refine bodyPost_ret (v := .tuple #[.agg (entC 0 0 (.slice none 0 0) (.slice none 0 0) (.slice none 0 0) false 0 0 0 0), .int .i64 10]) (results_row_tmp (p := 4) (u := 5) rfl _ _ w.heap.size _ _ _ rfl hbj Try.underlying26 rfl (by kernel_rfl)) rfl ?_
      exact ⟨_, _, rfl, OwnL.nil _ _ _ _ _, OwnL.nil _ _ _ _ _, HBj.out⟩
    rw [if_neg h5] at hF2
    have d2 : decide (d1.size < n) = false := by simp; omega
    by_cases h6 : n < 8
    · have d3 : decide ((n : Int) < 8) = true := by simp; omega
      rw [if_pos h6] at hF2
      have HRn := Lib.hid hF2
      clear hF2 h5 h6 HOA HOW
      go_wp2_with (first
        | (refine wpList_store_row rfl 26 _ _ rfl _ rfl (entC 0 0 (.slice none 0 0) (.slice none 0 0) (.slice none 0 0) false 0 0 0 0) rfl _ _ (K.out.at 1 rfl) rfl (by kernel_rfl) (by simp [Value.oneCell']) ?_)
        | fail)
      intro Wj hbj hbarj
      have HBj := Lib.hid (hbarj.below (K.out.1.below) (Nat.le_refl _) (K.out.1.below).size)
      clear hbarj
      go_wp2_with fail
      rw [← HRn.out]
      refine bodyPost_ret (v := .tuple #[.agg (entC 0 0 (.slice none 0 0) (.slice none 0 0) (.slice none 0 0) false 0 0 0 0), .int .i64 11]) (results_row_tmp (p := 4) (u := 5) rfl _ _ w.heap.size _ _ _ rfl hbj Try.underlying26 rfl (by kernel_rfl)) rfl ?_
      exact ⟨_, _, rfl, OwnL.nil _ _ _ _ _, OwnL.nil _ _ _ _ _, HBj.out⟩
    rw [if_neg h6] at hF2
    have d3 : decide ((n : Int) < 8) = false := by simp; omega
    have e1 : n ≤ d1.size := by omega
    have e3 : (n : Int) ≤ d1.size := by omega
    have HF3 := Lib.hid hF2
    clear hF2 h5
    have HS := Lib.hid (fun W => iseems_any W tb (kd : Int) (d1.extract 0 n) (by have := HD.out; rw [ByteArray.size_extract]; omega))
    rw [← HN.out] at HS
    have HQI := Lib.hid (seemsP_in (kd : Int) (chunkA d1))
    generalize hch : chunkA d1 = ch at *
    clear hch
    generalize seemsP (kd : Int) ch = q at *
    go_wp2_with fail
    rw [← HN.out]
    refine (HS.out _).mono ?_
    rintro e w2 ⟨vA', vW', rfl, hoA', hoW', hb⟩
    have hgk : gx < Wk.heap.size := (K.out.at 0 rfl).lt
    have hwk : w.heap.size < Wk.heap.size := (K.out.at 1 rfl).lt
    have HAx : Hid (Apart vA vW') := Lib.hid (fun k hk e => by have h1 := (HOA.out.block k hk).2; have h2 := (hoW'.block k e).1; have h3 := K.out.2.size; omega)
    have HA' := Lib.hid (OwnL.down (C := gx + 1) hoA' hgk)
    have HW' := Lib.hid (OwnL.down (C := gx + 1) hoW' hgk)
    replace K := Lib.hid (K.out.call hb)
    replace HOA := Lib.hid (HOA.out.belowAll K.out.2)
    replace HOW := Lib.hid (HOW.out.belowAll K.out.2)
    have hg2 : gx < w2.heap.size := (K.out.at 0 rfl).lt
    have HG2 := Lib.hid hg2
    have oA : vA'.oneCell' = true := by obtain ⟨aa, ac, hva, _, _⟩ := HA'.out.slice; rw [hva]; rfl
    have oW : vW'.oneCell' = true := by obtain ⟨aa, ac, hva, _, _⟩ := HW'.out.slice; rw [hva]; rfl
    have HO := Lib.hid (And.intro oA oW)
    clear hoA' hoW' hb HS hgk hwk oA oW hg2
    go_wp2_with (first
      | (refine wpList_store_row rfl 26 _ _ rfl _ rfl (entC tb 0 (.slice none 0 0) vA' vW' q.cl q.me q.ma q.mt q.gt) rfl _ _ (BlkAt.new w2 26 _) rfl (by kernel_rfl) (by simp [Value.oneCell']; exact ⟨HO.out.1, HO.out.2⟩) ?_)
      | fail)
    intro Wy hbi hbari
    replace HOA := Lib.hid ((HOA.out.belowAll ((Below.refl _ _).alloc (Nat.le_refl _) _)).bar hbari (fun k hk => by have := (HOA.out.block k hk).2; omega))
    replace HOW := Lib.hid ((HOW.out.belowAll ((Below.refl _ _).alloc (Nat.le_refl _) _)).bar hbari (fun k hk => by have := (HOW.out.block k hk).2; omega))
    replace HA' := Lib.hid ((HA'.out.belowAll ((Below.refl _ _).alloc (Nat.le_refl _) _)).bar hbari (fun k hk => by have := (HA'.out.block k hk).2; omega))
    replace HW' := Lib.hid ((HW'.out.belowAll ((Below.refl _ _).alloc (Nat.le_refl _) _)).bar hbari (fun k hk => by have := (HW'.out.block k hk).2; omega))
    have K2 : Hid (KR w.heap.size w [(w2.heap.size, 26, entC tb 0 (.slice none 0 0) vA' vW' q.cl q.me q.ma q.mt q.gt), (gx, 26, entC tb 0 (.slice none 0 0) vA vW p.cl p.me p.ma p.mt p.gt), (w.heap.size, 26, entC 0 0 (.slice none 0 0) (.slice none 0 0) (.slice none 0 0) false 0 0 0 0)] Wy) := Lib.hid (K.out.1.into hbari hbi)
    clear hbi hbari K HO
    generalize w2.heap.size = gy at *
    have K : Hid (KS w.heap.size w [(gy, 26, entC tb 0 (.slice none 0 0) vA' vW' q.cl q.me q.ma q.mt q.gt), (gx, 26, entC tb 0 (.slice none 0 0) vA vW p.cl p.me p.ma p.mt p.gt), (w.heap.size, 26, entC 0 0 (.slice none 0 0) (.slice none 0 0) (.slice none 0 0) false 0 0 0 0)] Wy Wy) := Lib.hid (KS.start K2.out)
    have HRw := Lib.hid (fun (W : World) (hW : KS w.heap.size w [(gy, 26, entC tb 0 (.slice none 0 0) vA' vW' q.cl q.me q.ma q.mt q.gt), (gx, 26, entC tb 0 (.slice none 0 0) vA vW p.cl p.me p.ma p.mt p.gt), (w.heap.size, 26, entC 0 0 (.slice none 0 0) (.slice none 0 0) (.slice none 0 0) false 0 0 0 0)] Wy W) => raw_any W (kd : Int) tb 0 (.slice none 0 0) vA' vW' q (HQI.out.ok (by decide)) ((ReadL.of_own HA'.out encAction_len).below hW.2 (Nat.le_refl _)) ((ReadL.of_own HW'.out encAction_len).below hW.2 (Nat.le_refl _)))
    clear K2
    generalize rawF (kd : Int) q = rl at *
    by_cases hq : str rl = ch
    case neg =>
      have hF4 := HF3.out
      rw [if_pos hq] at hF4
      have HRn := Lib.hid hF4
      have tq : (rl == (d1.extract 0 n).toList) = false := by
        have h1 := list_ne hq
        rw [HN.out, ByteArray.toList_eq, str_data] at h1
        exact h1
      clear hF4 HF3 hq HOA HOW HA' HW'
      haveI : Nonempty (Keep (KS w.heap.size w [(gy, 26, entC tb 0 (.slice none 0 0) vA' vW' q.cl q.me q.ma q.mt q.gt), (gx, 26, entC tb 0 (.slice none 0 0) vA vW p.cl p.me p.ma p.mt p.gt), (w.heap.size, 26, entC 0 0 (.slice none 0 0) (.slice none 0 0) (.slice none 0 0) false 0 0 0 0)] Wy)) := ⟨⟨_, K.out⟩⟩
      go_upto_region 14 with fail
      refine wp_region_keep2 (Cl := KS w.heap.size w [(gy, 26, entC tb 0 (.slice none 0 0) vA' vW' q.cl q.me q.ma q.mt q.gt), (gx, 26, entC tb 0 (.slice none 0 0) vA vW p.cl p.me p.ma p.mt p.gt), (w.heap.size, 26, entC 0 0 (.slice none 0 0) (.slice none 0 0) (.slice none 0 0) false 0 0 0 0)] Wy) (by kernel_rfl) (by kernel_rfl) K.out.drew ?_
      intro y' hy'
      clear hy' K
      repeat
        first
          | (refine wpQ2_rowk _ _ rfl _ (fun W h => run_loadVar_row W _ _ 26 _ (0, 0) _ (KS.at h 0 rfl) Try.underlying26 rfl (by kernel_rfl)) ?_ ?_
             · (go_simp; done))
          | (refine wpQ2_step (fun K hK => ?_)
             go_simp
             first
               | (refine hK _ ?_; clear hK K)
               | (apply Exists.intro
                  refine ⟨fun _ => ?_, hK _ ?_⟩
                  (rw [if_neg (by omega)]; exact ⟨rfl, rfl⟩)
                  clear hK K)
               | (apply Exists.intro
                  refine ⟨fun _ => ?_, hK _ ?_⟩
                  ((with_reducible refine Calls.keep (HRw.out _ (Keep.h _)) ?_); exact (fun w' hb => KS.call (Keep.h _) hb))
                  clear hK K))
      refine wpQ2_nil ?_
      intro Wk Kk
      have K := Lib.hid Kk
      clear Kk
      go_wp2_with (first
        | (refine wpList_store_row rfl 26 _ _ rfl _ rfl (entC 0 0 (.slice none 0 0) (.slice none 0 0) (.slice none 0 0) false 0 0 0 0) rfl _ _ (K.out.at 2 rfl) rfl (by kernel_rfl) (by simp [Value.oneCell']) ?_)
        | fail)
      intro Wj hbj hbarj
      have HBj := Lib.hid (hbarj.below (K.out.1.below) (Nat.le_refl _) (K.out.1.below).size)
      clear hbarj
      go_wp2_with fail
      rw [← HRn.out]
      refine bodyPost_ret (v := .tuple #[.agg (entC 0 0 (.slice none 0 0) (.slice none 0 0) (.slice none 0 0) false 0 0 0 0), .int .i64 11]) (results_row_tmp (p := 4) (u := 5) rfl _ _ w.heap.size _ _ _ rfl hbj Try.underlying26 rfl (by kernel_rfl)) rfl ?_
      exact ⟨_, _, rfl, OwnL.nil _ _ _ _ _, OwnL.nil _ _ _ _ _, HBj.out⟩
    have hF4 := HF3.out
    rw [if_neg (by rw [hq]; simp)] at hF4
    have tq : (rl == (d1.extract 0 n).toList) = true := by
      rw [← HN.out, ← hq, ByteArray.toList_eq, str_data]; simp
    have HF4 := Lib.hid hF4
    clear hF4 HF3 hq
    haveI : Nonempty (Keep (KS w.heap.size w [(gy, 26, entC tb 0 (.slice none 0 0) vA' vW' q.cl q.me q.ma q.mt q.gt), (gx, 26, entC tb 0 (.slice none 0 0) vA vW p.cl p.me p.ma p.mt p.gt), (w.heap.size, 26, entC 0 0 (.slice none 0 0) (.slice none 0 0) (.slice none 0 0) false 0 0 0 0)] Wy)) := ⟨⟨_, K.out⟩⟩
    go_upto_region 14 with fail
    refine wp_region_keep2 (Cl := KS w.heap.size w [(gy, 26, entC tb 0 (.slice none 0 0) vA' vW' q.cl q.me q.ma q.mt q.gt), (gx, 26, entC tb 0 (.slice none 0 0) vA vW p.cl p.me p.ma p.mt p.gt), (w.heap.size, 26, entC 0 0 (.slice none 0 0) (.slice none 0 0) (.slice none 0 0) false 0 0 0 0)] Wy) (by kernel_rfl) (by kernel_rfl) K.out.drew ?_
    intro y' hy'
    clear hy' K
    repeat
      first
        | (refine wpQ2_rowk _ _ rfl _ (fun W h => run_loadVar_row W _ _ 26 _ (0, 0) _ (KS.at h 0 rfl) Try.underlying26 rfl (by kernel_rfl)) ?_ ?_
           · (go_simp; done))
        | (refine wpQ2_step (fun K hK => ?_)
           go_simp
           first
             | (refine hK _ ?_; clear hK K)
             | (apply Exists.intro
                refine ⟨fun _ => ?_, hK _ ?_⟩
                (rw [if_neg (by omega)]; exact ⟨rfl, rfl⟩)
                clear hK K)
             | (apply Exists.intro
                refine ⟨fun _ => ?_, hK _ ?_⟩
                ((with_reducible refine Calls.keep (HRw.out _ (Keep.h _)) ?_); exact (fun w' hb => KS.call (Keep.h _) hb))
                clear hK K))
    refine wpQ2_nil ?_
    intro Wk Kk
    have K := Lib.hid Kk
    clear Kk
    clear HRw tq
    replace HOA := Lib.hid (HOA.out.belowAll K.out.2)
    replace HOW := Lib.hid (HOW.out.belowAll K.out.2)
    replace HA' := Lib.hid (HA'.out.belowAll K.out.2)
    replace HW' := Lib.hid (HW'.out.belowAll K.out.2)
    have K2 := Lib.hid K.out.1
    clear K
    have K := K2
    clear K2
    generalize hW3 : Wk = W3 at *
    clear hW3
    have HPl := Lib.hid (fun W => place_any W (kd : Int))
    have HPb := Lib.hid (placeF_in (kd : Int))
    generalize placeF (kd : Int) = pl at *
    go_wp2_with fail
    refine (HPl.out _).mono ?_
    rintro e wz ⟨rfl, rfl⟩
    by_cases hpl : pl ≤ b
    · have tp : decide (pl ≤ b) = true := decide_eq_true hpl
      have hF5 := HF4.out
      rw [if_pos hpl] at hF5
      have HRn := Lib.hid hF5
      clear hF5 HF4 hpl HOA HOW HA' HW'
      go_wp2_with (first
        | (refine wpList_store_row rfl 26 _ _ rfl _ rfl (entC 0 0 (.slice none 0 0) (.slice none 0 0) (.slice none 0 0) false 0 0 0 0) rfl _ _ (K.out.at 2 rfl) rfl (by kernel_rfl) (by simp [Value.oneCell']) ?_)
        | fail)
      intro Wj hbj hbarj
      have HBj := Lib.hid (hbarj.below (K.out.below) (Nat.le_refl _) (K.out.below).size)
      clear hbarj
      go_wp2_with fail
      rw [← HRn.out]
      refine bodyPost_ret (v := .tuple #[.agg (entC 0 0 (.slice none 0 0) (.slice none 0 0) (.slice none 0 0) false 0 0 0 0), .int .i64 23]) (results_row_tmp (p := 4) (u := 5) rfl _ _ w.heap.size _ _ _ rfl hbj Try.underlying26 rfl (by kernel_rfl)) rfl ?_
      exact ⟨_, _, rfl, OwnL.nil _ _ _ _ _, OwnL.nil _ _ _ _ _, HBj.out⟩
    have tp : decide (pl ≤ b) = false := decide_eq_false hpl
    have hF5 := HF4.out
    rw [if_neg hpl] at hF5
    have HF5 := Lib.hid hF5
    have HPl2 : Hid (b + 1 ≤ pl) := Lib.hid (by omega)
    clear hF5 HF4 hpl
    have HWt := Lib.hid (with_any W3.drew (gx + 1) (K.out.at 1 rfl).lt tb 0 tb 0 (.slice none 0 0) (.slice none 0 0) vA vW vA' vW' p q HOA.out.drew HOW.out.drew HAp.out HA'.out.drew HW'.out.drew rfl HAx.out (by have h1 := HPI.out.lenA; have h2 := HQI.out.lenA; have h3 := HBd.out; omega) (by have h1 := HPI.out.lenW; have h2 := HQI.out.lenW; have h3 := HBd.out; omega))
    have HJI := Lib.hid (joinP_in HPI.out HQI.out HPl2.out)
    clear HOA HOW HA' HW' HAp HAx HPI HQI HBd HPl2
    go_upto_region 18 with fail
    clear tp
    refine wp_region_noPanic ?_
    refine wp_region_G 2 (KR w.heap.size w [(gy, 26, entC tb 0 (.slice none 0 0) vA' vW' q.cl q.me q.ma q.mt q.gt), (gx, 26, entC tb 0 (.slice none 0 0) vA vW p.cl p.me p.ma p.mt p.gt), (w.heap.size, 26, entC 0 0 (.slice none 0 0) (.slice none 0 0) (.slice none 0 0) false 0 0 0 0)]) (by kernel_rfl) ?_
    change wpG _ _ _ _ _ 11 #[false, false, false, false, false, false, false, false, false, false, false] _ (World.drew _)
    replace K := Lib.hid K.out.drew
    refine wpG_pure (i := 3) (v := ?_) rfl (by kernel_rfl) (by kernel_rfl) (by kernel_rfl) (fun _ _ _ h => h) (Or.inl ⟨by rfl, ?_⟩) ?_
    rotate_left
    · (intro w_ hS; clear hS; go_simp; try with_reducible rfl)
    try simp only [List.getElem_toArray, List.getElem_cons_zero, List.getElem_cons_succ, Act.put, List.setIfInBounds_toArray, List.set_cons_zero, List.set_cons_succ]
    refine wpG_pure (i := 5) (v := ?_) rfl (by kernel_rfl) (by kernel_rfl) (by kernel_rfl) (fun _ _ _ h => h) (Or.inl ⟨by rfl, ?_⟩) ?_
    rotate_left
    · (intro w_ hS; clear hS; go_simp; try with_reducible rfl)
    try simp only [List.getElem_toArray, List.getElem_cons_zero, List.getElem_cons_succ, Act.put, List.setIfInBounds_toArray, List.set_cons_zero, List.set_cons_succ]
    refine wpG_pure (i := 6) (v := ?_) rfl (by kernel_rfl) (by kernel_rfl) (by kernel_rfl) (fun _ _ _ h => h) (Or.inl ⟨by rfl, ?_⟩) ?_
    rotate_left
    · (intro w_ hS; clear hS; go_simp; try with_reducible rfl)
    try simp only [List.getElem_toArray, List.getElem_cons_zero, List.getElem_cons_succ, Act.put, List.setIfInBounds_toArray, List.set_cons_zero, List.set_cons_succ]
    refine wpG_pure (i := 7) (v := ?_) rfl (by kernel_rfl) (by kernel_rfl) (by kernel_rfl) (fun _ _ _ h => h) (Or.inl ⟨by rfl, ?_⟩) ?_
    rotate_left
    · (intro w_ hS; clear hS; go_simp; try with_reducible rfl)
    try simp only [List.getElem_toArray, List.getElem_cons_zero, List.getElem_cons_succ, Act.put, List.setIfInBounds_toArray, List.set_cons_zero, List.set_cons_succ]
    refine wpG_take (i := 0) rfl (by kernel_rfl) (by kernel_rfl) (by kernel_rfl) (fun _ _ _ h => h) (Or.inl ⟨by rfl, fun w_ hS => exec_row 26 _ rfl _ rfl _ (run_loadVar_row w_ _ _ 26 _ (0, 0) _ (hS.at 1 rfl) Try.underlying26 rfl (by kernel_rfl))⟩) K.out ?_
    try simp only [List.getElem_toArray, List.getElem_cons_zero, List.getElem_cons_succ, Act.put, List.setIfInBounds_toArray, List.set_cons_zero, List.set_cons_succ]
    refine wpG_take (i := 1) rfl (by kernel_rfl) (by kernel_rfl) (by kernel_rfl) (fun _ _ _ h => h) (Or.inl ⟨by rfl, fun w_ hS => exec_row 26 _ rfl _ rfl _ (run_loadVar_row w_ _ _ 26 _ (0, 0) _ (hS.at 0 rfl) Try.underlying26 rfl (by kernel_rfl))⟩) K.out ?_
    try simp only [List.getElem_toArray, List.getElem_cons_zero, List.getElem_cons_succ, Act.put, List.setIfInBounds_toArray, List.set_cons_zero, List.set_cons_succ]
    generalize joinP p q = pq at *
    refine wpG_ready (i := 2) rfl (by kernel_rfl) (fun K_ hK => ?_)
    go_simp
    refine HWt.out.mono ?_
    rintro e w4 ⟨vA2, vW2, rfl, hoA2, hoW2, hap2, hb4, hs4⟩
    have K4 : Hid (KR w.heap.size w [(gx, 26, entC tb 0 (.slice none 0 0) vA vW p.cl p.me p.ma p.mt p.gt), (w.heap.size, 26, entC 0 0 (.slice none 0 0) (.slice none 0 0) (.slice none 0 0) false 0 0 0 0)] w4) := Lib.hid (KR.past (C := gx + 1) (K.out.sub (fun x hx => .tail _ hx)) hb4 hs4 (fun x hx => by
      simp only [List.mem_cons, List.not_mem_nil, or_false] at hx
      have := HGx.out
      rcases hx with rfl | rfl <;> simp only <;> omega) (by have := HGx.out; omega))
    have oA : vA2.oneCell' = true := by obtain ⟨aa, ac, hva, _, _⟩ := hoA2.slice; rw [hva]; rfl
    have oW : vW2.oneCell' = true := by obtain ⟨aa, ac, hva, _, _⟩ := hoW2.slice; rw [hva]; rfl
    have HO := Lib.hid (And.intro oA oW)
    have HOA := Lib.hid hoA2
    have HOW := Lib.hid hoW2
    have HAp := Lib.hid hap2
    clear hoA2 hoW2 hap2 hb4 hs4 oA oW HWt
    refine hK.out _ _ (fun h_ _ => absurd h_ (by decide)) ?_
    clear hK K_ K
    try simp only [List.getElem_toArray, List.getElem_cons_zero, List.getElem_cons_succ, Act.put, List.setIfInBounds_toArray, List.set_cons_zero, List.set_cons_succ]
    refine wpG_ready (i := 4) rfl (by kernel_rfl) (fun K_ hK => ?_)
    go_simp
    refine (HPl.out _).mono ?_
    rintro e wz ⟨rfl, rfl⟩
    refine hK.out _ _ (fun h_ _ => absurd h_ (by decide)) ?_
    clear hK K_ HPl
    try simp only [List.getElem_toArray, List.getElem_cons_zero, List.getElem_cons_succ, Act.put, List.setIfInBounds_toArray, List.set_cons_zero, List.set_cons_succ]
    refine wpG_ready (i := 8) rfl (by kernel_rfl) (fun K_ hK => ?_)
    try rw [if_pos (by rfl)]
    refine wp_store_row 26 _ _ rfl _ rfl (entC tb 0 (.slice none 0 0) vA2 vW2 pq.cl pq.me pq.ma pq.mt pq.gt) rfl _ _ (K4.out.at 0 rfl) rfl (by kernel_rfl) (by simp [Value.oneCell']; exact ⟨HO.out.1, HO.out.2⟩) ?_
    intro w5 hbj hbarj
    have hbr : Bar gx w4 w5 := by first | exact hbarj | (have h := hbarj; exact h)
    have hKA : ∀ k, vA2.ownBlock = some k → k ≠ gx := fun k hk => by have := (HOA.out.block k hk).1; omega
    have hKW : ∀ k, vW2.ownBlock = some k → k ≠ gx := fun k hk => by have := (HOW.out.block k hk).1; omega
    replace HOA := Lib.hid (OwnL.bar (g := gx) HOA.out hbr hKA)
    replace HOW := Lib.hid (OwnL.bar (g := gx) HOW.out hbr hKW)
    have K5 : Hid (KR w.heap.size w [(gx, 26, entC tb 0 (.slice none 0 0) vA2 vW2 pq.cl pq.me pq.ma pq.mt pq.gt), (w.heap.size, 26, entC 0 0 (.slice none 0 0) (.slice none 0 0) (.slice none 0 0) false 0 0 0 0)] w5) := Lib.hid ((KR.barOut (g := gx) (K4.out.sub (fun x hx => .tail _ hx)) hbr (by have := HGx.out; omega) (fun x hx => by
      simp only [List.mem_cons, List.not_mem_nil, or_false] at hx
      have := HGx.out
      subst hx
      simp only
      omega)).add hbj)
    refine hK.out _ _ (fun h_ _ => absurd h_ (by decide)) ?_
    clear hK K_ K4 hbj hbarj hbr hKA hKW HO
    try simp only [List.getElem_toArray, List.getElem_cons_zero, List.getElem_cons_succ, Act.put, List.setIfInBounds_toArray, List.set_cons_zero, List.set_cons_succ]
    refine wpG_ready (i := 9) rfl (by kernel_rfl) (fun K_ hK => ?_)
    go_simp
    refine hK.out _ _ (fun h_ _ => absurd h_ (by decide)) ?_
    clear hK K_
    try simp only [List.getElem_toArray, List.getElem_cons_zero, List.getElem_cons_succ, Act.put, List.setIfInBounds_toArray, List.set_cons_zero, List.set_cons_succ]
    refine wpG_ready (i := 10) rfl (by kernel_rfl) (fun K_ hK => ?_)
    go_simp
    refine hK.out _ _ (fun h_ _ => absurd h_ (by decide)) ?_
    clear hK K_
    try simp only [List.getElem_toArray, List.getElem_cons_zero, List.getElem_cons_succ, Act.put, List.setIfInBounds_toArray, List.set_cons_zero, List.set_cons_succ]
    refine wpG_done (by kernel_rfl) ?_ _
    refine NoPanic.normal ?_
    go_wp2_with fail
    go_roundg n0
    case measure => omega
    case rel => exact ⟨_, pl, pq, vA2, vW2, rfl, rfl, Lib.hid (by have := HD.out; rw [ByteArray.size_extract]; omega), Lib.hid (by have := HG.out; rw [ByteArray.size_extract]; omega), HPb, HJI, HF5, HOA, HOW, HAp, K5⟩
end Go.Proofs.Ytdjhbahiiabimaa
