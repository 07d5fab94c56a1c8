/- Right of the reference. -/
import Derived.Test.YtaaadbmhcfjooaaMatchB3
import Derived.Test.YtaaadbmhcfjooaaMatchD
namespace Go.Proofs.Ytaaadbmhcfjooaa
open Go.RowKit
set_option linter.unusedVariables false

theorem widthF_pos {f : Int} (h : widthF f ≠ 0) : 1 ≤ f ∧ f ≤ 9 := by
  rcases fcases f with rfl | rfl | rfl | rfl | rfl | rfl | rfl | rfl | rfl | ⟨_, _, _, _, _, _, _, _, _, h'⟩
  case inr.inr.inr.inr.inr.inr.inr.inr.inr => exact absurd (widthF_none h') h
  all_goals decide
/-- What the reference asks, in the order in which it asks. -/
theorem badT_ref (ahead : List Test) (last : Int) (t : Test) (hok : okT t) :
    badT ahead last t = (decide (t.fField ≤ last) || (t.fMask == 0 || !(bits .and .u64 t.fMask (greatF t.fField) == t.fMask) || !(bits .and .u64 t.fValue t.fMask == t.fValue)) || !(basedF ahead t.fField)) := by
  have h1 : (bits .andNot .u64 t.fMask (greatF t.fField) == 0) = (bits .and .u64 t.fMask (greatF t.fField) == t.fMask) := by
    have := andNot_iff hok.2 (greatF_U64 t.fField)
    rw [Bool.eq_iff_iff, beq_iff_eq, beq_iff_eq]; exact this
  have h2 : (bits .andNot .u64 t.fValue t.fMask == 0) = (bits .and .u64 t.fValue t.fMask == t.fValue) := by
    have := andNot_iff hok.1 hok.2
    rw [Bool.eq_iff_iff, beq_iff_eq, beq_iff_eq]; exact this
  unfold badT
  rw [h1, h2]
  simp only [Bool.or_assoc]

set_option maxRecDepth 100000 in
set_option maxHeartbeats 16000000 in
theorem rRight_any (w : World) (v : Value) (l : List Test) (h : ReadL w 3 encTest v l) (hok : ∀ t ∈ l, okT t) :
    Calls Try.prog 11 #[v] w fun e w' => e = .returned (.int .i64 (rightF l)) ∧ Below w.heap.size w w' := by
  have HW := Lib.hid (fun W f => rWidth_any W f)
  have HA := Lib.hid (fun W f => rAll_any W f)
  have HWh := Lib.hid (fun W v l f n hn h => rWhole_any W v l f n hn h)
  have HV := Lib.hid h
  have HOK := Lib.hid hok
  obtain ⟨a, cap, rfl, hcap, hmax, hcells⟩ := h
  have HC := Lib.hid hcells
  unfold maxLen at hmax
  clear hcells hok
  go_enter Try.func11, Try.ntmps11
  go_wp2_with fail
  go_loopw [3] (fun iv wr => ∃ k : Nat, k ≤ l.length ∧ iv = .int .i64 k ∧ Hid (Below w.heap.size w wr) ∧ Hid (SoFar l k)) (fun iv _ => l.length - (intOf iv).toNat)
  case atStart => exact ⟨0, Nat.zero_le _, rfl, Lib.hid (Below.refl _ w), Lib.hid (SoFar.start l)⟩
  case round =>
    obtain ⟨k, hk, rfl, hb, hq⟩ := hrel
    by_cases hlt : k < l.length
    · have d1 : decide (k < l.length) = true := by simpa using hlt
      rcases HC.out with hnil | ⟨b, off, rfl, hblt, hcell⟩
      · rw [hnil] at hlt; simp at hlt
      have c0 := (hb.out.cell (p := ⟨b, off + (k * 3 + 0), none⟩) hblt).trans (hcell k 0 _ hlt rfl)
      have c1 := (hb.out.cell (p := ⟨b, off + (k * 3 + 1), none⟩) hblt).trans (hcell k 1 _ hlt rfl)
      have c2 := (hb.out.cell (p := ⟨b, off + (k * 3 + 2), none⟩) hblt).trans (hcell k 2 _ hlt rfl)
      simp only [Nat.add_zero, ← Nat.add_assoc] at c0 c1 c2
      have HPrev : Hid (∀ m, k = m + 1 → ∃ pf, w.cell? ⟨b, off + m * 3, none⟩ = some (.int .i64 pf) ∧ lastF l k = pf) := by
        show _
        intro m hm
        subst hm
        have hm' : m < l.length := by omega
        have := hcell m 0 _ hm' rfl
        simp only [Nat.add_zero] at this
        exact ⟨_, this, lastF_succ l m hm'⟩
      have HWk := Lib.hid (fun W' (hW : Below w.heap.size w W') f => HWh.out W' _ l f k hk (HV.out.below hW (Nat.le_refl _)))
      have Hn := Lib.hid (fun h0 => hq.out.next hlt h0)
      have Hs := Lib.hid (fun h0 => hq.out.stop hlt h0)
      have hot := HOK.out _ (List.getElem_mem hlt)
      clear hcell HC hq HV HWh HOK
      generalize hy : l[k] = y at c0 c1 c2 Hn Hs hot
      clear hy
      obtain ⟨tf, tv, tm⟩ := y
      have HWd := Lib.hid (fun W => HW.out W tf)
      have HAl := Lib.hid (fun W => HA.out W tf)
      clear HW HA
      have HD := Lib.hid (badT_ref (l.take k) (lastF l k) ⟨tf, tv, tm⟩ hot)
      clear hot
      by_cases hw0 : widthF tf = 0
      · have HRES := Lib.hid ((Hs.out (by rw [rightC_none hw0]; decide)).trans (rightC_none hw0))
        rw [hw0] at HWd
        clear hw0 Hs Hn HWk HAl HD HPrev
        go_upto_region 5 with fail
        refine one_box_wp ?_
        intro W hb1 hbel hsz
        have t0 := (cell_of_row W _ 0 _ _ (0, 0) hb1).trans rfl
        have HB := Lib.hid (hb.out.trans (hbel.mono hb.out.size))
        clear hb1 hbel hsz c0 c1 c2
        go_wp2_with fail
        refine (HWd.out _).mono ?_
        rintro e w' ⟨rfl, b'⟩
        have HB2 := Lib.hid (HB.out.trans (b'.mono HB.out.size))
        clear b'
        go_wp2
        go_ret
        exact ⟨by rw [HRES.out]; rfl, HB2.out⟩
      have tw : (widthF tf == 0) = false := beq_eq_false_iff_ne.mpr hw0
      have Hbad := Lib.hid (fun (hx : badT (l.take k) (lastF l k) ⟨tf, tv, tm⟩ = true) => (Hs.out (by rw [rightC_bad hw0 hx]; decide)).trans (rightC_bad hw0 hx))
      have Hgood := Lib.hid (fun (hx : badT (l.take k) (lastF l k) ⟨tf, tv, tm⟩ = false) => Hn.out (rightC_good hw0 hx))
      have hpos := widthF_pos hw0
      generalize widthF tf = wd at *
      clear hw0 Hs Hn
      obtain ⟨x3, e3⟩ : ∃ x, bits .and .u64 tm (greatF tf) = x := ⟨_, rfl⟩
      obtain ⟨x4, e4⟩ : ∃ x, bits .and .u64 tv tm = x := ⟨_, rfl⟩
      have HE3 := Lib.hid e3
      have HE4 := Lib.hid e4
      clear e3 e4
      have HD2 : Hid (badT (l.take k) (lastF l k) ⟨tf, tv, tm⟩ = (decide (tf ≤ lastF l k) || (tm == 0 || !(x3 == tm) || !(x4 == tv)) || !(basedF (l.take k) tf))) := by
        rw [← HE3.out, ← HE4.out]; exact HD
      clear HD
      have e3 := HE3.out
      have e4 := HE4.out
      clear HE3 HE4
      generalize greatF tf = gm at *
      have HBF : Hid (basedF (l.take k) tf = basedF (l.take k) tf) := Lib.hid rfl
      have H5 : Hid ((tf = 5 ∨ tf = 6 ∨ tf = 7) → basedF (l.take k) tf = ((wholeF (l.take k) 4).2 && (wholeF (l.take k) 4).1 == 2048)) := by
        show _
        intro h5; unfold basedF; rw [if_pos h5]
      have H8 : Hid ((tf = 8 ∨ tf = 9) → basedF (l.take k) tf = ((wholeF (l.take k) 7).2 && ((wholeF (l.take k) 7).1 == 6 || (wholeF (l.take k) 7).1 == 17))) := by
        show _
        intro h8; unfold basedF; rw [if_neg (by omega), if_pos h8]
      have H1 : Hid (tf < 5 → basedF (l.take k) tf = true) := by
        show _
        intro h1; unfold basedF; rw [if_neg (by omega), if_neg (by omega)]
      have HW4 := Lib.hid (fun W' hW => HWk.out W' hW 4)
      have HW7 := Lib.hid (fun W' hW => HWk.out W' hW 7)
      clear HWk HBF
      generalize wholeF (l.take k) 4 = q4 at *
      generalize wholeF (l.take k) 7 = q7 at *
      obtain ⟨v4, b4⟩ := q4
      obtain ⟨v7, b7⟩ := q7
      generalize basedF (l.take k) tf = bb at *
      go_upto_region 5 with fail
      refine one_box_wp ?_
      intro W hb1 hbel hsz
      have hK := Lib.hid ((KR.start hbel hbel.size).add hb1)
      have t0 := (cell_of_row W _ 0 _ _ (0, 0) hb1).trans rfl
      clear hb1 hbel hsz c0 c1 c2
      go_wp2_with fail
      refine (HWd.out _).mono ?_
      rintro e w1 ⟨rfl, b'⟩
      have hK1 := Lib.hid (hK.out.call b')
      clear t0 b' hK HWd
      haveI : Nonempty (Keep (KR wr.heap.size wr [(wr.heap.size, 48, #[.int .i64 tf, .int .u64 tv, .int .u64 tm])])) := ⟨⟨_, hK1.out⟩⟩
      have k0 : ∀ p : Keep (KR wr.heap.size wr [(wr.heap.size, 48, #[.int .i64 tf, .int .u64 tv, .int .u64 tm])]), p.w.cell? ⟨wr.heap.size, 0, none⟩ = some (.int .i64 tf) := fun p => p.h.cell 0 0 rfl rfl
      have k1 : ∀ p : Keep (KR wr.heap.size wr [(wr.heap.size, 48, #[.int .i64 tf, .int .u64 tv, .int .u64 tm])]), p.w.cell? ⟨wr.heap.size, 1, none⟩ = some (.int .u64 tv) := fun p => p.h.cell 0 1 rfl rfl
      have k2 : ∀ p : Keep (KR wr.heap.size wr [(wr.heap.size, 48, #[.int .i64 tf, .int .u64 tv, .int .u64 tm])]), p.w.cell? ⟨wr.heap.size, 2, none⟩ = some (.int .u64 tm) := fun p => p.h.cell 0 2 rfl rfl
      have HST : Hid (∀ W, KR wr.heap.size wr [(wr.heap.size, 48, #[.int .i64 tf, .int .u64 tv, .int .u64 tm])] W → Below w.heap.size w W) := by
        show _
        intro W h
        exact hb.out.trans (h.below.mono hb.out.size)
      rcases Nat.eq_zero_or_pos k with hk0 | hk0
      · subst hk0
        have hl0 : lastF l 0 = 0 := by unfold lastF; rw [dif_neg (by omega)]
        have HL : Hid (decide (tf ≤ lastF l 0) = false) := Lib.hid (by rw [hl0]; simp; omega)
        clear HPrev hl0
        go_upto_region 7 with fail
        refine wp_region_keep2 (Cl := (KR wr.heap.size wr [(wr.heap.size, 48, #[.int .i64 tf, .int .u64 tv, .int .u64 tm])])) (by kernel_rfl) (by kernel_rfl) hK1.out.drew ?_
        intro y hy
        have g2 := fun tmps => hy tmps 2 23 rfl
        have gb := yl_bool
        clear hy
        repeat
          refine wpQ2_step (fun K hK => ?_)
          go_simp
          first
            | (refine hK _ ?_; clear hK K)
            | (apply Exists.intro
               refine ⟨fun _ => ?_, hK _ ?_⟩
               (fail)
               clear hK K)
        refine wpQ2_nil ?_
        clear g2 gb
        intro WK9 K9
        go_upto_region 9 with fail
        have hK9 := Lib.hid K9
        clear d1
        by_cases h2 : tm = 0
        · have a2 : (tm == 0) = true := by simpa using h2
          have HRES := Lib.hid (Hbad.out (by rw [HD2.out]; simp [h2]))
          clear h2 HD2 Hbad Hgood
          refine wp_region_keep2 (Cl := (KR wr.heap.size wr [(wr.heap.size, 48, #[.int .i64 tf, .int .u64 tv, .int .u64 tm])])) (by kernel_rfl) (by kernel_rfl) K9.drew ?_
          intro y hy
          have g3 := fun tmps => hy tmps 3 37 rfl
          have g14 := fun tmps => hy tmps 14 48 rfl
          have gb := yl_bool
          clear hy
          repeat
            refine wpQ2_step (fun K hK => ?_)
            go_simp
            first
              | (refine hK _ ?_; clear hK K)
              | (apply Exists.intro
                 refine ⟨fun _ => ?_, hK _ ?_⟩
                 (exact Calls.keep (HAl.out _) (fun w' hb => KR.call (Keep.h _) hb))
                 clear hK K)
          refine wpQ2_nil ?_
          clear g3 g14 gb
          intro WKA KA
          have HB := Lib.hid (HST.out _ KA)
          clear k0 k1 k2 KA
          go_wp2
          go_ret
          exact ⟨by rw [HRES.out]; rfl, HB.out⟩
        have a2 : (tm == 0) = false := beq_eq_false_iff_ne.mpr h2
        by_cases h3 : x3 = tm
        case neg =>
          have a3 : (x3 == tm) = false := beq_eq_false_iff_ne.mpr h3
          have a3' : decide (x3 = tm) = false := decide_eq_false h3
          have HRES := Lib.hid (Hbad.out (by rw [HD2.out]; simp [h3]))
          clear h2 HD2 Hbad Hgood
          refine wp_region_keep2 (Cl := (KR wr.heap.size wr [(wr.heap.size, 48, #[.int .i64 tf, .int .u64 tv, .int .u64 tm])])) (by kernel_rfl) (by kernel_rfl) K9.drew ?_
          intro y hy
          have g3 := fun tmps => hy tmps 3 37 rfl
          have g14 := fun tmps => hy tmps 14 48 rfl
          have gb := yl_bool
          clear hy
          repeat
            refine wpQ2_step (fun K hK => ?_)
            go_simp
            first
              | (refine hK _ ?_; clear hK K)
              | (apply Exists.intro
                 refine ⟨fun _ => ?_, hK _ ?_⟩
                 (exact Calls.keep (HAl.out _) (fun w' hb => KR.call (Keep.h _) hb))
                 clear hK K)
          refine wpQ2_nil ?_
          clear g3 g14 gb
          intro WKA KA
          have HB := Lib.hid (HST.out _ KA)
          clear k0 k1 k2 KA
          go_wp2
          go_ret
          exact ⟨by rw [HRES.out]; rfl, HB.out⟩
        have a3 : (x3 == tm) = true := by simpa using h3
        rw [h3] at e3
        by_cases h4 : x4 = tv
        case neg =>
          have a4 : (x4 == tv) = false := beq_eq_false_iff_ne.mpr h4
          have HRES := Lib.hid (Hbad.out (by rw [HD2.out]; simp [h4]))
          clear h2 h3 HD2 Hbad Hgood
          refine wp_region_keep2 (Cl := (KR wr.heap.size wr [(wr.heap.size, 48, #[.int .i64 tf, .int .u64 tv, .int .u64 tm])])) (by kernel_rfl) (by kernel_rfl) K9.drew ?_
          intro y hy
          have g3 := fun tmps => hy tmps 3 37 rfl
          have g14 := fun tmps => hy tmps 14 48 rfl
          have gb := yl_bool
          clear hy
          repeat
            refine wpQ2_step (fun K hK => ?_)
            go_simp
            first
              | (refine hK _ ?_; clear hK K)
              | (apply Exists.intro
                 refine ⟨fun _ => ?_, hK _ ?_⟩
                 (exact Calls.keep (HAl.out _) (fun w' hb => KR.call (Keep.h _) hb))
                 clear hK K)
          refine wpQ2_nil ?_
          clear g3 g14 gb
          intro WKA KA
          have HB := Lib.hid (HST.out _ KA)
          clear k0 k1 k2 KA
          go_wp2
          go_ret
          exact ⟨by rw [HRES.out]; rfl, HB.out⟩
        have a4 : (x4 == tv) = true := by simpa using h4
        rw [h4] at e4
        have HD3 := Lib.hid (HD2.out)
        rw [HL.out, a2, a3, a4] at HD3
        clear h2 h3 h4 HD2
        refine wp_region_keep2 (Cl := (KR wr.heap.size wr [(wr.heap.size, 48, #[.int .i64 tf, .int .u64 tv, .int .u64 tm])])) (by kernel_rfl) (by kernel_rfl) K9.drew ?_
        intro y hy
        have g3 := fun tmps => hy tmps 3 37 rfl
        have g14 := fun tmps => hy tmps 14 48 rfl
        have gb := yl_bool
        clear hy
        repeat
          refine wpQ2_step (fun K hK => ?_)
          go_simp
          first
            | (refine hK _ ?_; clear hK K)
            | (apply Exists.intro
               refine ⟨fun _ => ?_, hK _ ?_⟩
               (exact Calls.keep (HAl.out _) (fun w' hb => KR.call (Keep.h _) hb))
               clear hK K)
        refine wpQ2_nil ?_
        clear g3 g14 gb
        intro WKA KA
        have HB := Lib.hid (HST.out _ KA)
        clear K9 hK9 k1 k2
        have t0 := KA.cell 0 0 rfl rfl
        have hKA := Lib.hid KA
        clear KA
        go_wp2_with fail
        refine (HW4.out _ HB.out).mono ?_
        rintro e w4 ⟨rfl, b'⟩
        have KB := hKA.out.call b'
        have HB2 := Lib.hid (HST.out _ KB)
        have t1 := KB.cell 0 0 rfl rfl
        have hKB := Lib.hid KB
        clear KB b' t0 hKA HB
        by_cases d5 : 5 ≤ tf ∧ tf ≤ 7
        · have a5 : decide (5 ≤ tf) = true := by simp; omega
          have a7 : decide (tf ≤ 7) = true := by simp; omega
          have a8 : decide (8 ≤ tf) = false := by simp; omega
          have hbb := H5.out (by omega)
          clear H5 H8 H1 d5 hpos
          cases b4 with
          | false =>
            have HRES := Lib.hid (Hbad.out (by rw [HD3.out, hbb]; rfl))
            clear hbb HD3 Hbad Hgood
            go_wp2
            go_ret
            exact ⟨by rw [HRES.out]; rfl, HB2.out⟩
          | true =>
            by_cases hv : v4 = 2048
            · have av : (v4 == 2048) = true := by simpa using hv
              have HRES := Lib.hid (Hgood.out (by rw [HD3.out, hbb, av]; rfl))
              clear hbb HD3 Hbad Hgood av
              subst hv
              go_wp2_with fail
              refine (HW7.out _ HB2.out).mono ?_
              rintro e w7 ⟨rfl, b'⟩
              have KC := hKB.out.call b'
              have HB3 := Lib.hid (HST.out _ KC)
              have t2 := KC.cell 0 0 rfl rfl
              clear KC b' t1 hKB HB2
              go_wp2_with fail
              go_roundw
              case rel => exact ⟨_, hlt, by go_num, HB3, HRES⟩
              case measure => simp [intOf]; omega
            · have av : (v4 == 2048) = false := beq_eq_false_iff_ne.mpr hv
              have an : (v4 != 2048) = true := by simp [hv]
              have HRES := Lib.hid (Hbad.out (by rw [HD3.out, hbb, av]; rfl))
              clear hbb HD3 Hbad Hgood
              go_wp2
              go_ret
              exact ⟨by rw [HRES.out]; rfl, HB2.out⟩
        by_cases d8 : 8 ≤ tf
        · have a5 : decide (5 ≤ tf) = true := by simp; omega
          have a7 : decide (tf ≤ 7) = false := by simp; omega
          have a8 : decide (8 ≤ tf) = true := by simp; omega
          have hbb := H8.out (by omega)
          clear H5 H8 H1 d5 d8 hpos
          cases b7 with
          | false =>
            have HRES := Lib.hid (Hbad.out (by rw [HD3.out, hbb]; rfl))
            clear hbb HD3 Hbad Hgood
            go_wp2_with fail
            refine (HW7.out _ HB2.out).mono ?_
            rintro e w7 ⟨rfl, b'⟩
            have KC := hKB.out.call b'
            have HB3 := Lib.hid (HST.out _ KC)
            have t2 := KC.cell 0 0 rfl rfl
            clear KC b' t1 hKB HB2
            go_wp2
            go_ret
            exact ⟨by rw [HRES.out]; rfl, HB3.out⟩
          | true =>
            by_cases hv : v7 = 6
            · have av : (v7 == 6) = true := by simpa using hv
              have HRES := Lib.hid (Hgood.out (by rw [HD3.out, hbb, av]; rfl))
              clear hbb HD3 Hbad Hgood av
              subst hv
              go_wp2_with fail
              refine (HW7.out _ HB2.out).mono ?_
              rintro e w7 ⟨rfl, b'⟩
              have KC := hKB.out.call b'
              have HB3 := Lib.hid (HST.out _ KC)
              have t2 := KC.cell 0 0 rfl rfl
              clear KC b' t1 hKB HB2
              go_wp2_with fail
              go_roundw
              case rel => exact ⟨_, hlt, by go_num, HB3, HRES⟩
              case measure => simp [intOf]; omega
            · have av : (v7 == 6) = false := beq_eq_false_iff_ne.mpr hv
              by_cases hv2 : v7 = 17
              · have av2 : (v7 == 17) = true := by simpa using hv2
                have HRES := Lib.hid (Hgood.out (by rw [HD3.out, hbb, av, av2]; rfl))
                clear hbb HD3 Hbad Hgood hv av2
                subst hv2
                go_wp2_with fail
                refine (HW7.out _ HB2.out).mono ?_
                rintro e w7 ⟨rfl, b'⟩
                have KC := hKB.out.call b'
                have HB3 := Lib.hid (HST.out _ KC)
                have t2 := KC.cell 0 0 rfl rfl
                clear KC b' t1 hKB HB2
                go_wp2_with fail
                go_roundw
                case rel => exact ⟨_, hlt, by go_num, HB3, HRES⟩
                case measure => simp [intOf]; omega
              · have av2 : (v7 == 17) = false := beq_eq_false_iff_ne.mpr hv2
                have an : (v7 != 6) = true := by simp [hv]
                have an2 : (v7 != 17) = true := by simp [hv2]
                have HRES := Lib.hid (Hbad.out (by rw [HD3.out, hbb, av, av2]; rfl))
                clear hbb HD3 Hbad Hgood
                go_wp2_with fail
                refine (HW7.out _ HB2.out).mono ?_
                rintro e w7 ⟨rfl, b'⟩
                have KC := hKB.out.call b'
                have HB3 := Lib.hid (HST.out _ KC)
                have t2 := KC.cell 0 0 rfl rfl
                clear KC b' t1 hKB HB2
                go_wp2
                go_ret
                exact ⟨by rw [HRES.out]; rfl, HB3.out⟩
        have a5 : decide (5 ≤ tf) = false := by simp; omega
        have a8 : decide (8 ≤ tf) = false := by simp; omega
        have hbb := H1.out (by omega)
        have HRES := Lib.hid (Hgood.out (by rw [HD3.out, hbb]; rfl))
        clear hbb HD3 Hbad Hgood H5 H8 H1 d5 d8 hpos
        go_wp2_with fail
        refine (HW7.out _ HB2.out).mono ?_
        rintro e w7 ⟨rfl, b'⟩
        have KC := hKB.out.call b'
        have HB3 := Lib.hid (HST.out _ KC)
        have t2 := KC.cell 0 0 rfl rfl
        clear KC b' t1 hKB HB2
        go_wp2_with fail
        go_roundw
        case rel => exact ⟨_, hlt, by go_num, HB3, HRES⟩
        case measure => simp [intOf]; omega
      · obtain ⟨m, rfl⟩ : ∃ m, k = m + 1 := ⟨k - 1, by omega⟩
        obtain ⟨pf, hpf, hlast⟩ := HPrev.out m rfl
        have kp : ∀ p : Keep (KR wr.heap.size wr [(wr.heap.size, 48, #[.int .i64 tf, .int .u64 tv, .int .u64 tm])]), p.w.cell? ⟨b, off + m * 3, none⟩ = some (.int .i64 pf) := fun p => ((HST.out _ p.h).cell (p := ⟨b, off + m * 3, none⟩) hblt).trans hpf
        have dm : decide (m < l.length) = true := by simp; omega
        have dm2 : m < l.length := by omega
        have hwm : IntKind.i64.wrap (m : Int) = (m : Int) := by
          simp [IntKind.wrap, IntKind.bits, IntKind.signed]
          omega
        clear hpf HPrev
        by_cases hpl : tf ≤ pf
        · have a1 : decide (tf ≤ pf) = true := by simpa using hpl
          have HRES := Lib.hid (Hbad.out (by rw [HD2.out, hlast]; simp [hpl]))
          clear hpl hlast HD2 Hbad Hgood
          go_upto_region 7 with fail
          refine wp_region_keep2 (Cl := (KR wr.heap.size wr [(wr.heap.size, 48, #[.int .i64 tf, .int .u64 tv, .int .u64 tm])])) (by kernel_rfl) (by kernel_rfl) hK1.out.drew ?_
          intro y hy
          have g2 := fun tmps => hy tmps 2 23 rfl
          have gb := yl_bool
          clear hy
          repeat
            refine wpQ2_step (fun K hK => ?_)
            go_simp
            first
              | (refine hK _ ?_; clear hK K)
              | (apply Exists.intro
                 refine ⟨fun _ => ?_, hK _ ?_⟩
                 (fail)
                 clear hK K)
          refine wpQ2_nil ?_
          clear g2 gb
          intro WK9 K9
          have HB := Lib.hid (HST.out _ K9)
          clear k0 k1 k2 kp K9
          go_wp2
          go_ret
          exact ⟨by rw [HRES.out]; rfl, HB.out⟩
        · have a1 : decide (tf ≤ pf) = false := by simpa using hpl
          have HL : Hid (decide (tf ≤ lastF l (m + 1)) = false) := Lib.hid (by rw [hlast]; exact a1)
          clear hpl hlast
          go_upto_region 7 with fail
          refine wp_region_keep2 (Cl := (KR wr.heap.size wr [(wr.heap.size, 48, #[.int .i64 tf, .int .u64 tv, .int .u64 tm])])) (by kernel_rfl) (by kernel_rfl) hK1.out.drew ?_
          intro y hy
          have g2 := fun tmps => hy tmps 2 23 rfl
          have gb := yl_bool
          clear hy
          repeat
            refine wpQ2_step (fun K hK => ?_)
            go_simp
            first
              | (refine hK _ ?_; clear hK K)
              | (apply Exists.intro
                 refine ⟨fun _ => ?_, hK _ ?_⟩
                 (fail)
                 clear hK K)
          refine wpQ2_nil ?_
          clear g2 gb
          intro WK9 K9
          clear kp dm dm2 hwm a1
          go_upto_region 9 with fail
          have hK9 := Lib.hid K9
          clear d1
          by_cases h2 : tm = 0
          · have a2 : (tm == 0) = true := by simpa using h2
            have HRES := Lib.hid (Hbad.out (by rw [HD2.out]; simp [h2]))
            clear h2 HD2 Hbad Hgood
            refine wp_region_keep2 (Cl := (KR wr.heap.size wr [(wr.heap.size, 48, #[.int .i64 tf, .int .u64 tv, .int .u64 tm])])) (by kernel_rfl) (by kernel_rfl) K9.drew ?_
            intro y hy
            have g3 := fun tmps => hy tmps 3 37 rfl
            have g14 := fun tmps => hy tmps 14 48 rfl
            have gb := yl_bool
            clear hy
            repeat
              refine wpQ2_step (fun K hK => ?_)
              go_simp
              first
                | (refine hK _ ?_; clear hK K)
                | (apply Exists.intro
                   refine ⟨fun _ => ?_, hK _ ?_⟩
                   (exact Calls.keep (HAl.out _) (fun w' hb => KR.call (Keep.h _) hb))
                   clear hK K)
            refine wpQ2_nil ?_
            clear g3 g14 gb
            intro WKA KA
            have HB := Lib.hid (HST.out _ KA)
            clear k0 k1 k2 KA
            go_wp2
            go_ret
            exact ⟨by rw [HRES.out]; rfl, HB.out⟩
          have a2 : (tm == 0) = false := beq_eq_false_iff_ne.mpr h2
          by_cases h3 : x3 = tm
          case neg =>
            have a3 : (x3 == tm) = false := beq_eq_false_iff_ne.mpr h3
            have a3' : decide (x3 = tm) = false := decide_eq_false h3
            have HRES := Lib.hid (Hbad.out (by rw [HD2.out]; simp [h3]))
            clear h2 HD2 Hbad Hgood
            refine wp_region_keep2 (Cl := (KR wr.heap.size wr [(wr.heap.size, 48, #[.int .i64 tf, .int .u64 tv, .int .u64 tm])])) (by kernel_rfl) (by kernel_rfl) K9.drew ?_
            intro y hy
            have g3 := fun tmps => hy tmps 3 37 rfl
            have g14 := fun tmps => hy tmps 14 48 rfl
            have gb := yl_bool
            clear hy
            repeat
              refine wpQ2_step (fun K hK => ?_)
              go_simp
              first
                | (refine hK _ ?_; clear hK K)
                | (apply Exists.intro
                   refine ⟨fun _ => ?_, hK _ ?_⟩
                   (exact Calls.keep (HAl.out _) (fun w' hb => KR.call (Keep.h _) hb))
                   clear hK K)
            refine wpQ2_nil ?_
            clear g3 g14 gb
            intro WKA KA
            have HB := Lib.hid (HST.out _ KA)
            clear k0 k1 k2 KA
            go_wp2
            go_ret
            exact ⟨by rw [HRES.out]; rfl, HB.out⟩
          have a3 : (x3 == tm) = true := by simpa using h3
          rw [h3] at e3
          by_cases h4 : x4 = tv
          case neg =>
            have a4 : (x4 == tv) = false := beq_eq_false_iff_ne.mpr h4
            have HRES := Lib.hid (Hbad.out (by rw [HD2.out]; simp [h4]))
            clear h2 h3 HD2 Hbad Hgood
            refine wp_region_keep2 (Cl := (KR wr.heap.size wr [(wr.heap.size, 48, #[.int .i64 tf, .int .u64 tv, .int .u64 tm])])) (by kernel_rfl) (by kernel_rfl) K9.drew ?_
            intro y hy
            have g3 := fun tmps => hy tmps 3 37 rfl
            have g14 := fun tmps => hy tmps 14 48 rfl
            have gb := yl_bool
            clear hy
            repeat
              refine wpQ2_step (fun K hK => ?_)
              go_simp
              first
                | (refine hK _ ?_; clear hK K)
                | (apply Exists.intro
                   refine ⟨fun _ => ?_, hK _ ?_⟩
                   (exact Calls.keep (HAl.out _) (fun w' hb => KR.call (Keep.h _) hb))
                   clear hK K)
            refine wpQ2_nil ?_
            clear g3 g14 gb
            intro WKA KA
            have HB := Lib.hid (HST.out _ KA)
            clear k0 k1 k2 KA
            go_wp2
            go_ret
            exact ⟨by rw [HRES.out]; rfl, HB.out⟩
          have a4 : (x4 == tv) = true := by simpa using h4
          rw [h4] at e4
          have HD3 := Lib.hid (HD2.out)
          rw [HL.out, a2, a3, a4] at HD3
          clear h2 h3 h4 HD2
          refine wp_region_keep2 (Cl := (KR wr.heap.size wr [(wr.heap.size, 48, #[.int .i64 tf, .int .u64 tv, .int .u64 tm])])) (by kernel_rfl) (by kernel_rfl) K9.drew ?_
          intro y hy
          have g3 := fun tmps => hy tmps 3 37 rfl
          have g14 := fun tmps => hy tmps 14 48 rfl
          have gb := yl_bool
          clear hy
          repeat
            refine wpQ2_step (fun K hK => ?_)
            go_simp
            first
              | (refine hK _ ?_; clear hK K)
              | (apply Exists.intro
                 refine ⟨fun _ => ?_, hK _ ?_⟩
                 (exact Calls.keep (HAl.out _) (fun w' hb => KR.call (Keep.h _) hb))
                 clear hK K)
          refine wpQ2_nil ?_
          clear g3 g14 gb
          intro WKA KA
          have HB := Lib.hid (HST.out _ KA)
          clear K9 hK9 k1 k2
          have t0 := KA.cell 0 0 rfl rfl
          have hKA := Lib.hid KA
          clear KA
          go_wp2_with fail
          refine (HW4.out _ HB.out).mono ?_
          rintro e w4 ⟨rfl, b'⟩
          have KB := hKA.out.call b'
          have HB2 := Lib.hid (HST.out _ KB)
          have t1 := KB.cell 0 0 rfl rfl
          have hKB := Lib.hid KB
          clear KB b' t0 hKA HB
          by_cases d5 : 5 ≤ tf ∧ tf ≤ 7
          · have a5 : decide (5 ≤ tf) = true := by simp; omega
            have a7 : decide (tf ≤ 7) = true := by simp; omega
            have a8 : decide (8 ≤ tf) = false := by simp; omega
            have hbb := H5.out (by omega)
            clear H5 H8 H1 d5 hpos
            cases b4 with
            | false =>
              have HRES := Lib.hid (Hbad.out (by rw [HD3.out, hbb]; rfl))
              clear hbb HD3 Hbad Hgood
              go_wp2
              go_ret
              exact ⟨by rw [HRES.out]; rfl, HB2.out⟩
            | true =>
              by_cases hv : v4 = 2048
              · have av : (v4 == 2048) = true := by simpa using hv
                have HRES := Lib.hid (Hgood.out (by rw [HD3.out, hbb, av]; rfl))
                clear hbb HD3 Hbad Hgood av
                subst hv
                go_wp2_with fail
                refine (HW7.out _ HB2.out).mono ?_
                rintro e w7 ⟨rfl, b'⟩
                have KC := hKB.out.call b'
                have HB3 := Lib.hid (HST.out _ KC)
                have t2 := KC.cell 0 0 rfl rfl
                clear KC b' t1 hKB HB2
                go_wp2_with fail
                go_roundw
                case rel => exact ⟨_, hlt, by go_num, HB3, HRES⟩
                case measure => simp [intOf]; omega
              · have av : (v4 == 2048) = false := beq_eq_false_iff_ne.mpr hv
                have an : (v4 != 2048) = true := by simp [hv]
                have HRES := Lib.hid (Hbad.out (by rw [HD3.out, hbb, av]; rfl))
                clear hbb HD3 Hbad Hgood
                go_wp2
                go_ret
                exact ⟨by rw [HRES.out]; rfl, HB2.out⟩
          by_cases d8 : 8 ≤ tf
          · have a5 : decide (5 ≤ tf) = true := by simp; omega
            have a7 : decide (tf ≤ 7) = false := by simp; omega
            have a8 : decide (8 ≤ tf) = true := by simp; omega
            have hbb := H8.out (by omega)
            clear H5 H8 H1 d5 d8 hpos
            cases b7 with
            | false =>
              have HRES := Lib.hid (Hbad.out (by rw [HD3.out, hbb]; rfl))
              clear hbb HD3 Hbad Hgood
              go_wp2_with fail
              refine (HW7.out _ HB2.out).mono ?_
              rintro e w7 ⟨rfl, b'⟩
              have KC := hKB.out.call b'
              have HB3 := Lib.hid (HST.out _ KC)
              have t2 := KC.cell 0 0 rfl rfl
              clear KC b' t1 hKB HB2
              go_wp2
              go_ret
              exact ⟨by rw [HRES.out]; rfl, HB3.out⟩
            | true =>
              by_cases hv : v7 = 6
              · have av : (v7 == 6) = true := by simpa using hv
                have HRES := Lib.hid (Hgood.out (by rw [HD3.out, hbb, av]; rfl))
                clear hbb HD3 Hbad Hgood av
                subst hv
                go_wp2_with fail
                refine (HW7.out _ HB2.out).mono ?_
                rintro e w7 ⟨rfl, b'⟩
                have KC := hKB.out.call b'
                have HB3 := Lib.hid (HST.out _ KC)
                have t2 := KC.cell 0 0 rfl rfl
                clear KC b' t1 hKB HB2
                go_wp2_with fail
                go_roundw
                case rel => exact ⟨_, hlt, by go_num, HB3, HRES⟩
                case measure => simp [intOf]; omega
              · have av : (v7 == 6) = false := beq_eq_false_iff_ne.mpr hv
                by_cases hv2 : v7 = 17
                · have av2 : (v7 == 17) = true := by simpa using hv2
                  have HRES := Lib.hid (Hgood.out (by rw [HD3.out, hbb, av, av2]; rfl))
                  clear hbb HD3 Hbad Hgood hv av2
                  subst hv2
                  go_wp2_with fail
                  refine (HW7.out _ HB2.out).mono ?_
                  rintro e w7 ⟨rfl, b'⟩
                  have KC := hKB.out.call b'
                  have HB3 := Lib.hid (HST.out _ KC)
                  have t2 := KC.cell 0 0 rfl rfl
                  clear KC b' t1 hKB HB2
                  go_wp2_with fail
                  go_roundw
                  case rel => exact ⟨_, hlt, by go_num, HB3, HRES⟩
                  case measure => simp [intOf]; omega
                · have av2 : (v7 == 17) = false := beq_eq_false_iff_ne.mpr hv2
                  have an : (v7 != 6) = true := by simp [hv]
                  have an2 : (v7 != 17) = true := by simp [hv2]
                  have HRES := Lib.hid (Hbad.out (by rw [HD3.out, hbb, av, av2]; rfl))
                  clear hbb HD3 Hbad Hgood
                  go_wp2_with fail
                  refine (HW7.out _ HB2.out).mono ?_
                  rintro e w7 ⟨rfl, b'⟩
                  have KC := hKB.out.call b'
                  have HB3 := Lib.hid (HST.out _ KC)
                  have t2 := KC.cell 0 0 rfl rfl
                  clear KC b' t1 hKB HB2
                  go_wp2
                  go_ret
                  exact ⟨by rw [HRES.out]; rfl, HB3.out⟩
          have a5 : decide (5 ≤ tf) = false := by simp; omega
          have a8 : decide (8 ≤ tf) = false := by simp; omega
          have hbb := H1.out (by omega)
          have HRES := Lib.hid (Hgood.out (by rw [HD3.out, hbb]; rfl))
          clear hbb HD3 Hbad Hgood H5 H8 H1 d5 d8 hpos
          go_wp2_with fail
          refine (HW7.out _ HB2.out).mono ?_
          rintro e w7 ⟨rfl, b'⟩
          have KC := hKB.out.call b'
          have HB3 := Lib.hid (HST.out _ KC)
          have t2 := KC.cell 0 0 rfl rfl
          clear KC b' t1 hKB HB2
          go_wp2_with fail
          go_roundw
          case rel => exact ⟨_, hlt, by go_num, HB3, HRES⟩
          case measure => simp [intOf]; omega
    · have d1 : decide (k < l.length) = false := by simpa using hlt
      have HRES := Lib.hid (hq.out.all (by omega))
      clear HC HW HA HWh HV HOK hq
      go_wp2
      go_ret
      exact ⟨by rw [HRES.out]; rfl, hb.out⟩
end Go.Proofs.Ytaaadbmhcfjooaa
