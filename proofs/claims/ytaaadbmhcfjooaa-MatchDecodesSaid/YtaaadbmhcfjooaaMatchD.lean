/- match.Right. -/
import Derived.Test.YtaaadbmhcfjooaaMatchC
import Derived.Test.YtaaadbmhcfjooaaQuiet2
namespace Go.Proofs.Ytaaadbmhcfjooaa
open Go.RowKit
set_option linter.unusedVariables false

theorem ReadL.take {w : World} {l : List Test} {b off cap k : Nat} (hk : k ≤ l.length) (hcap : l.length ≤ cap) (hmax : cap ≤ maxLen) (hlt : b < w.heap.size)
    (hc : ∀ i j u, (hi : i < l.length) → (encTest l[i])[j]? = some u → w.cell? ⟨b, off + (i * 3 + j), none⟩ = some u) : ReadL w 3 encTest (.slice (some ⟨b, off, none⟩) k cap) (l.take k) := by
  refine ⟨_, cap, by rw [List.length_take, Nat.min_eq_left hk], by rw [List.length_take]; omega, hmax, .inr ⟨b, off, rfl, hlt, fun i j u hi hu => ?_⟩⟩
  rw [List.length_take] at hi
  rw [List.getElem_take] at hu
  exact hc i j u (by omega) hu

set_option maxRecDepth 100000 in
set_option maxHeartbeats 16000000 in
theorem Right_any (w : World) (v : Value) (l : List Test) (h : ReadL w 3 encTest v l) :
    Calls Try.prog 10 #[v] w fun e w' => e = .returned (.int .i64 (rightF l)) ∧ Below w.heap.size w w' := by
  have HW := Lib.hid (fun W f => Width_any W f)
  have HA := Lib.hid (fun W f => all_any W f)
  have HBs := Lib.hid (fun W v l f h => based_any W v l f h)
  obtain ⟨a, cap, rfl, hcap, hmax, hcells⟩ := h
  have HC := Lib.hid hcells
  have HX := Lib.hid hmax
  unfold maxLen at hmax
  clear hcells
  go_enter Try.func10, Try.ntmps10
  go_wp2_with fail
  go_loopw [3, 8] (fun tv iv wr => ∃ k : Nat, k ≤ l.length ∧ iv = .int .i64 k ∧ tv = .int .i64 (lastF l k) ∧ Hid (Below w.heap.size w wr) ∧ Hid (SoFar l k)) (fun _ iv _ => l.length - (intOf iv).toNat)
  case atStart => exact ⟨0, Nat.zero_le _, rfl, rfl, Lib.hid (Below.refl _ w), Lib.hid (SoFar.start l)⟩
  case round =>
    obtain ⟨k, hk, rfl, rfl, hb, hq⟩ := hrel
    by_cases hlt : k < l.length
    · have d1 : decide (k < l.length) = true := by simpa using hlt
      rcases HC.out with hnil | ⟨b, off, rfl, hblt, hcell⟩
      · rw [hnil] at hlt; simp at hlt
      have c0 := (hb.out.cell (p := ⟨b, off + (k * 3 + 0), none⟩) hblt).trans (hcell k 0 _ hlt rfl)
      have c1 := (hb.out.cell (p := ⟨b, off + (k * 3 + 1), none⟩) hblt).trans (hcell k 1 _ hlt rfl)
      have c2 := (hb.out.cell (p := ⟨b, off + (k * 3 + 2), none⟩) hblt).trans (hcell k 2 _ hlt rfl)
      simp only [Nat.add_zero, ← Nat.add_assoc] at c0 c1 c2
      have HRd := Lib.hid (fun W' (hW : Below w.heap.size w W') => (ReadL.take hk hcap HX.out hblt hcell).below hW (Nat.le_refl _))
      have Hn := Lib.hid (fun h0 => hq.out.next hlt h0)
      have Hs := Lib.hid (fun h0 => hq.out.stop hlt h0)
      have Hl := Lib.hid (lastF_succ l k hlt)
      have hkc : k ≤ cap := Nat.le_trans hk hcap
      clear hcell HC hq
      generalize hy : l[k] = y at c0 c1 c2 Hn Hs Hl
      clear hy
      obtain ⟨tf, tv, tm⟩ := y
      have HBd := Lib.hid (fun W' hW => HBs.out W' _ _ tf (HRd.out W' hW))
      have HWd := Lib.hid (fun W => HW.out W tf)
      have HAl := Lib.hid (fun W => HA.out W tf)
      clear HBs HRd HW HA
      have Hd : Hid (∀ x, badT (l.take k) (lastF l k) ⟨tf, tv, tm⟩ = x → badT (l.take k) (lastF l k) ⟨tf, tv, tm⟩ = x) := Lib.hid (fun _ h => h)
      have HD : Hid (badT (l.take k) (lastF l k) ⟨tf, tv, tm⟩ = (decide (tf ≤ lastF l k) || tm == 0 || !(bits .andNot .u64 tm (greatF tf) == 0) || !(bits .andNot .u64 tv tm == 0) || !(basedF (l.take k) tf))) := Lib.hid rfl
      by_cases hw0 : widthF tf = 0
      · have HRES := Lib.hid ((Hs.out (by rw [rightC_none hw0]; decide)).trans (rightC_none hw0))
        have HW1 := Lib.hid hw0
        rw [hw0] at HWd
        clear hw0 Hs Hn HBd HAl HD Hd Hl
        go_upto_region 5 with fail
        refine one_box_wp ?_
        intro W hb1 hbel hsz
        have t0 := (cell_of_row W _ 0 _ _ (0, 0) hb1).trans rfl
        have HB := Lib.hid (hb.out.trans (hbel.mono hb.out.size))
        clear hb1 hbel hsz c0 c1 c2
        go_wp2_with fail
        refine (HWd.out _).mono ?_
        rintro e w' ⟨rfl, rfl⟩
        go_wp2
        go_ret
        exact ⟨by rw [HRES.out]; rfl, HB.out⟩
      have tw : (widthF tf == 0) = false := beq_eq_false_iff_ne.mpr hw0
      have Hbad := Lib.hid (fun (hx : badT (l.take k) (lastF l k) ⟨tf, tv, tm⟩ = true) => (Hs.out (by rw [rightC_bad hw0 hx]; decide)).trans (rightC_bad hw0 hx))
      have Hgood := Lib.hid (fun (hx : badT (l.take k) (lastF l k) ⟨tf, tv, tm⟩ = false) => Hn.out (rightC_good hw0 hx))
      generalize widthF tf = wd at *
      clear hw0 Hs Hn Hd
      obtain ⟨x3, e3⟩ : ∃ x, bits .andNot .u64 tm (greatF tf) = x := ⟨_, rfl⟩
      obtain ⟨x4, e4⟩ : ∃ x, bits .andNot .u64 tv tm = x := ⟨_, rfl⟩
      rw [e3, e4] at HD
      generalize greatF tf = gm at *
      generalize basedF (l.take k) tf = b5 at *
      go_upto_region 5 with fail
      refine one_box_wp ?_
      intro W hb1 hbel hsz
      have hK := Lib.hid ((KR.start hbel hbel.size).add hb1)
      have t0 := (cell_of_row W _ 0 _ _ (0, 0) hb1).trans rfl
      clear hb1 hbel hsz c0 c1 c2
      go_wp2_with fail
      refine (HWd.out _).mono ?_
      rintro e w' ⟨rfl, rfl⟩
      clear t0
      go_upto_region 7 with fail
      haveI : Nonempty (Keep (KR wr.heap.size wr [(wr.heap.size, 48, #[.int .i64 tf, .int .u64 tv, .int .u64 tm])])) := ⟨⟨_, hK.out⟩⟩
      refine wp_region_keep2 (Cl := (KR wr.heap.size wr [(wr.heap.size, 48, #[.int .i64 tf, .int .u64 tv, .int .u64 tm])])) (by kernel_rfl) (by kernel_rfl) hK.out.drew ?_
      intro y hy
      have g4 := fun tmps => hy tmps 4 23 rfl
      have g9 := fun tmps => hy tmps 9 28 rfl
      have g18 := fun tmps => hy tmps 18 37 rfl
      have g26 := fun tmps => hy tmps 26 45 rfl
      have gb := yl_bool
      clear hy
      have k0 : ∀ p : Keep (KR wr.heap.size wr [(wr.heap.size, 48, #[.int .i64 tf, .int .u64 tv, .int .u64 tm])]), p.w.cell? ⟨wr.heap.size, 0, none⟩ = some (.int .i64 tf) := fun p => p.h.cell 0 0 rfl rfl
      have k1 : ∀ p : Keep (KR wr.heap.size wr [(wr.heap.size, 48, #[.int .i64 tf, .int .u64 tv, .int .u64 tm])]), p.w.cell? ⟨wr.heap.size, 1, none⟩ = some (.int .u64 tv) := fun p => p.h.cell 0 1 rfl rfl
      have k2 : ∀ p : Keep (KR wr.heap.size wr [(wr.heap.size, 48, #[.int .i64 tf, .int .u64 tv, .int .u64 tm])]), p.w.cell? ⟨wr.heap.size, 2, none⟩ = some (.int .u64 tm) := fun p => p.h.cell 0 2 rfl rfl
      clear hK
      generalize lastF l k = la at *
      by_cases h1 : tf ≤ la
      · have a1 : decide (tf ≤ la) = true := by simpa using h1
        have HRES := Lib.hid (Hbad.out (by rw [HD.out]; simp [h1]))
        clear h1
        repeat
          refine wpQ2_step (fun K hK => ?_)
          go_simp
          first
            | (refine hK _ ?_; clear hK K)
            | (apply Exists.intro
               refine ⟨fun _ => ?_, hK _ ?_⟩
               (first
                 | (exact Calls.keepS (HAl.out _))
                 | (exact Calls.keep (HBd.out _ (hb.out.trans ((KR.below (Keep.h _)).mono hb.out.size))) (fun w' hb => KR.call (Keep.h _) hb)))
               clear hK K)
        refine wpQ2_nil ?_
        clear g4 g9 g18 g26 gb
        intro W9 K9
        have HB := Lib.hid (hb.out.trans (K9.below.mono hb.out.size))
        clear k0 k1 k2 K9 HBd HAl HWd Hbad Hgood HD e3 e4
        go_wp2
        go_ret
        exact ⟨by rw [HRES.out]; rfl, HB.out⟩
      have a1 : decide (tf ≤ la) = false := by simpa using h1
      by_cases h2 : tm = 0
      · have a2 : (tm == 0) = true := by simpa using h2
        have HRES := Lib.hid (Hbad.out (by rw [HD.out]; simp [h2]))
        clear h1 h2
        repeat
          refine wpQ2_step (fun K hK => ?_)
          go_simp
          first
            | (refine hK _ ?_; clear hK K)
            | (apply Exists.intro
               refine ⟨fun _ => ?_, hK _ ?_⟩
               (first
                 | (exact Calls.keepS (HAl.out _))
                 | (exact Calls.keep (HBd.out _ (hb.out.trans ((KR.below (Keep.h _)).mono hb.out.size))) (fun w' hb => KR.call (Keep.h _) hb)))
               clear hK K)
        refine wpQ2_nil ?_
        clear g4 g9 g18 g26 gb
        intro W9 K9
        have HB := Lib.hid (hb.out.trans (K9.below.mono hb.out.size))
        clear k0 k1 k2 K9 HBd HAl HWd Hbad Hgood HD e3 e4
        go_wp2
        go_ret
        exact ⟨by rw [HRES.out]; rfl, HB.out⟩
      have a2 : (tm == 0) = false := beq_eq_false_iff_ne.mpr h2
      by_cases h3 : x3 = 0
      case neg =>
        have a3 : (x3 == 0) = false := beq_eq_false_iff_ne.mpr h3
        have HRES := Lib.hid (Hbad.out (by rw [HD.out]; simp [h3]))
        clear h1 h2
        repeat
          refine wpQ2_step (fun K hK => ?_)
          go_simp
          first
            | (refine hK _ ?_; clear hK K)
            | (apply Exists.intro
               refine ⟨fun _ => ?_, hK _ ?_⟩
               (first
                 | (exact Calls.keepS (HAl.out _))
                 | (exact Calls.keep (HBd.out _ (hb.out.trans ((KR.below (Keep.h _)).mono hb.out.size))) (fun w' hb => KR.call (Keep.h _) hb)))
               clear hK K)
        refine wpQ2_nil ?_
        clear g4 g9 g18 g26 gb
        intro W9 K9
        have HB := Lib.hid (hb.out.trans (K9.below.mono hb.out.size))
        clear k0 k1 k2 K9 HBd HAl HWd Hbad Hgood HD e3 e4
        go_wp2
        go_ret
        exact ⟨by rw [HRES.out]; rfl, HB.out⟩
      subst h3
      by_cases h4 : x4 = 0
      case neg =>
        have a4 : (x4 == 0) = false := beq_eq_false_iff_ne.mpr h4
        have HRES := Lib.hid (Hbad.out (by rw [HD.out]; simp [h4]))
        clear h1 h2
        repeat
          refine wpQ2_step (fun K hK => ?_)
          go_simp
          first
            | (refine hK _ ?_; clear hK K)
            | (apply Exists.intro
               refine ⟨fun _ => ?_, hK _ ?_⟩
               (first
                 | (exact Calls.keepS (HAl.out _))
                 | (exact Calls.keep (HBd.out _ (hb.out.trans ((KR.below (Keep.h _)).mono hb.out.size))) (fun w' hb => KR.call (Keep.h _) hb)))
               clear hK K)
        refine wpQ2_nil ?_
        clear g4 g9 g18 g26 gb
        intro W9 K9
        have HB := Lib.hid (hb.out.trans (K9.below.mono hb.out.size))
        clear k0 k1 k2 K9 HBd HAl HWd Hbad Hgood HD e3 e4
        go_wp2
        go_ret
        exact ⟨by rw [HRES.out]; rfl, HB.out⟩
      subst h4
      cases b5 with
      | false =>
        have HRES := Lib.hid (Hbad.out (by rw [HD.out]; simp))
        clear h1 h2
        repeat
          refine wpQ2_step (fun K hK => ?_)
          go_simp
          first
            | (refine hK _ ?_; clear hK K)
            | (apply Exists.intro
               refine ⟨fun _ => ?_, hK _ ?_⟩
               (first
                 | (exact Calls.keepS (HAl.out _))
                 | (exact Calls.keep (HBd.out _ (hb.out.trans ((KR.below (Keep.h _)).mono hb.out.size))) (fun w' hb => KR.call (Keep.h _) hb)))
               clear hK K)
        refine wpQ2_nil ?_
        clear g4 g9 g18 g26 gb
        intro W9 K9
        have HB := Lib.hid (hb.out.trans (K9.below.mono hb.out.size))
        clear k0 k1 k2 K9 HBd HAl HWd Hbad Hgood HD e3 e4
        go_wp2
        go_ret
        exact ⟨by rw [HRES.out]; rfl, HB.out⟩
      | true =>
        have HRES := Lib.hid (Hgood.out (by rw [HD.out]; simp [a1, a2]))
        clear h1 h2
        repeat
          refine wpQ2_step (fun K hK => ?_)
          go_simp
          first
            | (refine hK _ ?_; clear hK K)
            | (apply Exists.intro
               refine ⟨fun _ => ?_, hK _ ?_⟩
               (first
                 | (exact Calls.keepS (HAl.out _))
                 | (exact Calls.keep (HBd.out _ (hb.out.trans ((KR.below (Keep.h _)).mono hb.out.size))) (fun w' hb => KR.call (Keep.h _) hb)))
               clear hK K)
        refine wpQ2_nil ?_
        clear g4 g9 g18 g26 gb
        intro W9 K9
        have t0 := K9.cell 0 0 rfl rfl
        have HB := Lib.hid (hb.out.trans (K9.below.mono hb.out.size))
        clear k0 k1 k2 K9 HBd HAl HWd Hbad Hgood HD e3 e4
        go_wp2_with fail
        go_roundw
        case rel => exact ⟨k + 1, hlt, by go_num, by rw [Hl.out], HB, HRES⟩
        case measure => simp [intOf]; omega
    · have d1 : decide (k < l.length) = false := by simpa using hlt
      have HRES := Lib.hid (hq.out.all (by omega))
      clear HC HX HW HA HBs hq
      go_wp2
      go_ret
      exact ⟨by rw [HRES.out]; rfl, hb.out⟩
end Go.Proofs.Ytaaadbmhcfjooaa
