/- The reference: all, whole. -/
import Derived.Test.YtaaadbmhcfjooaaMatchB
import Derived.Test.YtaaadbmhcfjooaaQuiet2
namespace Go.Proofs.Ytaaadbmhcfjooaa
open Go.RowKit
set_option linter.unusedVariables false

set_option maxHeartbeats 4000000 in
theorem rAll_any (w : World) (f : Int) : Calls Try.prog 30 #[.int .i64 f] w fun x w' => x = .returned (.int .u64 (greatF f)) ∧ Below w.heap.size w w' := by
  have H := Lib.hid (rWidth_any w f)
  rcases fcases f with rfl | rfl | rfl | rfl | rfl | rfl | rfl | rfl | rfl | ⟨h1, h2, h3, h4, h5, h6, h7, h8, h9, h⟩
  case inr.inr.inr.inr.inr.inr.inr.inr.inr =>
    rw [widthF_none h] at H
    have hg : greatF f = 0 := by unfold greatF; rw [widthF_none h]; rfl
    rw [hg]
    clear h hg
    go_enter Try.func30, Try.ntmps30
    go_wp2_with fail
    refine H.out.mono ?_
    rintro e w' ⟨rfl, hb⟩
    go_wp2
    go_ret
    exact ⟨rfl, hb⟩
  all_goals
    try rw [widthF_1] at H
    try rw [widthF_2] at H
    try rw [widthF_3] at H
    try rw [widthF_4] at H
    try rw [widthF_5] at H
    try rw [widthF_6] at H
    try rw [widthF_7] at H
    try rw [widthF_8] at H
    try rw [widthF_9] at H
    go_enter Try.func30, Try.ntmps30
    go_wp2_with fail
    refine H.out.mono ?_
    rintro e w' ⟨rfl, hb⟩
    go_wp2
    go_ret
    exact ⟨rfl, hb⟩

set_option maxRecDepth 100000 in
set_option maxHeartbeats 8000000 in
theorem rWhole_any (w : World) (v : Value) (l : List Test) (f : Int) (n : Nat) (hn : n ≤ l.length) (h : ReadL w 3 encTest v l) :
    Calls Try.prog 31 #[v, .int .i64 f, .int .i64 n] w fun e w' => e = .returned (.tuple #[.int .u64 (wholeF (l.take n) f).1, .bool (wholeF (l.take n) f).2]) ∧ Below w.heap.size w w' := by
  have HA := Lib.hid (fun W => rAll_any W f)
  obtain ⟨a, cap, rfl, hcap, hmax, hcells⟩ := h
  unfold maxLen at hmax
  have HC := Lib.hid hcells
  clear hcells
  go_enter Try.func31, Try.ntmps31
  go_wp2_with fail
  go_loopw [8] (fun iv wr => ∃ k : Nat, k ≤ n ∧ iv = .int .i64 k ∧ Hid (Below w.heap.size w wr) ∧ Hid (∀ j (hj : j < l.length), j < k → isW f l[j] = false)) (fun iv _ => n - (intOf iv).toNat)
  case atStart => exact ⟨0, Nat.zero_le _, rfl, Lib.hid (Below.refl _ w), Lib.hid (fun j hj hk => absurd hk (Nat.not_lt_zero _))⟩
  case round =>
    obtain ⟨k, hk, rfl, hb, hq⟩ := hrel
    by_cases hlt : k < n
    · have hltl : k < l.length := Nat.lt_of_lt_of_le hlt hn
      have d1 : decide (k < n) = true := by simpa using hlt
      have d2 : decide (k < l.length) = true := by simpa using hltl
      rcases HC.out with hnil | ⟨b, off, rfl, hblt, hcell⟩
      · rw [hnil] at hltl; simp at hltl
      have c0 := (hb.out.cell (p := ⟨b, off + (k * 3 + 0), none⟩) hblt).trans (hcell k 0 _ hltl rfl)
      have c1 := (hb.out.cell (p := ⟨b, off + (k * 3 + 1), none⟩) hblt).trans (hcell k 1 _ hltl rfl)
      have c2 := (hb.out.cell (p := ⟨b, off + (k * 3 + 2), none⟩) hblt).trans (hcell k 2 _ hltl rfl)
      simp only [Nat.add_zero, ← Nat.add_assoc] at c0 c1 c2
      have hbw : b < wr.heap.size := Nat.lt_of_lt_of_le hblt hb.out.size
      clear hcell HC
      have hyy : (l[k].fField == f && l[k].fMask == greatF f) = isW f l[k] := rfl
      have HYv : Hid (l[k].fValue = l[k].fValue) := Lib.hid rfl
      have HW := Lib.hid hyy
      clear hyy
      have HL1 := Lib.hid (fun (hw : isW f l[k] = true) => wholeF_at (l.take n) f k (by rw [List.length_take]; omega) (by rw [List.getElem_take]; exact hw) (fun j hj hjk => by rw [List.getElem_take]; exact hq.out j (by rw [List.length_take] at hj; omega) hjk))
      have HL0 := Lib.hid (fun (hw : isW f l[k] = false) => (fun j (hj : j < l.length) (hjk : j < k + 1) => if e : j = k then (by subst e; exact hw) else hq.out j hj (by omega) : ∀ j (hj : j < l.length), j < k + 1 → isW f l[j] = false))
      rw [List.getElem_take] at HL1
      generalize l[k].fField = tf at *
      generalize l[k].fMask = tm at *
      generalize l[k].fValue = tv at *
      have HK := Lib.hid (KR.start (Below.refl wr.heap.size wr) (Nat.le_refl _))
      have k0 : ∀ p : Keep (KR wr.heap.size wr []), p.w.cell? ⟨b, off + k * 3, none⟩ = some (.int .i64 tf) := fun p => (p.h.below.cell (p := ⟨b, _, none⟩) hbw).trans c0
      have k2 : ∀ p : Keep (KR wr.heap.size wr []), p.w.cell? ⟨b, off + k * 3 + 2, none⟩ = some (.int .u64 tm) := fun p => (p.h.below.cell (p := ⟨b, _, none⟩) hbw).trans c2
      haveI : Nonempty (Keep (KR wr.heap.size wr [])) := ⟨⟨_, HK.out⟩⟩
      by_cases h1 : tf = f
      · have t1 : (tf == f) = true := by simpa using h1
        generalize greatF f = gm at *
        by_cases h2 : tm = gm
        · have t2 : (tm == gm) = true := by simpa using h2
          have hw : isW f l[k] = true := by rw [← HW.out, t1, t2]; rfl
          have hres := HL1.out hw
          have HRES := Lib.hid hres
          clear hres hw HL1 HL0 HW h1 h2 c0 c2
          go_wp2_with fail
          refine wp_region_keep2 (Cl := KR wr.heap.size wr []) (by kernel_rfl) (by kernel_rfl) HK.out.drew ?_
          intro y hy
          have g7 := fun tmps => hy tmps 7 21 rfl
          have gb := yl_bool
          clear hy
          repeat
            refine wpQ2_step (fun K hK => ?_)
            go_simp
            first
              | (refine hK _ ?_; clear hK K)
              | (apply Exists.intro
                 refine ⟨fun _ => ?_, hK _ ?_⟩
                 (exact Calls.keep (HA.out _) (fun w' hb => KR.call (Keep.h _) hb))
                 clear hK K)
          refine wpQ2_nil ?_
          clear g7 gb
          intro W9 K9
          have c1' := (K9.below.cell (p := ⟨b, off + k * 3 + 1, none⟩) hbw).trans c1
          have hbb := Lib.hid (hb.out.trans (K9.below.mono hb.out.size))
          clear K9 c1 k0 k2
          go_wp2
          go_ret2
          exact ⟨by rw [HRES.out]; rfl, hbb.out⟩
        · have t2 : (tm == gm) = false := beq_eq_false_iff_ne.mpr h2
          have hw : isW f l[k] = false := by rw [← HW.out, t1, t2]; rfl
          have HRES := Lib.hid (HL0.out hw)
          clear hw HL1 HL0 HW h1 h2 c0 c2
          go_wp2_with fail
          refine wp_region_keep2 (Cl := KR wr.heap.size wr []) (by kernel_rfl) (by kernel_rfl) HK.out.drew ?_
          intro y hy
          have g7 := fun tmps => hy tmps 7 21 rfl
          have gb := yl_bool
          clear hy
          repeat
            refine wpQ2_step (fun K hK => ?_)
            go_simp
            first
              | (refine hK _ ?_; clear hK K)
              | (apply Exists.intro
                 refine ⟨fun _ => ?_, hK _ ?_⟩
                 (exact Calls.keep (HA.out _) (fun w' hb => KR.call (Keep.h _) hb))
                 clear hK K)
          refine wpQ2_nil ?_
          clear g7 gb
          intro W9 K9
          have hbb := Lib.hid (hb.out.trans (K9.below.mono hb.out.size))
          clear K9 c1 k0 k2
          go_wp2_with fail
          go_roundw
          case rel => exact ⟨k + 1, hlt, by go_num, hbb, HRES⟩
          case measure => simp [intOf]; omega
      · have t1 : (tf == f) = false := beq_eq_false_iff_ne.mpr h1
        have hw : isW f l[k] = false := by rw [← HW.out, t1]; rfl
        have HRES := Lib.hid (HL0.out hw)
        clear hw HL1 HL0 HW h1 c0 c2
        go_wp2_with fail
        refine wp_region_keep2 (Cl := KR wr.heap.size wr []) (by kernel_rfl) (by kernel_rfl) HK.out.drew ?_
        intro y hy
        have g7 := fun tmps => hy tmps 7 21 rfl
        have gb := yl_bool
        clear hy
        repeat
          refine wpQ2_step (fun K hK => ?_)
          go_simp
          first
            | (refine hK _ ?_; clear hK K)
            | (apply Exists.intro
               refine ⟨fun _ => ?_, hK _ ?_⟩
               (exact Calls.keep (HA.out _) (fun w' hb => KR.call (Keep.h _) hb))
               clear hK K)
        refine wpQ2_nil ?_
        clear g7 gb
        intro W9 K9
        have hbb := Lib.hid (hb.out.trans (K9.below.mono hb.out.size))
        clear K9 c1 k0 k2
        go_wp2_with fail
        go_roundw
        case rel => exact ⟨k + 1, hlt, by go_num, hbb, HRES⟩
        case measure => simp [intOf]; omega
    · have d1 : decide (k < n) = false := by simpa using hlt
      have e := Lib.hid (wholeF_none (l.take n) f (fun j hj => by rw [List.getElem_take]; rw [List.length_take] at hj; exact hq.out j (by omega) (by omega)))
      clear HC HA hq
      go_wp2
      go_ret2
      exact ⟨by rw [e.out]; rfl, hb.out⟩
end Go.Proofs.Ytaaadbmhcfjooaa
