/- Takes of the reference. -/
import Derived.Test.YtaaadbmhcfjooaaMatchL
import Derived.Test.YtaaadbmhcfjooaaFieldRef
namespace Go.Proofs.Ytaaadbmhcfjooaa
open Go.RowKit
set_option linter.unusedVariables false

theorem takesF_at {l : List Test} {s : Seen} {k : Nat} (h1 : k < l.length) (h : takT s l[k] = false) : takesF l s = false := by
  unfold takesF
  have : (l.any fun t => !(takT s t)) = true := by
    rw [List.any_eq_true]
    exact ⟨_, List.getElem_mem h1, by simp [h]⟩
  rw [this]; rfl
theorem takesF_all {l : List Test} {s : Seen} (h : ∀ k (h1 : k < l.length), takT s l[k] = true) : takesF l s = true := by
  unfold takesF
  have : (l.any fun t => !(takT s t)) = false := by
    rw [List.any_eq_false]
    intro t ht
    obtain ⟨k, hk, rfl⟩ := List.getElem_of_mem ht
    simp [h k hk]
  rw [this]; rfl
set_option maxRecDepth 100000 in
set_option maxHeartbeats 8000000 in
theorem rTakes_any (w : World) (v : Value) (l : List Test) (s : Seen) (h0 : 0 ≤ s.fMeta) (h1 : s.fMeta < 18446744073709551616) (h : ReadL w 3 encTest v l) :
    Calls Try.prog 22 #[v, valSeen s] w fun e w' => e = .returned (.bool (takesF l s)) ∧ Below w.heap.size w w' := by
  have HG := Lib.hid (fun W f => rGet_any W s f h0 h1)
  clear h0 h1
  obtain ⟨xa, xc, rfl, xcap, xmax, hxc⟩ := h
  unfold maxLen at xmax
  have HX := Lib.hid hxc
  clear hxc
  go_enter Try.func22, Try.ntmps22
  go_upto_region 1 with fail
  refine one_box_wp ?_
  intro W0 hb1 hbel hsz
  have hK0 := Lib.hid ((KR.start hbel hbel.size).add hb1)
  generalize hB : w.heap.size = B at *
  clear hb1 hbel hsz
  go_wp2_with fail
  go_loopw [5] (fun iv wr => ∃ k : Nat, k ≤ l.length ∧ iv = .int .i64 k ∧ Hid (KR B w [(B, 40, cellsSn s)] wr) ∧ Hid (∀ j, j < k → ∀ (h1 : j < l.length), takT s l[j] = true)) (fun iv _ => l.length - (intOf iv).toNat)
  case atStart => exact ⟨0, Nat.zero_le _, rfl, hK0, Lib.hid (fun j hj => absurd hj (Nat.not_lt_zero _))⟩
  case round =>
    obtain ⟨k, hk, rfl, hK, hq⟩ := hrel
    clear hK0
    by_cases hlt : k < l.length
    · have d1 : decide (k < l.length) = true := by simpa using hlt
      rcases HX.out with hnil | ⟨xb, xo, rfl, xlt, xcell⟩
      · rw [hnil] at hlt; simp at hlt
      have HC0 := Lib.hid (xcell k 0 _ hlt rfl)
      have HC1 := Lib.hid (xcell k 1 _ hlt rfl)
      have HC2 := Lib.hid (xcell k 2 _ hlt rfl)
      have HF := Lib.hid (fun (h : takT s l[k] = false) => takesF_at hlt h)
      have HT : Hid (takT s l[k] = true → ∀ j, j < k + 1 → ∀ (h1 : j < l.length), takT s l[j] = true) := by
        show _
        intro h j hj h1
        by_cases e : j = k
        · subst e; exact h
        · exact hq.out j (by omega) h1
      clear xcell HX hq
      generalize l[k] = t at *
      obtain ⟨tf, tv, tm⟩ := t
      have HGt := Lib.hid (fun W => HG.out W tf)
      have HTK : Hid (takT s ⟨tf, tv, tm⟩ = ((getF s tf).2 == 0 && bits .and .u64 (getF s tf).1 tm == tv)) := Lib.hid rfl
      clear HG
      generalize getF s tf = q at *
      obtain ⟨gv, ge⟩ := q
      obtain ⟨x1, e1⟩ : ∃ x, bits .and .u64 gv tm = x := ⟨_, rfl⟩
      have HEC : Hid (takT s ⟨tf, tv, tm⟩ = (ge == 0 && x1 == tv)) := Lib.hid (by rw [HTK.out, ← e1])
      clear HTK
      haveI : Nonempty (Keep (KR B w [(B, 40, cellsSn s)])) := ⟨⟨_, hK.out⟩⟩
      have k0 : ∀ p : Keep (KR B w [(B, 40, cellsSn s)]), p.w.cell? ⟨xb, xo + k * 3, none⟩ = some (.int .i64 tf) := fun p => (p.h.below.cell (p := ⟨xb, _, none⟩) xlt).trans (by have := HC0.out; simpa only [Nat.add_zero, ← Nat.add_assoc] using this)
      have k1 : ∀ p : Keep (KR B w [(B, 40, cellsSn s)]), p.w.cell? ⟨xb, xo + k * 3 + 1, none⟩ = some (.int .u64 tv) := fun p => (p.h.below.cell (p := ⟨xb, _, none⟩) xlt).trans (by have := HC1.out; simpa only [Nat.add_zero, ← Nat.add_assoc] using this)
      have k2 : ∀ p : Keep (KR B w [(B, 40, cellsSn s)]), p.w.cell? ⟨xb, xo + k * 3 + 2, none⟩ = some (.int .u64 tm) := fun p => (p.h.below.cell (p := ⟨xb, _, none⟩) xlt).trans (by have := HC2.out; simpa only [Nat.add_zero, ← Nat.add_assoc] using this)
      clear HC0 HC1 HC2
      go_upto_region 4 with fail
      refine wp_region_keep2 (Cl := (KR B w [(B, 40, cellsSn s)])) (by kernel_rfl) (by kernel_rfl) hK.out.drew ?_
      intro y' hy
      clear hy hK
      refine wpQ2_rowg _ _ rfl _ (fun W h => run_loadVar_row W _ _ 40 _ (0, 0) _ (KR.at h 0 rfl) Try.underlying40 rfl (by kernel_rfl)) rfl ?_
      repeat
        refine wpQ2_step (fun K hK => ?_)
        go_simp
        first
          | (refine hK _ ?_; clear hK K)
          | (apply Exists.intro
             refine ⟨fun _ => ?_, hK _ ?_⟩
             (exact Calls.keep (HGt.out _) (fun w' hb => KR.call (Keep.h _) hb))
             clear hK K)
      refine wpQ2_nil ?_
      intro W4 K4
      have hK4 := Lib.hid K4
      clear K4 HGt
      go_upto_region 5 with fail
      refine wp_region_keep2 (Cl := (KR B w [(B, 40, cellsSn s)])) (by kernel_rfl) (by kernel_rfl) hK4.out.drew ?_
      intro y' hy
      have g2 := fun tmps => hy tmps 2 26 rfl
      have gb := yl_bool
      clear hy hK4
      by_cases h2 : ge = 0
      case neg =>
        have t1 : (ge == 0) = false := beq_eq_false_iff_ne.mpr h2
        have t2 : (ge != 0) = true := by simp [h2]
        have HRES := Lib.hid (HF.out (by rw [HEC.out, t1]; rfl))
        clear HF HT HEC
        repeat
          refine wpQ2_step (fun K hK => ?_)
          go_simp
          (refine hK _ ?_; clear hK K)
        refine wpQ2_nil ?_
        intro W5 K5
        have HB5 := Lib.hid K5
        clear k0 k1 k2 K5 g2 gb
        go_wp2
        go_ret
        exact ⟨by rw [HRES.out]; rfl, by rw [hB]; exact HB5.out.below⟩
      subst h2
      by_cases h3 : x1 = tv
      case neg =>
        have t1 : (x1 == tv) = false := beq_eq_false_iff_ne.mpr h3
        have t2 : (x1 != tv) = true := by simp [h3]
        have HRES := Lib.hid (HF.out (by rw [HEC.out, t1]; rfl))
        clear HF HT HEC
        repeat
          refine wpQ2_step (fun K hK => ?_)
          go_simp
          (refine hK _ ?_; clear hK K)
        refine wpQ2_nil ?_
        intro W5 K5
        have HB5 := Lib.hid K5
        clear k0 k1 k2 K5 g2 gb
        go_wp2
        go_ret
        exact ⟨by rw [HRES.out]; rfl, by rw [hB]; exact HB5.out.below⟩
      have HRES := Lib.hid (HT.out (by rw [HEC.out, h3]; simp))
      rw [h3] at e1
      clear HF HT HEC h3
      repeat
        refine wpQ2_step (fun K hK => ?_)
        go_simp
        (refine hK _ ?_; clear hK K)
      refine wpQ2_nil ?_
      intro W5 K5
      have HB5 := Lib.hid K5
      clear k0 k1 k2 K5 g2 gb
      go_wp2_with fail
      go_roundw
      case rel => exact ⟨k + 1, hlt, by go_num, HB5, HRES⟩
      case measure => simp [intOf]; omega
    · have d1 : decide (k < l.length) = false := by simpa using hlt
      have HRES := Lib.hid (takesF_all (fun j h1 => hq.out j (by omega) h1))
      clear HX hq HG
      go_wp2
      go_ret
      exact ⟨by rw [HRES.out]; rfl, by rw [hB]; exact hK.out.below⟩
end Go.Proofs.Ytaaadbmhcfjooaa
