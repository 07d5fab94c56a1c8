/- Covers of the reference. -/
import Derived.Test.YtaaadbmhcfjooaaMatchH
namespace Go.Proofs.Ytaaadbmhcfjooaa
open Go.RowKit
set_option linter.unusedVariables false

theorem u64_and_comm {a b : Int} (ha : U64 a) (hb : U64 b) : bits .and .u64 a b = bits .and .u64 b a := by
  obtain ⟨h1, h2⟩ := ha
  obtain ⟨h3, h4⟩ := hb
  rw [u64_and a b h1 (by omega) h3 (by omega), u64_and b a h3 (by omega) h1 (by omega), Nat.and_comm]
theorem covT_ref {t u : Test} (ht : okT t) (hu : okT u) : covT t u = (t.fField == u.fField && bits .and .u64 u.fMask t.fMask == t.fMask && bits .and .u64 u.fValue t.fMask == t.fValue) := by
  have h1 : (bits .andNot .u64 t.fMask u.fMask == 0) = (bits .and .u64 u.fMask t.fMask == t.fMask) := by
    have := andNot_iff ht.2 hu.2
    rw [u64_and_comm ht.2 hu.2] at this
    rw [Bool.eq_iff_iff, beq_iff_eq, beq_iff_eq]; exact this
  have h2 : (u.fField == t.fField) = (t.fField == u.fField) := by
    rw [Bool.eq_iff_iff, beq_iff_eq, beq_iff_eq]; exact eq_comm
  unfold covT
  rw [h1, h2]
theorem coverF_at {a b : List Test} {k : Nat} (h1 : k < a.length) (h : b.any (covT a[k]) = false) : coverF a b = false := by
  unfold coverF
  have : (a.any fun t => !(b.any (covT t))) = true := by
    rw [List.any_eq_true]
    exact ⟨_, List.getElem_mem h1, by simp only [h]; rfl⟩
  rw [this]; rfl
theorem coverF_all {a b : List Test} (h : ∀ k (h1 : k < a.length), b.any (covT a[k]) = true) : coverF a b = true := by
  unfold coverF
  have : (a.any fun t => !(b.any (covT t))) = false := by
    rw [List.any_eq_false]
    intro t ht
    obtain ⟨k, hk, rfl⟩ := List.getElem_of_mem ht
    simp only [h k hk]
    decide
  rw [this]; rfl
theorem any_succ (b : List Test) (i : Nat) (hi : i < b.length) (p : Test → Bool) : (b.take (i + 1)).any p = ((b.take i).any p || p b[i]) := by
  rw [List.take_succ_eq_append_getElem hi, List.any_append]
  simp

set_option maxRecDepth 100000 in
set_option maxHeartbeats 8000000 in
theorem rCovers_any (w : World) (va vb : Value) (a b : List Test) (ha : ReadL w 3 encTest va a) (hb : ReadL w 3 encTest vb b) (oka : ∀ t ∈ a, okT t) (okb : ∀ t ∈ b, okT t) :
    Calls Try.prog 18 #[va, vb] w fun e w' => e = .returned (.bool (coverF a b)) ∧ Below w.heap.size w w' := by
  obtain ⟨xa, xc, rfl, xcap, xmax, hxc⟩ := ha
  obtain ⟨ya, yc, rfl, ycap, ymax, hyc⟩ := hb
  unfold maxLen at xmax ymax
  have HX := Lib.hid hxc
  have HY := Lib.hid hyc
  have HOA := Lib.hid oka
  have HOB := Lib.hid okb
  clear hxc hyc oka okb
  go_enter Try.func18, Try.ntmps18
  go_wp2_with fail
  go_loopw [5] (fun iv wr => ∃ k : Nat, k ≤ a.length ∧ iv = .int .i64 k ∧ Hid (Below w.heap.size w wr) ∧ Hid (∀ j, j < k → ∀ (h1 : j < a.length), b.any (covT a[j]) = true)) (fun iv _ => a.length - (intOf iv).toNat)
  case atStart => exact ⟨0, Nat.zero_le _, rfl, Lib.hid (Below.refl _ w), Lib.hid (fun j hj => absurd hj (Nat.not_lt_zero _))⟩
  case round =>
    obtain ⟨k, hk, rfl, hb, hq⟩ := hrel
    by_cases hlt : k < a.length
    · have d1 : decide (k < a.length) = true := by simpa using hlt
      rcases HX.out with hnil | ⟨xb, xo, rfl, xlt, xcell⟩
      · rw [hnil] at hlt; simp at hlt
      have HC0 := Lib.hid (xcell k 0 _ hlt rfl)
      have HC1 := Lib.hid (xcell k 1 _ hlt rfl)
      have HC2 := Lib.hid (xcell k 2 _ hlt rfl)
      have HM := Lib.hid (fun (h : b.any (covT a[k]) = false) => coverF_at hlt h)
      have HNx : Hid (b.any (covT a[k]) = true → ∀ j, j < k + 1 → ∀ (h1 : j < a.length), b.any (covT a[j]) = true) := by
        show _
        intro h j hj h1
        by_cases e : j = k
        · subst e; exact h
        · exact hq.out j (by omega) h1
      have HOx := Lib.hid (HOA.out _ (List.getElem_mem hlt))
      clear xcell HX hq HOA
      generalize a[k] = x at *
      go_wp2_with fail
      go_loopw [6, 7] (fun fv iv wt => ∃ i : Nat, i ≤ b.length ∧ iv = .int .i64 i ∧ fv = .bool ((b.take i).any (covT x)) ∧ Hid (Below w.heap.size w wt)) (fun _ iv _ => b.length - (intOf iv).toNat)
      case atStart => exact ⟨0, Nat.zero_le _, rfl, by simp, hb⟩
      case round =>
        obtain ⟨i, hi, rfl, rfl, hbt⟩ := hrel
        by_cases hlti : i < b.length
        · have d2 : decide (i < b.length) = true := by simpa using hlti
          rcases HY.out with hnil | ⟨yb, yo, rfl, ylt, ycell⟩
          · rw [hnil] at hlti; simp at hlti
          have HD0 := Lib.hid (ycell i 0 _ hlti rfl)
          have HD1 := Lib.hid (ycell i 1 _ hlti rfl)
          have HD2 := Lib.hid (ycell i 2 _ hlti rfl)
          have HS := Lib.hid (any_succ b i hlti (covT x))
          have HCV := Lib.hid (covT_ref HOx.out (HOB.out _ (List.getElem_mem hlti)))
          clear ycell HY HM HNx HOx HOB
          generalize b[i] = y at *
          generalize hf : (b.take i).any (covT x) = fo at *
          clear hf
          obtain ⟨xf, xv, xm⟩ := x
          obtain ⟨yf, yv, ym⟩ := y
          obtain ⟨q1, e1⟩ : ∃ q, bits .and .u64 ym xm = q := ⟨_, rfl⟩
          obtain ⟨q2, e2⟩ : ∃ q, bits .and .u64 yv xm = q := ⟨_, rfl⟩
          have HCL : Hid (covT ⟨xf, xv, xm⟩ ⟨yf, yv, ym⟩ = (xf == yf && q1 == xm && q2 == xv)) := Lib.hid (by rw [HCV.out, ← e1, ← e2])
          clear HCV
          have hK := Lib.hid (KR.start hbt.out hbt.out.size)
          haveI : Nonempty (Keep (KR w.heap.size w [])) := ⟨⟨_, hK.out⟩⟩
          have k0 : ∀ p : Keep (KR w.heap.size w []), p.w.cell? ⟨xb, xo + k * 3, none⟩ = some (.int .i64 xf) := fun p => (p.h.below.cell (p := ⟨xb, _, none⟩) xlt).trans (by have := HC0.out; simpa only [Nat.add_zero, ← Nat.add_assoc] using this)
          have k1 : ∀ p : Keep (KR w.heap.size w []), p.w.cell? ⟨xb, xo + k * 3 + 1, none⟩ = some (.int .u64 xv) := fun p => (p.h.below.cell (p := ⟨xb, _, none⟩) xlt).trans (by have := HC1.out; simpa only [Nat.add_zero, ← Nat.add_assoc] using this)
          have k2 : ∀ p : Keep (KR w.heap.size w []), p.w.cell? ⟨xb, xo + k * 3 + 2, none⟩ = some (.int .u64 xm) := fun p => (p.h.below.cell (p := ⟨xb, _, none⟩) xlt).trans (by have := HC2.out; simpa only [Nat.add_zero, ← Nat.add_assoc] using this)
          have l0 : ∀ p : Keep (KR w.heap.size w []), p.w.cell? ⟨yb, yo + i * 3, none⟩ = some (.int .i64 yf) := fun p => (p.h.below.cell (p := ⟨yb, _, none⟩) ylt).trans (by have := HD0.out; simpa only [Nat.add_zero, ← Nat.add_assoc] using this)
          have l1 : ∀ p : Keep (KR w.heap.size w []), p.w.cell? ⟨yb, yo + i * 3 + 1, none⟩ = some (.int .u64 yv) := fun p => (p.h.below.cell (p := ⟨yb, _, none⟩) ylt).trans (by have := HD1.out; simpa only [Nat.add_zero, ← Nat.add_assoc] using this)
          have l2 : ∀ p : Keep (KR w.heap.size w []), p.w.cell? ⟨yb, yo + i * 3 + 2, none⟩ = some (.int .u64 ym) := fun p => (p.h.below.cell (p := ⟨yb, _, none⟩) ylt).trans (by have := HD2.out; simpa only [Nat.add_zero, ← Nat.add_assoc] using this)
          clear HC0 HC1 HC2 HD0 HD1 HD2
          cases fo with
          | true =>
            have HRES : Hid ((b.take (i + 1)).any (covT ⟨xf, xv, xm⟩) = true) := Lib.hid (by rw [HS.out]; rfl)
            clear HS HCL
            go_upto_region 8 with fail
            refine wp_region_keep2 (Cl := KR w.heap.size w []) (by kernel_rfl) (by kernel_rfl) hK.out.drew ?_
            intro y' hy
            have g1 := fun tmps => hy tmps 1 21 rfl
            have g13 := fun tmps => hy tmps 13 33 rfl
            have g32 := fun tmps => hy tmps 32 52 rfl
            have gb := yl_bool
            clear hy hb hbt
            repeat
              refine wpQ2_step (fun K hK => ?_)
              go_simp
              (refine hK _ ?_; clear hK K)
            refine wpQ2_nil ?_
            intro W9 K9
            have HB := Lib.hid K9.below
            clear k0 k1 k2 l0 l1 l2 K9 g1 g13 g32 gb
            go_wp2_with fail
            go_roundw
            case rel => exact ⟨i + 1, hlti, by go_num, by rw [HRES.out], HB⟩
            case measure => simp [intOf]; omega
          | false =>
            by_cases h1 : xf = yf
            case neg =>
              have t1 : (xf == yf) = false := beq_eq_false_iff_ne.mpr h1
              have HRES : Hid ((b.take (i + 1)).any (covT ⟨xf, xv, xm⟩) = false) := Lib.hid (by rw [HS.out, HCL.out, t1]; rfl)
              clear HS HCL h1
              go_upto_region 8 with fail
              refine wp_region_keep2 (Cl := KR w.heap.size w []) (by kernel_rfl) (by kernel_rfl) hK.out.drew ?_
              intro y' hy
              have g1 := fun tmps => hy tmps 1 21 rfl
              have g13 := fun tmps => hy tmps 13 33 rfl
              have g32 := fun tmps => hy tmps 32 52 rfl
              have gb := yl_bool
              clear hy hb hbt
              repeat
                refine wpQ2_step (fun K hK => ?_)
                go_simp
                (refine hK _ ?_; clear hK K)
              refine wpQ2_nil ?_
              intro W9 K9
              have HB := Lib.hid K9.below
              clear k0 k1 k2 l0 l1 l2 K9 g1 g13 g32 gb
              go_wp2_with fail
              go_roundw
              case rel => exact ⟨i + 1, hlti, by go_num, by rw [HRES.out], HB⟩
              case measure => simp [intOf]; omega
            have t1 : (xf == yf) = true := by simpa using h1
            by_cases h2 : q1 = xm
            case neg =>
              have t2 : (q1 == xm) = false := beq_eq_false_iff_ne.mpr h2
              have HRES : Hid ((b.take (i + 1)).any (covT ⟨xf, xv, xm⟩) = false) := Lib.hid (by rw [HS.out, HCL.out, t2]; simp)
              clear HS HCL h1 h2
              go_upto_region 8 with fail
              refine wp_region_keep2 (Cl := KR w.heap.size w []) (by kernel_rfl) (by kernel_rfl) hK.out.drew ?_
              intro y' hy
              have g1 := fun tmps => hy tmps 1 21 rfl
              have g13 := fun tmps => hy tmps 13 33 rfl
              have g32 := fun tmps => hy tmps 32 52 rfl
              have gb := yl_bool
              clear hy hb hbt
              repeat
                refine wpQ2_step (fun K hK => ?_)
                go_simp
                (refine hK _ ?_; clear hK K)
              refine wpQ2_nil ?_
              intro W9 K9
              have HB := Lib.hid K9.below
              clear k0 k1 k2 l0 l1 l2 K9 g1 g13 g32 gb
              go_wp2_with fail
              go_roundw
              case rel => exact ⟨i + 1, hlti, by go_num, by rw [HRES.out], HB⟩
              case measure => simp [intOf]; omega
            have t2 : (q1 == xm) = true := by simpa using h2
            by_cases h3 : q2 = xv
            case neg =>
              have t3 : (q2 == xv) = false := beq_eq_false_iff_ne.mpr h3
              have HRES : Hid ((b.take (i + 1)).any (covT ⟨xf, xv, xm⟩) = false) := Lib.hid (by rw [HS.out, HCL.out, t3]; simp)
              clear HS HCL h1 h2 h3
              go_upto_region 8 with fail
              refine wp_region_keep2 (Cl := KR w.heap.size w []) (by kernel_rfl) (by kernel_rfl) hK.out.drew ?_
              intro y' hy
              have g1 := fun tmps => hy tmps 1 21 rfl
              have g13 := fun tmps => hy tmps 13 33 rfl
              have g32 := fun tmps => hy tmps 32 52 rfl
              have gb := yl_bool
              clear hy hb hbt
              repeat
                refine wpQ2_step (fun K hK => ?_)
                go_simp
                (refine hK _ ?_; clear hK K)
              refine wpQ2_nil ?_
              intro W9 K9
              have HB := Lib.hid K9.below
              clear k0 k1 k2 l0 l1 l2 K9 g1 g13 g32 gb
              go_wp2_with fail
              go_roundw
              case rel => exact ⟨i + 1, hlti, by go_num, by rw [HRES.out], HB⟩
              case measure => simp [intOf]; omega
            have t3 : (q2 == xv) = true := by simpa using h3
            have HRES : Hid ((b.take (i + 1)).any (covT ⟨xf, xv, xm⟩) = true) := Lib.hid (by rw [HS.out, HCL.out, t1, t2, t3]; rfl)
            clear HS HCL h1 h2 h3
            go_upto_region 8 with fail
            refine wp_region_keep2 (Cl := KR w.heap.size w []) (by kernel_rfl) (by kernel_rfl) hK.out.drew ?_
            intro y' hy
            have g1 := fun tmps => hy tmps 1 21 rfl
            have g13 := fun tmps => hy tmps 13 33 rfl
            have g32 := fun tmps => hy tmps 32 52 rfl
            have gb := yl_bool
            clear hy hb hbt
            repeat
              refine wpQ2_step (fun K hK => ?_)
              go_simp
              (refine hK _ ?_; clear hK K)
            refine wpQ2_nil ?_
            intro W9 K9
            have HB := Lib.hid K9.below
            clear k0 k1 k2 l0 l1 l2 K9 g1 g13 g32 gb
            go_wp2_with fail
            go_roundw
            case rel => exact ⟨i + 1, hlti, by go_num, by rw [HRES.out], HB⟩
            case measure => simp [intOf]; omega
        · have d2 : decide (i < b.length) = false := by simpa using hlti
          obtain rfl : i = b.length := by omega
          rw [List.take_length]
          cases hf : b.any (covT x) with
          | false =>
            have HRES := Lib.hid (HM.out hf)
            clear HY HM HNx HOx HOB hf
            go_wp2
            go_ret
            exact ⟨by rw [HRES.out]; rfl, hbt.out⟩
          | true =>
            have HRES := Lib.hid (HNx.out hf)
            clear HY HM HNx HOx HOB hf
            go_wp2_with fail
            go_roundw
            case rel => exact ⟨k + 1, hlt, by go_num, hbt, HRES⟩
            case measure => simp [intOf]; omega
    · have d1 : decide (k < a.length) = false := by simpa using hlt
      have HRES := Lib.hid (coverF_all (fun j h1 => hq.out j (by omega) h1))
      clear HX HY hq HOA HOB
      go_wp2
      go_ret
      exact ⟨by rw [HRES.out]; rfl, hb.out⟩
end Go.Proofs.Ytaaadbmhcfjooaa
