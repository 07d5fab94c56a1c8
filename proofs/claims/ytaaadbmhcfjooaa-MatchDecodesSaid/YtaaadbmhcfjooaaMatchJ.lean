/- match.Meets and the reference's. -/
import Derived.Test.YtaaadbmhcfjooaaMatchA
import Derived.Test.YtaaadbmhcfjooaaQuiet2
namespace Go.Proofs.Ytaaadbmhcfjooaa
open Go.RowKit
set_option linter.unusedVariables false

/-- Is there no packet that two tests take? -/
def clash (t u : Test) : Bool := t.fField == u.fField && !(bits .and .u64 (bits .and .u64 (bits .xor .u64 t.fValue u.fValue) t.fMask) u.fMask == 0)
/-- May there be a packet that two matches take? -/
def meetF (a b : List Test) : Bool := a.all fun t => b.all fun u => !(clash t u)
theorem meetF_at {a b : List Test} {k i : Nat} (h1 : k < a.length) (h2 : i < b.length) (h : clash a[k] b[i] = true) : meetF a b = false := by
  unfold meetF
  rw [List.all_eq_false]
  refine ⟨_, List.getElem_mem h1, ?_⟩
  have : (b.all fun u => !(clash a[k] u)) = false := by
    rw [List.all_eq_false]
    exact ⟨_, List.getElem_mem h2, by simp [h]⟩
  rw [this]; decide
theorem meetF_all {a b : List Test} (h : ∀ k (h1 : k < a.length) i (h2 : i < b.length), clash a[k] b[i] = false) : meetF a b = true := by
  unfold meetF
  rw [List.all_eq_true]
  intro t ht
  rw [List.all_eq_true]
  intro u hu
  obtain ⟨k, hk, rfl⟩ := List.getElem_of_mem ht
  obtain ⟨i, hi, rfl⟩ := List.getElem_of_mem hu
  simp [h k hk i hi]

set_option maxRecDepth 100000 in
set_option maxHeartbeats 8000000 in
theorem Meets_any (w : World) (va vb : Value) (a b : List Test) (ha : ReadL w 3 encTest va a) (hb : ReadL w 3 encTest vb b) :
    Calls Try.prog 19 #[va, vb] w fun e w' => e = .returned (.bool (meetF a b)) ∧ Below w.heap.size w w' := by
  obtain ⟨xa, xc, rfl, xcap, xmax, hxc⟩ := ha
  obtain ⟨ya, yc, rfl, ycap, ymax, hyc⟩ := hb
  unfold maxLen at xmax ymax
  have HX := Lib.hid hxc
  have HY := Lib.hid hyc
  clear hxc hyc
  go_enter Try.func19, Try.ntmps19
  go_wp2_with fail
  go_loopw [11] (fun iv wr => ∃ k : Nat, k ≤ a.length ∧ iv = .int .i64 k ∧ Hid (Below w.heap.size w wr) ∧ Hid (∀ j, j < k → ∀ (h1 : j < a.length) i (h2 : i < b.length), clash a[j] b[i] = false)) (fun iv _ => a.length - (intOf iv).toNat)
  case atStart => exact ⟨0, Nat.zero_le _, rfl, Lib.hid (Below.refl _ w), Lib.hid (fun j hj => absurd hj (Nat.not_lt_zero _))⟩
  case round =>
    obtain ⟨k, hk, rfl, hb, hq⟩ := hrel
    by_cases hlt : k < a.length
    · have d1 : decide (k < a.length) = true := by simpa using hlt
      rcases HX.out with hnil | ⟨xb, xo, rfl, xlt, xcell⟩
      · rw [hnil] at hlt; simp at hlt
      have HC0 := Lib.hid (xcell k 0 _ hlt rfl)
      have HC1 := Lib.hid (xcell k 1 _ hlt rfl)
      have HC2 := Lib.hid (xcell k 2 _ hlt rfl)
      have HM := Lib.hid (fun i (h2 : i < b.length) (h : clash a[k] b[i] = true) => meetF_at hlt h2 h)
      have HNx : Hid ((∀ i (h2 : i < b.length), clash a[k] b[i] = false) → ∀ j, j < k + 1 → ∀ (h1 : j < a.length) i (h2 : i < b.length), clash a[j] b[i] = false) := by
        show _
        intro h j hj h1 i h2
        by_cases e : j = k
        · subst e; exact h i h2
        · exact hq.out j (by omega) h1 i h2
      clear xcell HX hq
      generalize a[k] = x at *
      have c0 := (hb.out.cell (p := ⟨xb, xo + (k * 3 + 0), none⟩) xlt).trans HC0.out
      have c1 := (hb.out.cell (p := ⟨xb, xo + (k * 3 + 1), none⟩) xlt).trans HC1.out
      have c2 := (hb.out.cell (p := ⟨xb, xo + (k * 3 + 2), none⟩) xlt).trans HC2.out
      simp only [Nat.add_zero, ← Nat.add_assoc] at c0 c1 c2
      go_upto_region 4 with fail
      refine one_box_wp ?_
      intro W hb1 hbel hsz
      have hK := Lib.hid ((KR.start (hb.out.trans (hbel.mono hb.out.size)) (Nat.le_trans hb.out.size hbel.size)).add hb1)
      generalize wr.heap.size = gx at *
      clear hb1 hbel hsz c0 c1 c2 HC0 HC1 HC2
      go_wp2_with fail
      go_loopw [17] (fun iv wt => ∃ i : Nat, i ≤ b.length ∧ iv = .int .i64 i ∧ Hid (KR w.heap.size w [(gx, 48, #[.int .i64 x.fField, .int .u64 x.fValue, .int .u64 x.fMask])] wt) ∧ Hid (∀ j, j < i → ∀ (h2 : j < b.length), clash x b[j] = false)) (fun iv _ => b.length - (intOf iv).toNat)
      case atStart => exact ⟨0, Nat.zero_le _, rfl, hK, Lib.hid (fun j hj => absurd hj (Nat.not_lt_zero _))⟩
      case round =>
        obtain ⟨i, hi, rfl, hbt, hqi⟩ := hrel
        clear hK
        by_cases hlti : i < b.length
        · have d2 : decide (i < b.length) = true := by simpa using hlti
          rcases HY.out with hnil | ⟨yb, yo, rfl, ylt, ycell⟩
          · rw [hnil] at hlti; simp at hlti
          have HD0 := Lib.hid (ycell i 0 _ hlti rfl)
          have HD1 := Lib.hid (ycell i 1 _ hlti rfl)
          have HD2 := Lib.hid (ycell i 2 _ hlti rfl)
          have HF := Lib.hid (fun (h : clash x b[i] = true) => HM.out i hlti h)
          have HT : Hid (clash x b[i] = false → ∀ j, j < i + 1 → ∀ (h2 : j < b.length), clash x b[j] = false) := by
            show _
            intro h j hj h2
            by_cases e : j = i
            · subst e; exact h
            · exact hqi.out j (by omega) h2
          clear ycell HY hqi HM HNx
          generalize b[i] = y at *
          obtain ⟨xf, xv, xm⟩ := x
          obtain ⟨yf, yv, ym⟩ := y
          obtain ⟨q1, e1⟩ : ∃ q, bits .xor .u64 xv yv = q := ⟨_, rfl⟩
          obtain ⟨q2, e2⟩ : ∃ q, bits .and .u64 q1 xm = q := ⟨_, rfl⟩
          obtain ⟨q3, e3⟩ : ∃ q, bits .and .u64 q2 ym = q := ⟨_, rfl⟩
          have HCL : Hid (clash ⟨xf, xv, xm⟩ ⟨yf, yv, ym⟩ = (xf == yf && !(q3 == 0))) := Lib.hid (by unfold clash; rw [e1, e2, e3])
          have c0 := (hbt.out.below.cell (p := ⟨yb, yo + (i * 3 + 0), none⟩) ylt).trans HD0.out
          have c1 := (hbt.out.below.cell (p := ⟨yb, yo + (i * 3 + 1), none⟩) ylt).trans HD1.out
          have c2 := (hbt.out.below.cell (p := ⟨yb, yo + (i * 3 + 2), none⟩) ylt).trans HD2.out
          simp only [Nat.add_zero, ← Nat.add_assoc] at c0 c1 c2
          go_upto_region 7 with fail
          refine one_box_wp ?_
          intro W hb1 hbel hsz
          have hK2 := Lib.hid ((hbt.out.call hbel).add hb1)
          have r0 := hK2.out.cell 0 0 rfl rfl
          have r1 := hK2.out.cell 0 1 rfl rfl
          have r2 := hK2.out.cell 0 2 rfl rfl
          have s0 := hK2.out.cell 1 0 rfl rfl
          have s1 := hK2.out.cell 1 1 rfl rfl
          have s2 := hK2.out.cell 1 2 rfl rfl
          have HKR := Lib.hid (hbt.out.call hbel)
          clear hb1 hbel hsz c0 c1 c2 HD0 HD1 HD2 hK2
          by_cases h1 : xf = yf
          case neg =>
            have t1 : (xf == yf) = false := beq_eq_false_iff_ne.mpr h1
            have HRES := Lib.hid (HT.out (by rw [HCL.out, t1]; rfl))
            clear HF HT HCL h1
            go_wp2_with fail
            go_roundw
            case rel => exact ⟨i + 1, hlti, by go_num, HKR, HRES⟩
            case measure => simp [intOf]; omega
          have t1 : (xf == yf) = true := by simpa using h1
          by_cases h2 : q3 = 0
          · have HRES := Lib.hid (HT.out (by rw [HCL.out, t1, h2]; rfl))
            clear HF HT HCL h1
            subst h2
            go_wp2_with fail
            go_roundw
            case rel => exact ⟨i + 1, hlti, by go_num, HKR, HRES⟩
            case measure => simp [intOf]; omega
          · have t2 : (q3 != 0) = true := by simp [h2]
            have t3 : (q3 == 0) = false := beq_eq_false_iff_ne.mpr h2
            have HRES := Lib.hid (HF.out (by rw [HCL.out, t1, t3]; rfl))
            clear HF HT HCL h1
            go_wp2
            go_ret
            exact ⟨by rw [HRES.out]; rfl, HKR.out.below⟩
        · have d2 : decide (i < b.length) = false := by simpa using hlti
          have HRES := Lib.hid (HNx.out (fun j h2 => hqi.out j (by omega) h2))
          clear HY hqi HM HNx
          go_wp2_with fail
          go_roundw
          case rel => exact ⟨k + 1, hlt, by go_num, Lib.hid hbt.out.below, HRES⟩
          case measure => simp [intOf]; omega
    · have d1 : decide (k < a.length) = false := by simpa using hlt
      have HRES := Lib.hid (meetF_all (fun j h1 i h2 => hq.out j (by omega) h1 i h2))
      clear HX HY hq
      go_wp2
      go_ret
      exact ⟨by rw [HRES.out]; rfl, hb.out⟩

set_option maxRecDepth 100000 in
set_option maxHeartbeats 8000000 in
theorem rMeets_any (w : World) (va vb : Value) (a b : List Test) (ha : ReadL w 3 encTest va a) (hb : ReadL w 3 encTest vb b) :
    Calls Try.prog 20 #[va, vb] w fun e w' => e = .returned (.bool (meetF a b)) ∧ Below w.heap.size w w' := by
  obtain ⟨xa, xc, rfl, xcap, xmax, hxc⟩ := ha
  obtain ⟨ya, yc, rfl, ycap, ymax, hyc⟩ := hb
  unfold maxLen at xmax ymax
  have HX := Lib.hid hxc
  have HY := Lib.hid hyc
  clear hxc hyc
  go_enter Try.func20, Try.ntmps20
  go_wp2_with fail
  go_loopw [5] (fun iv wr => ∃ k : Nat, k ≤ a.length ∧ iv = .int .i64 k ∧ Hid (Below w.heap.size w wr) ∧ Hid (∀ j, j < k → ∀ (h1 : j < a.length) i (h2 : i < b.length), clash a[j] b[i] = false)) (fun iv _ => a.length - (intOf iv).toNat)
  case atStart => exact ⟨0, Nat.zero_le _, rfl, Lib.hid (Below.refl _ w), Lib.hid (fun j hj => absurd hj (Nat.not_lt_zero _))⟩
  case round =>
    obtain ⟨k, hk, rfl, hb, hq⟩ := hrel
    by_cases hlt : k < a.length
    · have d1 : decide (k < a.length) = true := by simpa using hlt
      rcases HX.out with hnil | ⟨xb, xo, rfl, xlt, xcell⟩
      · rw [hnil] at hlt; simp at hlt
      have HC0 := Lib.hid (xcell k 0 _ hlt rfl)
      have HC1 := Lib.hid (xcell k 1 _ hlt rfl)
      have HC2 := Lib.hid (xcell k 2 _ hlt rfl)
      have HM := Lib.hid (fun i (h2 : i < b.length) (h : clash a[k] b[i] = true) => meetF_at hlt h2 h)
      have HNx : Hid ((∀ i (h2 : i < b.length), clash a[k] b[i] = false) → ∀ j, j < k + 1 → ∀ (h1 : j < a.length) i (h2 : i < b.length), clash a[j] b[i] = false) := by
        show _
        intro h j hj h1 i h2
        by_cases e : j = k
        · subst e; exact h i h2
        · exact hq.out j (by omega) h1 i h2
      clear xcell HX hq
      generalize a[k] = x at *
      go_wp2_with fail
      go_loopw [6] (fun iv wt => ∃ i : Nat, i ≤ b.length ∧ iv = .int .i64 i ∧ Hid (Below w.heap.size w wt) ∧ Hid (∀ j, j < i → ∀ (h2 : j < b.length), clash x b[j] = false)) (fun iv _ => b.length - (intOf iv).toNat)
      case atStart => exact ⟨0, Nat.zero_le _, rfl, hb, Lib.hid (fun j hj => absurd hj (Nat.not_lt_zero _))⟩
      case round =>
        obtain ⟨i, hi, rfl, hbt, hqi⟩ := hrel
        by_cases hlti : i < b.length
        · have d2 : decide (i < b.length) = true := by simpa using hlti
          rcases HY.out with hnil | ⟨yb, yo, rfl, ylt, ycell⟩
          · rw [hnil] at hlti; simp at hlti
          have HD0 := Lib.hid (ycell i 0 _ hlti rfl)
          have HD1 := Lib.hid (ycell i 1 _ hlti rfl)
          have HD2 := Lib.hid (ycell i 2 _ hlti rfl)
          have HF := Lib.hid (fun (h : clash x b[i] = true) => HM.out i hlti h)
          have HT : Hid (clash x b[i] = false → ∀ j, j < i + 1 → ∀ (h2 : j < b.length), clash x b[j] = false) := by
            show _
            intro h j hj h2
            by_cases e : j = i
            · subst e; exact h
            · exact hqi.out j (by omega) h2
          clear ycell HY hqi HM HNx
          generalize b[i] = y at *
          obtain ⟨xf, xv, xm⟩ := x
          obtain ⟨yf, yv, ym⟩ := y
          obtain ⟨q1, e1⟩ : ∃ q, bits .xor .u64 xv yv = q := ⟨_, rfl⟩
          obtain ⟨q2, e2⟩ : ∃ q, bits .and .u64 q1 xm = q := ⟨_, rfl⟩
          obtain ⟨q3, e3⟩ : ∃ q, bits .and .u64 q2 ym = q := ⟨_, rfl⟩
          have HCL : Hid (clash ⟨xf, xv, xm⟩ ⟨yf, yv, ym⟩ = (xf == yf && !(q3 == 0))) := Lib.hid (by unfold clash; rw [e1, e2, e3])
          have hK := Lib.hid (KR.start hbt.out hbt.out.size)
          haveI : Nonempty (Keep (KR w.heap.size w [])) := ⟨⟨_, hK.out⟩⟩
          have k0 : ∀ p : Keep (KR w.heap.size w []), p.w.cell? ⟨xb, xo + k * 3, none⟩ = some (.int .i64 xf) := fun p => (p.h.below.cell (p := ⟨xb, _, none⟩) xlt).trans (by have := HC0.out; simpa only [Nat.add_zero, ← Nat.add_assoc] using this)
          have k1 : ∀ p : Keep (KR w.heap.size w []), p.w.cell? ⟨xb, xo + k * 3 + 1, none⟩ = some (.int .u64 xv) := fun p => (p.h.below.cell (p := ⟨xb, _, none⟩) xlt).trans (by have := HC1.out; simpa only [Nat.add_zero, ← Nat.add_assoc] using this)
          have k2 : ∀ p : Keep (KR w.heap.size w []), p.w.cell? ⟨xb, xo + k * 3 + 2, none⟩ = some (.int .u64 xm) := fun p => (p.h.below.cell (p := ⟨xb, _, none⟩) xlt).trans (by have := HC2.out; simpa only [Nat.add_zero, ← Nat.add_assoc] using this)
          have l0 : ∀ p : Keep (KR w.heap.size w []), p.w.cell? ⟨yb, yo + i * 3, none⟩ = some (.int .i64 yf) := fun p => (p.h.below.cell (p := ⟨yb, _, none⟩) ylt).trans (by have := HD0.out; simpa only [Nat.add_zero, ← Nat.add_assoc] using this)
          have l1 : ∀ p : Keep (KR w.heap.size w []), p.w.cell? ⟨yb, yo + i * 3 + 1, none⟩ = some (.int .u64 yv) := fun p => (p.h.below.cell (p := ⟨yb, _, none⟩) ylt).trans (by have := HD1.out; simpa only [Nat.add_zero, ← Nat.add_assoc] using this)
          have l2 : ∀ p : Keep (KR w.heap.size w []), p.w.cell? ⟨yb, yo + i * 3 + 2, none⟩ = some (.int .u64 ym) := fun p => (p.h.below.cell (p := ⟨yb, _, none⟩) ylt).trans (by have := HD2.out; simpa only [Nat.add_zero, ← Nat.add_assoc] using this)
          clear HC0 HC1 HC2 HD0 HD1 HD2
          by_cases h1 : xf = yf
          case neg =>
            have t1 : (xf == yf) = false := beq_eq_false_iff_ne.mpr h1
            have HRES := Lib.hid (HT.out (by rw [HCL.out, t1]; rfl))
            clear HF HT HCL h1
            go_upto_region 7 with fail
            refine wp_region_keep2 (Cl := KR w.heap.size w []) (by kernel_rfl) (by kernel_rfl) hK.out.drew ?_
            intro y' hy
            have g11 := fun tmps => hy tmps 11 30 rfl
            have gb := yl_bool
            clear hy hb hbt
            repeat
              refine wpQ2_step (fun K hK => ?_)
              go_simp
              (refine hK _ ?_; clear hK K)
            refine wpQ2_nil ?_
            intro W9 K9
            have HB := Lib.hid K9.below
            clear k0 k1 k2 l0 l1 l2 K9 g11 gb
            go_wp2_with fail
            go_roundw
            case rel => exact ⟨i + 1, hlti, by go_num, HB, HRES⟩
            case measure => simp [intOf]; omega
          have t1 : (xf == yf) = true := by simpa using h1
          by_cases h2 : q3 = 0
          · have HRES := Lib.hid (HT.out (by rw [HCL.out, t1, h2]; rfl))
            clear HF HT HCL h1
            subst h2
            go_upto_region 7 with fail
            refine wp_region_keep2 (Cl := KR w.heap.size w []) (by kernel_rfl) (by kernel_rfl) hK.out.drew ?_
            intro y' hy
            have g11 := fun tmps => hy tmps 11 30 rfl
            have gb := yl_bool
            clear hy hb hbt
            repeat
              refine wpQ2_step (fun K hK => ?_)
              go_simp
              (refine hK _ ?_; clear hK K)
            refine wpQ2_nil ?_
            intro W9 K9
            have HB := Lib.hid K9.below
            clear k0 k1 k2 l0 l1 l2 K9 g11 gb
            go_wp2_with fail
            go_roundw
            case rel => exact ⟨i + 1, hlti, by go_num, HB, HRES⟩
            case measure => simp [intOf]; omega
          · have t2 : (q3 != 0) = true := by simp [h2]
            have t3 : (q3 == 0) = false := beq_eq_false_iff_ne.mpr h2
            have HRES := Lib.hid (HF.out (by rw [HCL.out, t1, t3]; rfl))
            clear HF HT HCL h1
            go_upto_region 7 with fail
            refine wp_region_keep2 (Cl := KR w.heap.size w []) (by kernel_rfl) (by kernel_rfl) hK.out.drew ?_
            intro y' hy
            have g11 := fun tmps => hy tmps 11 30 rfl
            have gb := yl_bool
            clear hy hb hbt
            repeat
              refine wpQ2_step (fun K hK => ?_)
              go_simp
              (refine hK _ ?_; clear hK K)
            refine wpQ2_nil ?_
            intro W9 K9
            have HB := Lib.hid K9.below
            clear k0 k1 k2 l0 l1 l2 K9 g11 gb
            go_wp2
            go_ret
            exact ⟨by rw [HRES.out]; rfl, HB.out⟩
        · have d2 : decide (i < b.length) = false := by simpa using hlti
          have HRES := Lib.hid (HNx.out (fun j h2 => hqi.out j (by omega) h2))
          clear HY hqi HM HNx
          go_wp2_with fail
          go_roundw
          case rel => exact ⟨k + 1, hlt, by go_num, hbt, HRES⟩
          case measure => simp [intOf]; omega
    · have d1 : decide (k < a.length) = false := by simpa using hlt
      have HRES := Lib.hid (meetF_all (fun j h1 i h2 => hq.out j (by omega) h1 i h2))
      clear HX HY hq
      go_wp2
      go_ret
      exact ⟨by rw [HRES.out]; rfl, hb.out⟩

end Go.Proofs.Ytaaadbmhcfjooaa
