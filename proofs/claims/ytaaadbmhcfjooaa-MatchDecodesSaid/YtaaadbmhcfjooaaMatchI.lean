/- match.Same and the reference's. -/
import Derived.Test.YtaaadbmhcfjooaaMatchA
import Derived.Test.YtaaadbmhcfjooaaQuiet2
import Derived.Laws.StructEq
namespace Go.Proofs.Ytaaadbmhcfjooaa
open Go.RowKit
set_option linter.unusedVariables false
set_option linter.unusedSimpArgs false

/-- Two tests are the same. -/
def eqT (x y : Test) : Bool := x.fField == y.fField && x.fValue == y.fValue && x.fMask == y.fMask
theorem eqT_iff (x y : Test) : eqT x y = true ↔ x = y := by
  obtain ⟨a, b, c⟩ := x
  obtain ⟨d, e, f⟩ := y
  simp [eqT, and_assoc]
set_option maxRecDepth 100000 in
theorem neq_Test (x y : Test) (W : World) : (binOp .neq 48 (valTest x) (valTest y)).run Try.prog W = .ok (.bool (!(eqT x y))) W := by
  have h1 : Try.prog.stoodInHeld 48 = false := by kernel_rfl
  simp [go_sem, Try.underlying48, Try.underlying3, Try.underlying32, h1, eqT]
  by_cases h1 : x.fField = y.fField <;> by_cases h2 : x.fValue = y.fValue <;> by_cases h3 : x.fMask = y.fMask <;> simp [h1, h2, h3]
/-- Two matches are the same. -/
def sameF (a b : List Test) : Bool := a.length == b.length && (List.range a.length).all fun i => eqT (a.getD i ⟨0, 0, 0⟩) (b.getD i ⟨0, 0, 0⟩)
theorem sameF_len {a b : List Test} (h : a.length ≠ b.length) : sameF a b = false := by
  unfold sameF
  have : (a.length == b.length) = false := by simpa using h
  rw [this]; rfl
theorem sameF_at {a b : List Test} {k : Nat} (h1 : k < a.length) (h2 : k < b.length) (h : eqT a[k] b[k] = false) : sameF a b = false := by
  unfold sameF
  have : ((List.range a.length).all fun i => eqT (a.getD i ⟨0, 0, 0⟩) (b.getD i ⟨0, 0, 0⟩)) = false := by
    rw [List.all_eq_false]
    refine ⟨k, List.mem_range.2 h1, ?_⟩
    simp only [List.getD_eq_getElem?_getD, List.getElem?_eq_getElem h1, List.getElem?_eq_getElem h2, Option.getD_some, h]
    decide
  rw [this, Bool.and_false]
theorem sameF_all {a b : List Test} (hl : a.length = b.length) (h : ∀ i (h1 : i < a.length) (h2 : i < b.length), eqT a[i] b[i] = true) : sameF a b = true := by
  unfold sameF
  rw [Bool.and_eq_true]
  refine ⟨by simpa using hl, ?_⟩
  rw [List.all_eq_true]
  intro i hi
  have h1 := List.mem_range.1 hi
  simp only [List.getD_eq_getElem?_getD, List.getElem?_eq_getElem h1, List.getElem?_eq_getElem (show i < b.length by omega), Option.getD_some]
  exact h i h1 (by omega)

set_option maxRecDepth 100000 in
set_option maxHeartbeats 4000000 in
theorem Equal_any (w : World) (va vb : Value) (a b : List Test) (ha : ReadL w 3 encTest va a) (hb : ReadL w 3 encTest vb b) :
    Calls Try.prog 40 #[va, vb] w fun e w' => e = .returned (.bool (sameF a b)) ∧ Below w.heap.size w w' := by
  obtain ⟨xa, xc, rfl, xcap, xmax, hxc⟩ := ha
  obtain ⟨ya, yc, rfl, ycap, ymax, hyc⟩ := hb
  unfold maxLen at xmax ymax
  have HX := Lib.hid hxc
  have HY := Lib.hid hyc
  clear hxc hyc
  by_cases hl : a.length = b.length
  case neg =>
    rw [sameF_len hl]
    have t1 : ((a.length : Int) == (b.length : Int)) = false := beq_eq_false_iff_ne.mpr (by omega)
    have t2 : ¬ (a.length = b.length) := hl
    clear HX HY
    go_enter Try.func40, Try.ntmps40
    go_wp2
    go_ret
    exact ⟨rfl, Below.refl _ _⟩
  have HL := Lib.hid hl
  obtain ⟨n, hna⟩ : ∃ n, a.length = n := ⟨_, rfl⟩
  have hnb : b.length = n := by omega
  have HA := Lib.hid hna
  have HN := Lib.hid hnb
  rw [hna] at xcap
  rw [hnb] at ycap
  rw [hna, hnb]
  clear hl hna hnb
  go_enter Try.func40, Try.ntmps40
  go_wp2_with fail
  go_loopw [13] (fun iv wr => ∃ k : Nat, k ≤ n ∧ iv = .int .i64 k ∧ Hid (Below w.heap.size w wr) ∧ Hid (∀ j, j < k → ∀ (h1 : j < a.length) (h2 : j < b.length), eqT a[j] b[j] = true)) (fun iv _ => n - (intOf iv).toNat)
  case atStart => exact ⟨0, Nat.zero_le _, rfl, Lib.hid (Below.refl _ w), Lib.hid (fun j hj => absurd hj (Nat.not_lt_zero _))⟩
  case round =>
    obtain ⟨k, hk, rfl, hb, hq⟩ := hrel
    by_cases hlt : k < n
    · have d1 : decide (k < n) = true := by simpa using hlt
      have hka : k < a.length := by have h1 := HA.out; have h2 := HN.out; omega
      have hkb : k < b.length := by have h1 := HA.out; have h2 := HN.out; omega
      rcases HX.out with hnil | ⟨xb, xo, rfl, xlt, xcell⟩
      · rw [hnil] at hka; simp at hka
      rcases HY.out with hnil | ⟨yb, yo, rfl, ylt, ycell⟩
      · rw [hnil] at hkb; simp at hkb
      have hxw : xb < wr.heap.size := Nat.lt_of_lt_of_le xlt hb.out.size
      have hyw : yb < wr.heap.size := Nat.lt_of_lt_of_le ylt hb.out.size
      have c0 := (hb.out.cell (p := ⟨xb, xo + (k * 3 + 0), none⟩) xlt).trans (xcell k 0 _ hka rfl)
      have c1 := (hb.out.cell (p := ⟨xb, xo + (k * 3 + 1), none⟩) xlt).trans (xcell k 1 _ hka rfl)
      have c2 := (hb.out.cell (p := ⟨xb, xo + (k * 3 + 2), none⟩) xlt).trans (xcell k 2 _ hka rfl)
      have e0 := (hb.out.cell (p := ⟨yb, yo + (k * 3 + 0), none⟩) ylt).trans (ycell k 0 _ hkb rfl)
      have e1 := (hb.out.cell (p := ⟨yb, yo + (k * 3 + 1), none⟩) ylt).trans (ycell k 1 _ hkb rfl)
      have e2 := (hb.out.cell (p := ⟨yb, yo + (k * 3 + 2), none⟩) ylt).trans (ycell k 2 _ hkb rfl)
      simp only [Nat.add_zero, ← Nat.add_assoc] at c0 c1 c2 e0 e1 e2
      clear xcell ycell HX HY
      have HF := Lib.hid (fun (h : eqT a[k] b[k] = false) => sameF_at hka hkb h)
      have HT : Hid (eqT a[k] b[k] = true → ∀ j, j < k + 1 → ∀ (h1 : j < a.length) (h2 : j < b.length), eqT a[j] b[j] = true) := by
        show _
        intro h j hj h1 h2
        by_cases e : j = k
        · subst e; exact h
        · exact hq.out j (by omega) h1 h2
      clear hq
      have HNE := Lib.hid (fun W => neq_Test a[k] b[k] W)
      generalize a[k] = x at *
      generalize b[k] = y at *
      have hK := Lib.hid (KR.start (Below.refl wr.heap.size wr) (Nat.le_refl _))
      haveI : Nonempty (Keep (KR wr.heap.size wr [])) := ⟨⟨_, hK.out⟩⟩
      have k0 : ∀ p : Keep (KR wr.heap.size wr []), p.w.cell? ⟨xb, xo + k * 3, none⟩ = some (.int .i64 x.fField) := fun p => (p.h.below.cell (p := ⟨xb, _, none⟩) hxw).trans c0
      have k1 : ∀ p : Keep (KR wr.heap.size wr []), p.w.cell? ⟨xb, xo + k * 3 + 1, none⟩ = some (.int .u64 x.fValue) := fun p => (p.h.below.cell (p := ⟨xb, _, none⟩) hxw).trans c1
      have k2 : ∀ p : Keep (KR wr.heap.size wr []), p.w.cell? ⟨xb, xo + k * 3 + 2, none⟩ = some (.int .u64 x.fMask) := fun p => (p.h.below.cell (p := ⟨xb, _, none⟩) hxw).trans c2
      have l0 : ∀ p : Keep (KR wr.heap.size wr []), p.w.cell? ⟨yb, yo + k * 3, none⟩ = some (.int .i64 y.fField) := fun p => (p.h.below.cell (p := ⟨yb, _, none⟩) hyw).trans e0
      have l1 : ∀ p : Keep (KR wr.heap.size wr []), p.w.cell? ⟨yb, yo + k * 3 + 1, none⟩ = some (.int .u64 y.fValue) := fun p => (p.h.below.cell (p := ⟨yb, _, none⟩) hyw).trans e1
      have l2 : ∀ p : Keep (KR wr.heap.size wr []), p.w.cell? ⟨yb, yo + k * 3 + 2, none⟩ = some (.int .u64 y.fMask) := fun p => (p.h.below.cell (p := ⟨yb, _, none⟩) hyw).trans e2
      clear c0 c1 c2 e0 e1 e2
      cases hxy : eqT x y with
      | false =>
        have HRES := Lib.hid (HF.out hxy)
        rw [hxy] at HNE
        have hne := HNE.out
        clear HF HT HNE hxy
        go_upto_region 6 with fail
        refine wp_region_keep2 (Cl := KR wr.heap.size wr []) (by kernel_rfl) (by kernel_rfl) hK.out.drew ?_
        intro y' hy
        clear hy
        repeat
          refine wpQ2_step (fun K hK => ?_)
          go_simp
          (refine hK _ ?_; clear hK K)
        refine wpQ2_nil ?_
        intro W9 K9
        have HB := Lib.hid (hb.out.trans (K9.below.mono hb.out.size))
        clear k0 k1 k2 l0 l1 l2 K9 hne
        go_wp2
        go_ret
        exact ⟨by rw [HRES.out]; rfl, HB.out⟩
      | true =>
        have HRES := Lib.hid (HT.out hxy)
        rw [hxy] at HNE
        have hne := HNE.out
        clear HF HT HNE hxy
        go_upto_region 6 with fail
        refine wp_region_keep2 (Cl := KR wr.heap.size wr []) (by kernel_rfl) (by kernel_rfl) hK.out.drew ?_
        intro y' hy
        clear hy
        repeat
          refine wpQ2_step (fun K hK => ?_)
          go_simp
          (refine hK _ ?_; clear hK K)
        refine wpQ2_nil ?_
        intro W9 K9
        have HB := Lib.hid (hb.out.trans (K9.below.mono hb.out.size))
        clear k0 k1 k2 l0 l1 l2 K9 hne
        go_wp2_with fail
        go_roundw
        case rel => exact ⟨k + 1, hlt, by go_num, HB, HRES⟩
        case measure => simp [intOf]; omega
    · have d1 : decide (k < n) = false := by simpa using hlt
      have HRES := Lib.hid (sameF_all HL.out (fun i h1 h2 => hq.out i (by have h3 := HA.out; omega) h1 h2))
      clear HX HY hq
      go_wp2
      go_ret
      exact ⟨by rw [HRES.out]; rfl, hb.out⟩
set_option maxRecDepth 100000 in
set_option maxHeartbeats 4000000 in
theorem rSame_any (w : World) (va vb : Value) (a b : List Test) (ha : ReadL w 3 encTest va a) (hb : ReadL w 3 encTest vb b) :
    Calls Try.prog 16 #[va, vb] w fun e w' => e = .returned (.bool (sameF a b)) ∧ Below w.heap.size w w' := by
  obtain ⟨xa, xc, rfl, xcap, xmax, hxc⟩ := ha
  obtain ⟨ya, yc, rfl, ycap, ymax, hyc⟩ := hb
  unfold maxLen at xmax ymax
  have HX := Lib.hid hxc
  have HY := Lib.hid hyc
  clear hxc hyc
  by_cases hl : a.length = b.length
  case neg =>
    rw [sameF_len hl]
    have t1 : ((a.length : Int) == (b.length : Int)) = false := beq_eq_false_iff_ne.mpr (by omega)
    have t2 : ¬ (a.length = b.length) := hl
    clear HX HY
    go_enter Try.func16, Try.ntmps16
    go_wp2
    go_ret
    exact ⟨rfl, Below.refl _ _⟩
  have HL := Lib.hid hl
  obtain ⟨n, hna⟩ : ∃ n, a.length = n := ⟨_, rfl⟩
  have hnb : b.length = n := by omega
  have HA := Lib.hid hna
  have HN := Lib.hid hnb
  rw [hna] at xcap
  rw [hnb] at ycap
  rw [hna, hnb]
  clear hl hna hnb
  go_enter Try.func16, Try.ntmps16
  go_wp2_with fail
  go_loopw [5] (fun iv wr => ∃ k : Nat, k ≤ n ∧ iv = .int .i64 k ∧ Hid (Below w.heap.size w wr) ∧ Hid (∀ j, j < k → ∀ (h1 : j < a.length) (h2 : j < b.length), eqT a[j] b[j] = true)) (fun iv _ => n - (intOf iv).toNat)
  case atStart => exact ⟨0, Nat.zero_le _, rfl, Lib.hid (Below.refl _ w), Lib.hid (fun j hj => absurd hj (Nat.not_lt_zero _))⟩
  case round =>
    obtain ⟨k, hk, rfl, hb, hq⟩ := hrel
    by_cases hlt : k < n
    · have d1 : decide (k < n) = true := by simpa using hlt
      have hka : k < a.length := by have h1 := HA.out; have h2 := HN.out; omega
      have hkb : k < b.length := by have h1 := HA.out; have h2 := HN.out; omega
      rcases HX.out with hnil | ⟨xb, xo, rfl, xlt, xcell⟩
      · rw [hnil] at hka; simp at hka
      rcases HY.out with hnil | ⟨yb, yo, rfl, ylt, ycell⟩
      · rw [hnil] at hkb; simp at hkb
      have hxw : xb < wr.heap.size := Nat.lt_of_lt_of_le xlt hb.out.size
      have hyw : yb < wr.heap.size := Nat.lt_of_lt_of_le ylt hb.out.size
      have c0 := (hb.out.cell (p := ⟨xb, xo + (k * 3 + 0), none⟩) xlt).trans (xcell k 0 _ hka rfl)
      have c1 := (hb.out.cell (p := ⟨xb, xo + (k * 3 + 1), none⟩) xlt).trans (xcell k 1 _ hka rfl)
      have c2 := (hb.out.cell (p := ⟨xb, xo + (k * 3 + 2), none⟩) xlt).trans (xcell k 2 _ hka rfl)
      have e0 := (hb.out.cell (p := ⟨yb, yo + (k * 3 + 0), none⟩) ylt).trans (ycell k 0 _ hkb rfl)
      have e1 := (hb.out.cell (p := ⟨yb, yo + (k * 3 + 1), none⟩) ylt).trans (ycell k 1 _ hkb rfl)
      have e2 := (hb.out.cell (p := ⟨yb, yo + (k * 3 + 2), none⟩) ylt).trans (ycell k 2 _ hkb rfl)
      simp only [Nat.add_zero, ← Nat.add_assoc] at c0 c1 c2 e0 e1 e2
      clear xcell ycell HX HY
      have HF := Lib.hid (fun (h : eqT a[k] b[k] = false) => sameF_at hka hkb h)
      have HT : Hid (eqT a[k] b[k] = true → ∀ j, j < k + 1 → ∀ (h1 : j < a.length) (h2 : j < b.length), eqT a[j] b[j] = true) := by
        show _
        intro h j hj h1 h2
        by_cases e : j = k
        · subst e; exact h
        · exact hq.out j (by omega) h1 h2
      clear hq
      have HNE := Lib.hid (fun W => neq_Test a[k] b[k] W)
      generalize a[k] = x at *
      generalize b[k] = y at *
      have hK := Lib.hid (KR.start (Below.refl wr.heap.size wr) (Nat.le_refl _))
      haveI : Nonempty (Keep (KR wr.heap.size wr [])) := ⟨⟨_, hK.out⟩⟩
      have k0 : ∀ p : Keep (KR wr.heap.size wr []), p.w.cell? ⟨xb, xo + k * 3, none⟩ = some (.int .i64 x.fField) := fun p => (p.h.below.cell (p := ⟨xb, _, none⟩) hxw).trans c0
      have k1 : ∀ p : Keep (KR wr.heap.size wr []), p.w.cell? ⟨xb, xo + k * 3 + 1, none⟩ = some (.int .u64 x.fValue) := fun p => (p.h.below.cell (p := ⟨xb, _, none⟩) hxw).trans c1
      have k2 : ∀ p : Keep (KR wr.heap.size wr []), p.w.cell? ⟨xb, xo + k * 3 + 2, none⟩ = some (.int .u64 x.fMask) := fun p => (p.h.below.cell (p := ⟨xb, _, none⟩) hxw).trans c2
      have l0 : ∀ p : Keep (KR wr.heap.size wr []), p.w.cell? ⟨yb, yo + k * 3, none⟩ = some (.int .i64 y.fField) := fun p => (p.h.below.cell (p := ⟨yb, _, none⟩) hyw).trans e0
      have l1 : ∀ p : Keep (KR wr.heap.size wr []), p.w.cell? ⟨yb, yo + k * 3 + 1, none⟩ = some (.int .u64 y.fValue) := fun p => (p.h.below.cell (p := ⟨yb, _, none⟩) hyw).trans e1
      have l2 : ∀ p : Keep (KR wr.heap.size wr []), p.w.cell? ⟨yb, yo + k * 3 + 2, none⟩ = some (.int .u64 y.fMask) := fun p => (p.h.below.cell (p := ⟨yb, _, none⟩) hyw).trans e2
      clear c0 c1 c2 e0 e1 e2
      cases hxy : eqT x y with
      | false =>
        have HRES := Lib.hid (HF.out hxy)
        rw [hxy] at HNE
        have hne := HNE.out
        clear HF HT HNE hxy
        go_upto_region 6 with fail
        refine wp_region_keep2 (Cl := KR wr.heap.size wr []) (by kernel_rfl) (by kernel_rfl) hK.out.drew ?_
        intro y' hy
        clear hy
        repeat
          refine wpQ2_step (fun K hK => ?_)
          go_simp
          (refine hK _ ?_; clear hK K)
        refine wpQ2_nil ?_
        intro W9 K9
        have HB := Lib.hid (hb.out.trans (K9.below.mono hb.out.size))
        clear k0 k1 k2 l0 l1 l2 K9 hne
        go_wp2
        go_ret
        exact ⟨by rw [HRES.out]; rfl, HB.out⟩
      | true =>
        have HRES := Lib.hid (HT.out hxy)
        rw [hxy] at HNE
        have hne := HNE.out
        clear HF HT HNE hxy
        go_upto_region 6 with fail
        refine wp_region_keep2 (Cl := KR wr.heap.size wr []) (by kernel_rfl) (by kernel_rfl) hK.out.drew ?_
        intro y' hy
        clear hy
        repeat
          refine wpQ2_step (fun K hK => ?_)
          go_simp
          (refine hK _ ?_; clear hK K)
        refine wpQ2_nil ?_
        intro W9 K9
        have HB := Lib.hid (hb.out.trans (K9.below.mono hb.out.size))
        clear k0 k1 k2 l0 l1 l2 K9 hne
        go_wp2_with fail
        go_roundw
        case rel => exact ⟨k + 1, hlt, by go_num, HB, HRES⟩
        case measure => simp [intOf]; omega
    · have d1 : decide (k < n) = false := by simpa using hlt
      have HRES := Lib.hid (sameF_all HL.out (fun i h1 h2 => hq.out i (by have h3 := HA.out; omega) h1 h2))
      clear HX HY hq
      go_wp2
      go_ret
      exact ⟨by rw [HRES.out]; rfl, hb.out⟩
set_option maxRecDepth 100000 in
theorem Same_any (w : World) (va vb : Value) (a b : List Test) (ha : ReadL w 3 encTest va a) (hb : ReadL w 3 encTest vb b) :
    Calls Try.prog 15 #[va, vb] w fun e w' => e = .returned (.bool (sameF a b)) ∧ Below w.heap.size w w' := by
  have HE := Lib.hid (Equal_any w va vb a b ha hb)
  clear ha hb
  generalize sameF a b = r at *
  go_enter Try.func15, Try.ntmps15
  go_wp2_with fail
  refine HE.out.mono ?_
  rintro e w' ⟨rfl, hb⟩
  go_wp2
  go_ret
  exact ⟨rfl, hb⟩
end Go.Proofs.Ytaaadbmhcfjooaa
