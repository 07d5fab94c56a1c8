/- Tests: all, whole and what leans on them. -/
import Derived.Test.YtaaadbmhcfjooaaTTest
import Derived.Test.YtaaadbmhcfjooaaQuiet
import Derived.Test.YtaaadbmhcfjooaaFieldGet
import Derived.Deep.Cut
namespace Go.Proofs.Ytaaadbmhcfjooaa
open Go.RowKit
set_option linter.unusedVariables false

theorem KR.cell {B : Nat} {w W : World} {l : List (Nat × TypeId × Array Value)} (h : KR B w l W) (i j : Nat) {g : Nat} {t : TypeId} {cs : Array Value} {v : Value} (hi : l[i]? = some (g, t, cs)) (hv : cs[j]? = some v) :
    W.cell? ⟨g, j, none⟩ = some v := (cell_of_row W g j cs t (0, 0) (h.at i hi)).trans hv
theorem Calls.keepS {P : Program} {Cl : World → Prop} {f : FuncId} {args : Array Value} {v : Value} {p : Keep Cl} (h : Calls P f args p.w fun e w' => e = .returned v ∧ p.w = w') :
    Calls P f args p.w fun e w'' => e = .returned v ∧ ∃ q : Keep Cl, w'' = q.w :=
  h.mono fun _ _ ⟨he, hb⟩ => ⟨he, p, hb.symm⟩

set_option maxHeartbeats 4000000 in
theorem all_any (w : World) (f : Int) : Calls Try.prog 27 #[.int .i64 f] w fun x w' => x = .returned (.int .u64 (greatF f)) ∧ w = w' := by
  have H := Lib.hid (Width_any w f)
  rcases fcases f with rfl | rfl | rfl | rfl | rfl | rfl | rfl | rfl | rfl | ⟨h1, h2, h3, h4, h5, h6, h7, h8, h9, h⟩
  case inr.inr.inr.inr.inr.inr.inr.inr.inr =>
    rw [widthF_none h] at H
    have hg : greatF f = 0 := by unfold greatF; rw [widthF_none h]; rfl
    rw [hg]
    clear h hg
    go_enter Try.func27, Try.ntmps27
    go_wp2_with fail
    refine H.out.mono ?_
    rintro e w' ⟨rfl, rfl⟩
    go_wp2
    go_ret
    exact ⟨rfl, rfl⟩
  all_goals
    try rw [widthF_1] at H
    try rw [widthF_2] at H
    try rw [widthF_3] at H
    try rw [widthF_4] at H
    try rw [widthF_5] at H
    try rw [widthF_6] at H
    try rw [widthF_7] at H
    try rw [widthF_8] at H
    try rw [widthF_9] at H
    go_enter Try.func27, Try.ntmps27
    go_wp2_with fail
    refine H.out.mono ?_
    rintro e w' ⟨rfl, rfl⟩
    go_wp2
    go_ret
    exact ⟨rfl, rfl⟩

/-- Is a test the whole one of a field? -/
def isW (f : Int) (t : Test) : Bool := t.fField == f && t.fMask == greatF f
/-- The value of the whole test of a field. -/
def wholeF (l : List Test) (f : Int) : Int × Bool := match l.find? (isW f) with
  | some t => (t.fValue, true)
  | none => (0, false)
/-- Where the first one stands of which p holds; -1: nowhere. -/
def idxI (p : Test → Bool) (l : List Test) : Int := match l.findIdx? p with
  | some i => i
  | none => -1
theorem idxI_at (p : Test → Bool) (l : List Test) (k : Nat) (hk : k < l.length) (h1 : p l[k] = true) (h0 : ∀ j (hj : j < l.length), j < k → p l[j] = false) : idxI p l = k := by
  have h : l.findIdx? p = some k := by
    rw [List.findIdx?_eq_some_iff_getElem]
    exact ⟨hk, h1, fun j hj => by simp [h0 j (by omega) hj]⟩
  unfold idxI
  rw [h]
theorem idxI_none (p : Test → Bool) (l : List Test) (h0 : ∀ j (hj : j < l.length), p l[j] = false) : idxI p l = -1 := by
  have h : l.findIdx? p = none := by
    rw [List.findIdx?_eq_none_iff]
    intro x hx
    obtain ⟨j, hj, rfl⟩ := List.getElem_of_mem hx
    simp [h0 j hj]
  unfold idxI
  rw [h]
theorem idxI_cases (p : Test → Bool) (l : List Test) : (idxI p l = -1 ∧ l.find? p = none) ∨ ∃ k, ∃ hk : k < l.length, idxI p l = (k : Int) ∧ l.find? p = some l[k] := by
  unfold idxI
  cases h : l.findIdx? p with
  | none =>
    left
    refine ⟨rfl, ?_⟩
    rw [List.findIdx?_eq_none_iff] at h
    rw [List.find?_eq_none]
    intro x hx
    simp [h x hx]
  | some k =>
    right
    rw [List.findIdx?_eq_some_iff_getElem] at h
    obtain ⟨hk, h1, h2⟩ := h
    refine ⟨k, hk, rfl, ?_⟩
    rw [List.find?_eq_some_iff_getElem]
    exact ⟨h1, k, hk, rfl, fun j hj => by simpa using h2 j hj⟩

set_option maxRecDepth 100000 in
set_option maxHeartbeats 4000000 in
theorem isW_any (w W : World) (f : Int) (bp : Nat) (hlt : bp < w.heap.size) (hc : w.cell? ⟨bp, 0, none⟩ = some (.int .i64 f)) (x : Test) (hb : Below w.heap.size w W) :
    Calls Try.prog 52 #[valTest x, .pointer (some ⟨bp, 0, none⟩)] W fun e w' => e = .returned (.bool (isW f x)) ∧ Below W.heap.size W w' := by
  have HA := Lib.hid (fun W => all_any W f)
  have cW : W.cell? ⟨bp, 0, none⟩ = some (.int .i64 f) := (hb.cell (p := ⟨bp, 0, none⟩) hlt).trans hc
  have hltW : bp < W.heap.size := Nat.lt_of_lt_of_le hlt hb.size
  have hne : bp ≠ W.heap.size := Nat.ne_of_lt hltW
  clear hb hc hlt
  obtain ⟨tf, tv, tm⟩ := x
  by_cases h1 : tf = f
  · have t1 : (tf == f) = true := by simpa using h1
    unfold isW
    generalize greatF f = gm at *
    by_cases h2 : tm = gm
    · have t2 : (tm == gm) = true := by simpa using h2
      have e : (tf == f && tm == gm) = true := by simp [h1, h2]
      show Calls _ _ _ _ fun e w' => e = .returned (.bool (tf == f && tm == gm)) ∧ _
      rw [e]
      clear e h1 h2
      go_enter Try.func52, Try.ntmps52
      go_upto_region 1 with fail
      refine one_box_wp ?_
      intro W1 hb1 hbel hsz
      have K := (KR.start hbel hbel.size).add hb1
      have hK := Lib.hid K
      generalize hg : W.heap.size = g at *
      clear hb1 hbel hsz K
      refine wp_region_keep (Cl := KR g W [(g, 48, #[.int .i64 tf, .int .u64 tv, .int .u64 tm])]) (by kernel_rfl) (by kernel_rfl) hK.out.drew ?_
      haveI : Nonempty (Keep (KR g W [(g, 48, #[.int .i64 tf, .int .u64 tv, .int .u64 tm])])) := ⟨⟨_, hK.out⟩⟩
      have k0 : ∀ p : Keep (KR g W [(g, 48, #[.int .i64 tf, .int .u64 tv, .int .u64 tm])]), p.w.cell? ⟨g, 0, none⟩ = some (.int .i64 tf) := fun p => p.h.cell 0 0 rfl rfl
      have k2 : ∀ p : Keep (KR g W [(g, 48, #[.int .i64 tf, .int .u64 tv, .int .u64 tm])]), p.w.cell? ⟨g, 2, none⟩ = some (.int .u64 tm) := fun p => p.h.cell 0 2 rfl rfl
      have kf : ∀ p : Keep (KR g W [(g, 48, #[.int .i64 tf, .int .u64 tv, .int .u64 tm])]), p.w.cell? ⟨bp, 0, none⟩ = some (.int .i64 f) := fun p => (p.h.below.cell (p := ⟨bp, 0, none⟩) hltW).trans cW
      repeat (quiet_step ((exact Calls.keepS (HA.out _))))
      refine wpQuiet_nil ?_
      intro W9 K9
      go_wp2
      go_ret
      exact ⟨rfl, by rw [hg]; exact K9.below⟩
    · have t2 : (tm == gm) = false := beq_eq_false_iff_ne.mpr h2
      have e : (tf == f && tm == gm) = false := by simp [t2]
      show Calls _ _ _ _ fun e w' => e = .returned (.bool (tf == f && tm == gm)) ∧ _
      rw [e]
      clear e h1 h2
      go_enter Try.func52, Try.ntmps52
      go_upto_region 1 with fail
      refine one_box_wp ?_
      intro W1 hb1 hbel hsz
      have K := (KR.start hbel hbel.size).add hb1
      have hK := Lib.hid K
      generalize hg : W.heap.size = g at *
      clear hb1 hbel hsz K
      refine wp_region_keep (Cl := KR g W [(g, 48, #[.int .i64 tf, .int .u64 tv, .int .u64 tm])]) (by kernel_rfl) (by kernel_rfl) hK.out.drew ?_
      haveI : Nonempty (Keep (KR g W [(g, 48, #[.int .i64 tf, .int .u64 tv, .int .u64 tm])])) := ⟨⟨_, hK.out⟩⟩
      have k0 : ∀ p : Keep (KR g W [(g, 48, #[.int .i64 tf, .int .u64 tv, .int .u64 tm])]), p.w.cell? ⟨g, 0, none⟩ = some (.int .i64 tf) := fun p => p.h.cell 0 0 rfl rfl
      have k2 : ∀ p : Keep (KR g W [(g, 48, #[.int .i64 tf, .int .u64 tv, .int .u64 tm])]), p.w.cell? ⟨g, 2, none⟩ = some (.int .u64 tm) := fun p => p.h.cell 0 2 rfl rfl
      have kf : ∀ p : Keep (KR g W [(g, 48, #[.int .i64 tf, .int .u64 tv, .int .u64 tm])]), p.w.cell? ⟨bp, 0, none⟩ = some (.int .i64 f) := fun p => (p.h.below.cell (p := ⟨bp, 0, none⟩) hltW).trans cW
      repeat (quiet_step ((exact Calls.keepS (HA.out _))))
      refine wpQuiet_nil ?_
      intro W9 K9
      go_wp2
      go_ret
      exact ⟨rfl, by rw [hg]; exact K9.below⟩
  · have t1 : (tf == f) = false := beq_eq_false_iff_ne.mpr h1
    have e : isW f ⟨tf, tv, tm⟩ = false := by simp [isW, t1]
    rw [e]
    clear e h1
    go_enter Try.func52, Try.ntmps52
    go_upto_region 1 with fail
    refine one_box_wp ?_
    intro W1 hb1 hbel hsz
    have K := (KR.start hbel hbel.size).add hb1
    have hK := Lib.hid K
    generalize hg : W.heap.size = g at *
    clear hb1 hbel hsz K
    refine wp_region_keep (Cl := KR g W [(g, 48, #[.int .i64 tf, .int .u64 tv, .int .u64 tm])]) (by kernel_rfl) (by kernel_rfl) hK.out.drew ?_
    haveI : Nonempty (Keep (KR g W [(g, 48, #[.int .i64 tf, .int .u64 tv, .int .u64 tm])])) := ⟨⟨_, hK.out⟩⟩
    have k0 : ∀ p : Keep (KR g W [(g, 48, #[.int .i64 tf, .int .u64 tv, .int .u64 tm])]), p.w.cell? ⟨g, 0, none⟩ = some (.int .i64 tf) := fun p => p.h.cell 0 0 rfl rfl
    have k2 : ∀ p : Keep (KR g W [(g, 48, #[.int .i64 tf, .int .u64 tv, .int .u64 tm])]), p.w.cell? ⟨g, 2, none⟩ = some (.int .u64 tm) := fun p => p.h.cell 0 2 rfl rfl
    have kf : ∀ p : Keep (KR g W [(g, 48, #[.int .i64 tf, .int .u64 tv, .int .u64 tm])]), p.w.cell? ⟨bp, 0, none⟩ = some (.int .i64 f) := fun p => (p.h.below.cell (p := ⟨bp, 0, none⟩) hltW).trans cW
    repeat (quiet_step ((exact Calls.keepS (HA.out _))))
    refine wpQuiet_nil ?_
    intro W9 K9
    go_wp2
    go_ret
    exact ⟨rfl, by rw [hg]; exact K9.below⟩

set_option maxRecDepth 100000 in
set_option maxHeartbeats 4000000 in
/-- slices.IndexFunc at tests, whatever predicate the closure tells. -/
theorem indexF_any (g : Nat) (lb : Array Value) (p : Test → Bool) (eg : ∀ args w, (callFunc g args).run Try.prog w = .ok (.enter g args) w) (w : World) (v : Value) (l : List Test) (h : ReadL w 3 encTest v l)
    (hp : ∀ W x, Below w.heap.size w W → Calls Try.prog g (#[valTest x] ++ lb) W fun e w' => e = .returned (.bool (p x)) ∧ Below W.heap.size W w') :
    Calls Try.prog 51 #[v, .func (.func g) #[] lb] w fun e w' => e = .returned (.int .i64 (idxI p l)) ∧ Below w.heap.size w w' := by
  obtain ⟨a, cap, rfl, hcap, hmax, hcells⟩ := h
  unfold maxLen at hmax
  have HC := Lib.hid hcells
  have HP := Lib.hid hp
  clear hcells hp
  go_enter Try.func51, Try.ntmps51
  go_wp2_with fail
  go_loopw [8] (fun iv wr => ∃ k : Nat, k ≤ l.length ∧ iv = .int .i64 k ∧ Hid (Below w.heap.size w wr) ∧ Hid (∀ j (hj : j < l.length), j < k → p l[j] = false)) (fun iv _ => l.length - (intOf iv).toNat)
  case atStart => exact ⟨0, Nat.zero_le _, rfl, Lib.hid (Below.refl _ w), Lib.hid (fun j hj hk => absurd hk (Nat.not_lt_zero _))⟩
  case round =>
    obtain ⟨k, hk, rfl, hb, hq⟩ := hrel
    by_cases hlt : k < l.length
    · have d1 : decide (k < l.length) = true := by simpa using hlt
      rcases HC.out with hnil | ⟨b, off, rfl, hblt, hcell⟩
      · rw [hnil] at hlt; simp at hlt
      have c0 := (hb.out.cell (p := ⟨b, off + (k * 3 + 0), none⟩) hblt).trans (hcell k 0 _ hlt rfl)
      have c1 := (hb.out.cell (p := ⟨b, off + (k * 3 + 1), none⟩) hblt).trans (hcell k 1 _ hlt rfl)
      have c2 := (hb.out.cell (p := ⟨b, off + (k * 3 + 2), none⟩) hblt).trans (hcell k 2 _ hlt rfl)
      simp only [Nat.add_zero, ← Nat.add_assoc] at c0 c1 c2
      have HY := Lib.hid (HP.out wr l[k] hb.out)
      have HZ : Hid (p l[k] = p l[k]) := Lib.hid rfl
      clear hcell HC
      generalize hy : l[k] = y at c0 c1 c2 HY
      have HYy := Lib.hid hy
      clear hy HZ HP
      go_wp2_with fail
      refine HY.out.mono ?_
      rintro e w' ⟨rfl, hb'⟩
      have hbb := hb.out.trans (hb'.mono hb.out.size)
      cases hpy : p y with
      | true =>
        have e := Lib.hid (idxI_at p l k hlt (by rw [HYy.out]; exact hpy) hq.out)
        clear HY
        go_wp2
        go_ret
        exact ⟨by rw [e.out]; rfl, hbb⟩
      | false =>
        clear HY
        have HB := Lib.hid hbb
        clear hbb hb'
        have HQ : Hid (∀ j (hj : j < l.length), j < k + 1 → p l[j] = false) := by
          show _
          intro j hj hj2
          by_cases hjk : j = k
          · subst hjk; rw [HYy.out]; exact hpy
          · exact hq.out j hj (by omega)
        clear hpy
        go_wp2_with fail
        go_roundw
        case rel => exact ⟨k + 1, hlt, by go_num, HB, HQ⟩
        case measure => simp [intOf]; omega
    · have d1 : decide (k < l.length) = false := by simpa using hlt
      have e := Lib.hid (idxI_none p l (fun j hj => hq.out j hj (by omega)))
      clear HP HC hq
      go_wp2
      go_ret
      exact ⟨by rw [e.out]; rfl, hb.out⟩
end Go.Proofs.Ytaaadbmhcfjooaa
