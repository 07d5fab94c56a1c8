/- match.Covers and match.Meets. -/
import Derived.Test.YtaaadbmhcfjooaaMatchC
import Derived.Test.YtaaadbmhcfjooaaQuiet2
namespace Go.Proofs.Ytaaadbmhcfjooaa
open Go.RowKit
set_option linter.unusedVariables false

theorem idxI_any (p : Test → Bool) (l : List Test) : decide (0 ≤ idxI p l) = l.any p := by
  rcases idxI_cases p l with ⟨h1, h2⟩ | ⟨k, hk, h1, h2⟩
  · rw [h1]
    have : l.any p = false := by
      rw [List.any_eq_false]
      rw [List.find?_eq_none] at h2
      intro x hx
      simpa using h2 x hx
    rw [this]; rfl
  · rw [h1]
    have : l.any p = true := by
      rw [List.any_eq_true]
      exact ⟨_, List.getElem_mem hk, List.find?_some h2⟩
    rw [this]
    simp
set_option maxRecDepth 100000 in
theorem contF_any (g : Nat) (lb : Array Value) (p : Test → Bool) (eg : ∀ args w, (callFunc g args).run Try.prog w = .ok (.enter g args) w) (w : World) (v : Value) (l : List Test) (h : ReadL w 3 encTest v l)
    (hp : ∀ W x, Below w.heap.size w W → Calls Try.prog g (#[valTest x] ++ lb) W fun e w' => e = .returned (.bool (p x)) ∧ Below W.heap.size W w') :
    Calls Try.prog 41 #[v, .func (.func g) #[] lb] w fun e w' => e = .returned (.bool (l.any p)) ∧ Below w.heap.size w w' := by
  rw [← idxI_any]
  have HI := Lib.hid (indexF_any g lb p eg w v l h hp)
  clear hp h eg
  generalize idxI p l = r at *
  by_cases hr : 0 ≤ r
  · have d1 : decide (0 ≤ r) = true := by simpa using hr
    rw [d1]
    go_enter Try.func41, Try.ntmps41
    go_wp2_with fail
    refine HI.out.mono ?_
    rintro e w' ⟨rfl, hb⟩
    go_wp2
    go_ret
    exact ⟨rfl, hb⟩
  · have d1 : decide (0 ≤ r) = false := by simpa using hr
    rw [d1]
    go_enter Try.func41, Try.ntmps41
    go_wp2_with fail
    refine HI.out.mono ?_
    rintro e w' ⟨rfl, hb⟩
    go_wp2
    go_ret
    exact ⟨rfl, hb⟩

/-- Does a test take all that another one takes? -/
def covT (t u : Test) : Bool := u.fField == t.fField && bits .andNot .u64 t.fMask u.fMask == 0 && bits .and .u64 u.fValue t.fMask == t.fValue

set_option maxRecDepth 100000 in
set_option maxHeartbeats 4000000 in
theorem cov11_any (w W : World) (t : Test) (bp : Nat) (hlt : bp < w.heap.size) (hc : BlkAt w bp 48 #[.int .i64 t.fField, .int .u64 t.fValue, .int .u64 t.fMask]) (x : Test) (hb : Below w.heap.size w W) :
    Calls Try.prog 43 #[valTest x, .pointer (some ⟨bp, 0, none⟩)] W fun e w' => e = .returned (.bool (covT t x)) ∧ Below W.heap.size W w' := by
  have hB := hc.below hb hlt
  have hltW : bp < W.heap.size := hB.lt
  have hne : bp ≠ W.heap.size := Nat.ne_of_lt hltW
  clear hb hc hlt
  obtain ⟨tf, tv, tm⟩ := t
  obtain ⟨uf, uv, um⟩ := x
  have q0 := (cell_of_row W bp 0 _ _ (0, 0) hB).trans rfl
  have q1 := (cell_of_row W bp 1 _ _ (0, 0) hB).trans rfl
  have q2 := (cell_of_row W bp 2 _ _ (0, 0) hB).trans rfl
  clear hB
  obtain ⟨x1, e1⟩ : ∃ x, bits .andNot .u64 tm um = x := ⟨_, rfl⟩
  obtain ⟨x2, e2⟩ : ∃ x, bits .and .u64 uv tm = x := ⟨_, rfl⟩
  have ec : covT ⟨tf, tv, tm⟩ ⟨uf, uv, um⟩ = (uf == tf && x1 == 0 && x2 == tv) := by unfold covT; rw [← e1, ← e2]
  by_cases h1 : uf = tf
  case neg =>
    have t1 : (uf == tf) = false := beq_eq_false_iff_ne.mpr h1
    rw [t1] at ec
    rw [ec]
    clear ec h1
    go_enter Try.func43, Try.ntmps43
    go_upto_region 1 with fail
    refine one_box_wp ?_
    intro W1 hb1 hbel hsz
    have r0 := (cell_of_row W1 _ 0 _ _ (0, 0) hb1).trans rfl
    have r1 := (cell_of_row W1 _ 1 _ _ (0, 0) hb1).trans rfl
    have r2 := (cell_of_row W1 _ 2 _ _ (0, 0) hb1).trans rfl
    have s0 := (hbel.cell (p := ⟨bp, 0, none⟩) hltW).trans q0
    have s1 := (hbel.cell (p := ⟨bp, 1, none⟩) hltW).trans q1
    have s2 := (hbel.cell (p := ⟨bp, 2, none⟩) hltW).trans q2
    have HB := Lib.hid hbel
    clear hb1 hbel hsz q0 q1 q2
    go_wp2
    go_ret
    exact ⟨rfl, HB.out⟩
  have t1 : (uf == tf) = true := by simpa using h1
  rw [t1] at ec
  clear h1
  by_cases h2 : x1 = 0
  case neg =>
    have t2 : (x1 == 0) = false := beq_eq_false_iff_ne.mpr h2
    rw [t2] at ec
    rw [ec]
    clear ec h2
    go_enter Try.func43, Try.ntmps43
    go_upto_region 1 with fail
    refine one_box_wp ?_
    intro W1 hb1 hbel hsz
    have r0 := (cell_of_row W1 _ 0 _ _ (0, 0) hb1).trans rfl
    have r1 := (cell_of_row W1 _ 1 _ _ (0, 0) hb1).trans rfl
    have r2 := (cell_of_row W1 _ 2 _ _ (0, 0) hb1).trans rfl
    have s0 := (hbel.cell (p := ⟨bp, 0, none⟩) hltW).trans q0
    have s1 := (hbel.cell (p := ⟨bp, 1, none⟩) hltW).trans q1
    have s2 := (hbel.cell (p := ⟨bp, 2, none⟩) hltW).trans q2
    have HB := Lib.hid hbel
    clear hb1 hbel hsz q0 q1 q2
    go_wp2
    go_ret
    exact ⟨rfl, HB.out⟩
  subst h2
  by_cases h3 : x2 = tv
  case neg =>
    have t3 : (x2 == tv) = false := beq_eq_false_iff_ne.mpr h3
    rw [t3] at ec
    rw [ec]
    clear ec h3
    go_enter Try.func43, Try.ntmps43
    go_upto_region 1 with fail
    refine one_box_wp ?_
    intro W1 hb1 hbel hsz
    have r0 := (cell_of_row W1 _ 0 _ _ (0, 0) hb1).trans rfl
    have r1 := (cell_of_row W1 _ 1 _ _ (0, 0) hb1).trans rfl
    have r2 := (cell_of_row W1 _ 2 _ _ (0, 0) hb1).trans rfl
    have s0 := (hbel.cell (p := ⟨bp, 0, none⟩) hltW).trans q0
    have s1 := (hbel.cell (p := ⟨bp, 1, none⟩) hltW).trans q1
    have s2 := (hbel.cell (p := ⟨bp, 2, none⟩) hltW).trans q2
    have HB := Lib.hid hbel
    clear hb1 hbel hsz q0 q1 q2
    go_wp2
    go_ret
    exact ⟨rfl, HB.out⟩
  have t3 : (x2 == tv) = true := by simpa using h3
  rw [t3] at ec
  rw [ec]
  clear ec h3
  go_enter Try.func43, Try.ntmps43
  go_upto_region 1 with fail
  refine one_box_wp ?_
  intro W1 hb1 hbel hsz
  have r0 := (cell_of_row W1 _ 0 _ _ (0, 0) hb1).trans rfl
  have r1 := (cell_of_row W1 _ 1 _ _ (0, 0) hb1).trans rfl
  have r2 := (cell_of_row W1 _ 2 _ _ (0, 0) hb1).trans rfl
  have s0 := (hbel.cell (p := ⟨bp, 0, none⟩) hltW).trans q0
  have s1 := (hbel.cell (p := ⟨bp, 1, none⟩) hltW).trans q1
  have s2 := (hbel.cell (p := ⟨bp, 2, none⟩) hltW).trans q2
  have HB := Lib.hid hbel
  clear hb1 hbel hsz q0 q1 q2
  go_wp2
  go_ret
  exact ⟨rfl, HB.out⟩

set_option maxRecDepth 100000 in
set_option maxHeartbeats 4000000 in
theorem cov1_any (w W : World) (vb : Value) (b : List Test) (bp : Nat) (hlt : bp < w.heap.size) (hc : w.cell? ⟨bp, 0, none⟩ = some vb) (hv : ReadL w 3 encTest vb b) (t : Test) (hb : Below w.heap.size w W) :
    Calls Try.prog 42 #[valTest t, .pointer (some ⟨bp, 0, none⟩)] W fun e w' => e = .returned (.bool (!(b.any (covT t)))) ∧ Below W.heap.size W w' := by
  have eg : Enters Try.prog 43 := enters_of Try.func43 (by kernel_rfl) rfl
  have HEG := Lib.hid eg
  have cW : W.cell? ⟨bp, 0, none⟩ = some vb := (hb.cell (p := ⟨bp, 0, none⟩) hlt).trans hc
  have hltW : bp < W.heap.size := Nat.lt_of_lt_of_le hlt hb.size
  have hne : bp ≠ W.heap.size := Nat.ne_of_lt hltW
  have HR := Lib.hid (hv.below hb (Nat.le_refl _))
  obtain ⟨vba, vbc, rfl, _, _, _⟩ := hv
  obtain ⟨r, hr⟩ : ∃ r, r = b.any (covT t) := ⟨_, rfl⟩
  have HRR := Lib.hid hr
  rw [← hr]
  clear hb hc hlt eg hr
  go_enter Try.func42, Try.ntmps42
  go_upto_region 1 with fail
  refine one_box_wp ?_
  intro W1 hb1 hbel hsz
  have c1 := (hbel.cell (p := ⟨bp, 0, none⟩) hltW).trans cW
  have HI := Lib.hid (contF_any 43 #[.pointer (some ⟨W.heap.size, 0, none⟩)] (covT t) HEG.out W1 _ b (HR.out.below hbel (Nat.le_refl _)) (fun W' x hb => cov11_any W1 W' t W.heap.size hsz.out hb1 x hb))
  have HB := Lib.hid hbel
  clear hb1 hbel hsz cW
  rw [← HRR.out] at HI
  go_wp2_with fail
  refine HI.out.mono ?_
  rintro e w' ⟨rfl, hb'⟩
  have hbb := Lib.hid (HB.out.trans (hb'.mono HB.out.size))
  clear hb'
  go_wp2
  go_ret
  exact ⟨rfl, hbb.out⟩

/-- Does a match take all that another one takes? -/
def coverF (a b : List Test) : Bool := !(a.any fun t => !(b.any (covT t)))
set_option maxRecDepth 100000 in
set_option maxHeartbeats 4000000 in
theorem Covers_any (w : World) (va vb : Value) (a b : List Test) (ha : ReadL w 3 encTest va a) (hb : ReadL w 3 encTest vb b) :
    Calls Try.prog 17 #[va, vb] w fun e w' => e = .returned (.bool (coverF a b)) ∧ Below w.heap.size w w' := by
  have eg : Enters Try.prog 42 := enters_of Try.func42 (by kernel_rfl) rfl
  have HEG := Lib.hid eg
  have HRa := Lib.hid ha
  have HRb := Lib.hid hb
  clear eg
  obtain ⟨xa, xc, rfl, _, _, _⟩ := ha
  obtain ⟨ya, yc, rfl, _, _, _⟩ := hb
  unfold coverF
  obtain ⟨r, hr⟩ : ∃ r, r = (a.any fun t => !(b.any (covT t))) := ⟨_, rfl⟩
  have HRR := Lib.hid hr
  rw [← hr]
  clear hr
  go_enter Try.func17, Try.ntmps17
  go_upto_region 1 with fail
  refine one_box_wp ?_
  intro W hb1 hbel hsz
  have HI := Lib.hid (contF_any 42 #[.pointer (some ⟨w.heap.size, 0, none⟩)] (fun t => !(b.any (covT t))) HEG.out W _ a (HRa.out.below hbel (Nat.le_refl _))
    (fun W' x hb => cov1_any W W' _ b w.heap.size hsz.out ((cell_of_row W _ 0 _ _ (0, 0) hb1).trans rfl) (HRb.out.below hbel (Nat.le_refl _)) x hb))
  rw [← HRR.out] at HI
  have HB := Lib.hid hbel
  clear hb1 hbel hsz
  go_wp2_with fail
  refine HI.out.mono ?_
  rintro e w' ⟨rfl, hb'⟩
  have hbb := Lib.hid (HB.out.trans (hb'.mono HB.out.size))
  clear hb' HI
  go_wp2
  go_ret
  exact ⟨rfl, hbb.out⟩
end Go.Proofs.Ytaaadbmhcfjooaa
