/- Groups: few. -/
import Derived.Test.YtfjngecgfmlnfaaTGroup
import Derived.Test.YtfjngecgfmlnfaaKRMore
import Derived.Test.YtfjngecgfmlnfaaQuiet2
import Derived.Deep.Cut
import Derived.Deep.DeepCutAuto
namespace Go.Proofs.Ytfjngecgfmlnfaa
open Go.RowKit
set_option linter.unusedVariables false
set_option linter.unusedSimpArgs false

def smallB (b : Bucket) : Bool := decide (b.fActions.length ≤ 20)
def fewF (g : Group) : Bool := decide (g.fBuckets.length ≤ 20) && g.fBuckets.all smallB
theorem fewF_iff (g : Group) : fewF g = true ↔ g.fBuckets.length ≤ 20 ∧ ∀ b ∈ g.fBuckets, b.fActions.length ≤ 20 := by
  simp [fewF, smallB]
/-- The slice that a bucket's actions are. -/
theorem okBucket_slice {w : World} {b : Bucket} (h : okBucket w b) : ∃ a cap, b.vActions = .slice a b.fActions.length cap ∧ b.fActions.length ≤ cap ∧ cap ≤ maxLen := by
  obtain ⟨_, _, ⟨⟨a, cap, e, h1, h2, _⟩, _⟩, _⟩ := h
  exact ⟨a, cap, e, h1, h2⟩

set_option maxRecDepth 100000 in
set_option maxHeartbeats 4000000 in
theorem few_any (w : World) (g : Group) (h : okGroup w g) :
    Calls Try.prog 8 #[valGroup g] w fun x w' => x = .returned (.bool (fewF g)) ∧ Below w.heap.size w w' := by
  obtain ⟨gi, gk, gv, bs⟩ := g
  obtain ⟨hi, hk, ⟨hR, hB⟩, _⟩ := h
  simp only at hi hk hR hB
  obtain ⟨a, cap, rfl, hcap, hmax, hcells⟩ := hR
  unfold maxLen at hmax
  have HC := Lib.hid hcells
  have HBk := Lib.hid hB
  have HF := Lib.hid (fewF_iff ⟨gi, gk, .slice a bs.length cap, bs⟩)
  generalize fewF ⟨gi, gk, .slice a bs.length cap, bs⟩ = R at *
  simp only at HF
  clear hcells hB hi hk
  go_enter Try.func8, Try.ntmps8
  go_upto_region 1 with fail
  refine one_box_wp ?_
  intro W hb1 hbel hsz
  have K : Hid (KR w.heap.size w [(w.heap.size, 24, #[.int .i64 gi, .int .i64 gk, .slice a bs.length cap])] W) := Lib.hid ((KR.start hbel hbel.size).add hb1)
  clear hb1 hbel hsz
  have c2 := (K.out.at 0 rfl).cell 2 _ rfl
  by_cases hn : 20 < bs.length
  · have d1 : decide ((20 : Int) < (bs.length : Int)) = true := decide_eq_true (by omega)
    have e : R = false := by
      have := HF.out
      cases R
      · rfl
      · simp at this; omega
    subst e
    go_wp2_with fail
    go_ret
    exact ⟨rfl, K.out.below⟩
  · have d1 : decide ((20 : Int) < (bs.length : Int)) = false := decide_eq_false (by omega)
    go_wp2_with fail
    clear c2
    go_loopw [3] (fun iv wr => ∃ k : Nat, k ≤ bs.length ∧ iv = .int .i64 k ∧ Hid (KR w.heap.size w [(w.heap.size, 24, #[.int .i64 gi, .int .i64 gk, .slice a bs.length cap])] wr) ∧ Hid (∀ j (hj : j < bs.length), j < k → bs[j].fActions.length ≤ 20)) (fun iv _ => bs.length - (intOf iv).toNat)
    case atStart => exact ⟨0, Nat.zero_le _, rfl, K, Lib.hid (fun j hj hk => absurd hk (Nat.not_lt_zero _))⟩
    case round =>
      obtain ⟨k, hk, rfl, K, hq⟩ := hrel
      have c2 := (K.out.at 0 rfl).cell 2 _ rfl
      by_cases hlt : k < bs.length
      · have d2 : decide (k < bs.length) = true := by simpa using hlt
        rcases HC.out with hnil | ⟨b, off, rfl, hblt, hcell⟩
        · rw [hnil] at hlt; simp at hlt
        have c3 := (K.out.below.cell (p := ⟨b, off + (k * 3 + 2), none⟩) hblt).trans (hcell k 2 _ hlt rfl)
        obtain ⟨a', cap', hv, _, _⟩ := okBucket_slice (HBk.out bs[k] (List.getElem_mem hlt))
        simp only [← Nat.add_assoc] at c3
        rw [hv] at c3
        clear hcell HC hv
        have hmem := List.getElem_mem hlt
        have HM : Hid (∀ h : 20 < bs[k].fActions.length, R = false) := Lib.hid (fun h => by
          have := HF.out
          cases R
          · rfl
          · simp at this; have := this.2 _ hmem; omega)
        have HQ : Hid (bs[k].fActions.length ≤ 20 → ∀ j (hj : j < bs.length), j < k + 1 → bs[j].fActions.length ≤ 20) := Lib.hid (fun h j hj hjk => if e : j = k then (by subst e; exact h) else hq.out j hj (by omega))
        clear hmem hq HF HBk
        generalize bs[k].fActions.length = m at *
        by_cases h20 : 20 < m
        · have d3 : decide ((20 : Int) < (m : Int)) = true := decide_eq_true (by omega)
          have e := HM.out h20
          subst e
          go_wp2_with fail
          go_ret
          exact ⟨rfl, K.out.below⟩
        · have d3 : decide ((20 : Int) < (m : Int)) = false := decide_eq_false (by omega)
          go_wp2_with fail
          go_roundw
          case rel => exact ⟨k + 1, by omega, by go_num, K, Lib.hid (HQ.out (by omega))⟩
          case measure => simp [intOf]; omega
      · have d2 : decide (k < bs.length) = false := by simpa using hlt
        have e : R = true := HF.out.2 ⟨by omega, fun b hb => by obtain ⟨j, hj, rfl⟩ := List.getElem_of_mem hb; exact hq.out j hj (by omega)⟩
        subst e
        go_wp2_with fail
        go_ret
        exact ⟨rfl, K.out.below⟩
end Go.Proofs.Ytfjngecgfmlnfaa
