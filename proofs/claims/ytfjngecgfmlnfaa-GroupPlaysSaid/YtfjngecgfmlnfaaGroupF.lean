/- Is a bucket alive? -/
import Derived.Test.YtfjngecgfmlnfaaGroupE
namespace Go.Proofs.Ytfjngecgfmlnfaa
open Go.RowKit
set_option linter.unusedVariables false
set_option linter.unusedSimpArgs false

def encBo (b : Bool) : List Value := [.bool b]
theorem encBo_len (b : Bool) : (encBo b).length = 1 := rfl
def aliveF (x : Int) (live : List Bool) : Bool := decide (x = 0) || (decide (0 < x) && decide (x < live.length) && live.getD x.toNat false)

set_option maxRecDepth 100000 in
set_option maxHeartbeats 4000000 in
theorem alive_any (w : World) (x y : Int) (v lv : Value) (live : List Bool) (hv : v.oneCell' = true) (h : ReadL w 1 encBo lv live) :
    Calls Try.prog 31 #[.agg #[.int .i64 x, .int .i64 y, v], lv] w fun e w' => e = .returned (.bool (aliveF x live)) ∧ Below w.heap.size w w' := by
  obtain ⟨a, cap, rfl, hcap, hmax, hc⟩ := h
  unfold maxLen at hmax
  have HC := Lib.hid hc
  have HF : Hid (aliveF x live = (decide (x = 0) || (decide (0 < x) && decide (x < live.length) && live.getD x.toNat false))) := Lib.hid rfl
  generalize aliveF x live = R at *
  clear hc
  go_enter Try.func31, Try.ntmps31
  go_upto_region 1 with fail
  refine one_box_wp ?_
  intro W hb1 hbel hsz
  have K : Hid (KR w.heap.size w [(w.heap.size, 30, #[.int .i64 x, .int .i64 y, v])] W) := Lib.hid ((KR.start hbel hbel.size).add hb1)
  clear hb1 hbel hsz
  have c0 := (K.out.at 0 rfl).cell 0 _ rfl
  by_cases h0 : x = 0
  · subst h0
    have e : R = true := by rw [HF.out]; simp
    subst e
    go_wp2_with fail
    go_ret
    exact ⟨rfl, K.out.below⟩
  · have b0 : (x == 0) = false := by simpa using h0
    by_cases h1 : 0 < x
    · have d1 : decide (0 < x) = true := decide_eq_true h1
      by_cases h2 : x < live.length
      · obtain ⟨k, rfl⟩ : ∃ k : Nat, x = k := ⟨x.toNat, by omega⟩
        have hk : k < live.length := by omega
        have d2 : decide (k < live.length) = true := decide_eq_true hk
        have e : R = live[k] := by rw [HF.out, decide_eq_false h0, decide_eq_true h1, decide_eq_true h2]; simp [hk]
        subst e
        rcases HC.out with hnil | ⟨b, off, rfl, hblt, hcell⟩
        · rw [hnil] at hk; simp at hk
        have c3 := (K.out.below.cell (p := ⟨b, off + k, none⟩) hblt).trans (by simpa using hcell k 0 _ hk rfl)
        clear hcell HC
        go_wp2_with fail
        go_ret
        exact ⟨rfl, K.out.below⟩
      · have d2 : decide (x < (live.length : Int)) = false := decide_eq_false h2
        have e : R = false := by rw [HF.out]; simp [h0, h2]
        subst e
        go_wp2_with fail
        go_ret
        exact ⟨rfl, K.out.below⟩
    · have d1 : decide (0 < x) = false := decide_eq_false h1
      have e : R = false := by rw [HF.out]; simp [h0, h1]
      subst e
      go_wp2_with fail
      go_ret
      exact ⟨rfl, K.out.below⟩

set_option maxRecDepth 100000 in
set_option maxHeartbeats 4000000 in
theorem ralive_any (w : World) (x y : Int) (v lv : Value) (live : List Bool) (hv : v.oneCell' = true) (h : ReadL w 1 encBo lv live) :
    Calls Try.prog 34 #[.agg #[.int .i64 x, .int .i64 y, v], lv] w fun e w' => e = .returned (.bool (aliveF x live)) ∧ Below w.heap.size w w' := by
  obtain ⟨a, cap, rfl, hcap, hmax, hc⟩ := h
  unfold maxLen at hmax
  have HC := Lib.hid hc
  have HF : Hid (aliveF x live = (decide (x = 0) || (decide (0 < x) && decide (x < live.length) && live.getD x.toNat false))) := Lib.hid rfl
  generalize aliveF x live = R at *
  clear hc
  go_enter Try.func34, Try.ntmps34
  go_upto_region 1 with fail
  refine one_box_wp ?_
  intro W hb1 hbel hsz
  have K : Hid (KR w.heap.size w [(w.heap.size, 30, #[.int .i64 x, .int .i64 y, v])] W) := Lib.hid ((KR.start hbel hbel.size).add hb1)
  clear hb1 hbel hsz
  have c0 := (K.out.at 0 rfl).cell 0 _ rfl
  by_cases h0 : x = 0
  · subst h0
    have e : R = true := by rw [HF.out]; simp
    subst e
    go_wp2_with fail
    go_ret
    exact ⟨rfl, K.out.below⟩
  · have b0 : (x == 0) = false := by simpa using h0
    by_cases h1 : 0 < x
    · have d1 : decide (0 < x) = true := decide_eq_true h1
      by_cases h2 : x < live.length
      · obtain ⟨k, rfl⟩ : ∃ k : Nat, x = k := ⟨x.toNat, by omega⟩
        have hk : k < live.length := by omega
        have d2 : decide (k < live.length) = true := decide_eq_true hk
        have e : R = live[k] := by rw [HF.out, decide_eq_false h0, decide_eq_true h1, decide_eq_true h2]; simp [hk]
        subst e
        rcases HC.out with hnil | ⟨b, off, rfl, hblt, hcell⟩
        · rw [hnil] at hk; simp at hk
        have c3 := (K.out.below.cell (p := ⟨b, off + k, none⟩) hblt).trans (by simpa using hcell k 0 _ hk rfl)
        clear hcell HC
        go_wp2_with fail
        go_ret
        exact ⟨rfl, K.out.below⟩
      · have d2 : decide (x < (live.length : Int)) = false := decide_eq_false h2
        have e : R = false := by rw [HF.out]; simp [h0, h2]
        subst e
        go_wp2_with fail
        go_ret
        exact ⟨rfl, K.out.below⟩
    · have d1 : decide (0 < x) = false := decide_eq_false h1
      have e : R = false := by rw [HF.out]; simp [h0, h1]
      subst e
      go_wp2_with fail
      go_ret
      exact ⟨rfl, K.out.below⟩

end Go.Proofs.Ytfjngecgfmlnfaa
