/- The walks of the reference's bucket: the same answers as the program's. -/
import Derived.Test.YtnemolbppebmkaaLaw09a
namespace Go.Proofs.Ytnemolbppebmkaa
open Go.RowKit
set_option linter.unusedVariables false

def RmAt (w : World) (g : Nat) (rate burst left : Nat) : Prop := BlkAt w g 38 #[.int .i64 rate, .int .i64 burst, .int .i64 left]

theorem rNew_yes (w : World) (r b : Nat) (hr : r ≤ 4294967295) (hb : b ≤ 4294967295) :
    Calls Try.prog 10 #[.int .i64 r, .int .i64 b] w fun x w' => ∃ g, x = .returned (.tuple #[.pointer (some ⟨g, 0, none⟩), .int .i64 0]) ∧ w.heap.size ≤ g ∧ RmAt w' g r b b ∧ Below w.heap.size w w' := by
  have t1 : decide ((r : Int) < 0) = false := by simp
  have t2 : decide (4294967295 < (r : Int)) = false := by simp; omega
  have t3 : decide ((b : Int) < 0) = false := by simp
  have t4 : decide (4294967295 < (b : Int)) = false := by simp; omega
  go_enter Try.func10, Try.ntmps10
  go_wp2
  go_ret2
  exact ⟨_, rfl, Nat.le_refl _, BlkAt.new _ _ _, (Below.refl _ _).alloc (Nat.le_refl _) _⟩

theorem rNew_no (w : World) (r b : Int) (h : ¬ newOk r b) :
    Calls Try.prog 10 #[.int .i64 r, .int .i64 b] w fun x w' => x = .returned (.tuple #[.pointer none, .int .i64 1]) ∧ w = w' := by
  have hc : (∃ x : Unit, decide (r < 0) = true) ∨ (∃ x : Unit, decide (r < 0) = false ∧ decide (4294967295 < r) = true) ∨ (∃ x : Unit, decide (r < 0) = false ∧ decide (4294967295 < r) = false ∧ decide (b < 0) = true) ∨
      (∃ x : Unit, decide (r < 0) = false ∧ decide (4294967295 < r) = false ∧ decide (b < 0) = false ∧ decide (4294967295 < b) = true) := by
    unfold newOk at h
    by_cases h1 : r < 0
    · exact .inl ⟨(), by simpa using h1⟩
    by_cases h2 : 4294967295 < r
    · exact .inr (.inl ⟨(), by simpa using h1, by simpa using h2⟩)
    by_cases h3 : b < 0
    · exact .inr (.inr (.inl ⟨(), by simpa using h1, by simpa using h2, by simpa using h3⟩))
    exact .inr (.inr (.inr ⟨(), by simpa using h1, by simpa using h2, by simpa using h3, by simp; omega⟩))
  clear h
  rcases hc with ⟨_, h1⟩ | ⟨_, h1, h2⟩ | ⟨_, h1, h2, h3⟩ | ⟨_, h1, h2, h3, h4⟩
  all_goals
    go_enter Try.func10, Try.ntmps10
    go_wp2
    go_ret2
    exact ⟨rfl, rfl⟩

theorem rTake_any (w : World) (g r b l : Nat) (n : Int) (h : RmAt w g r b l) (hl : l ≤ 4294967295) (hn : n ≤ 9223372036854775807) :
    Calls Try.prog 15 #[.pointer (some ⟨g, 0, none⟩), .int .i64 n] w fun x w' => x = .returned (.tuple #[.bool (takeOk l n), .int .i64 (takeE n)]) ∧ RmAt w' g r b (takeM l n) ∧ Bar g w w' := by
  have hc2 := h.cell 2 (.int .i64 l) rfl
  have hf2 := h.frozen 2
  have H := Lib.hid h
  clear h
  by_cases h0 : n < 0
  · have e1 : takeOk l n = false := by unfold takeOk; simp; omega
    have e2 : takeM l n = l := by unfold takeM; rw [e1]; rfl
    have e3 : takeE n = 1 := by unfold takeE; rw [if_pos h0]
    rw [e1, e2, e3]
    have t1 : decide (n < 0) = true := by simpa using h0
    clear e1 e2 e3 h0
    go_enter Try.func15, Try.ntmps15
    go_wp2
    go_ret2
    exact ⟨rfl, H.out, Bar.refl _ _⟩
  · have e3 : takeE n = 0 := by unfold takeE; rw [if_neg h0]
    rw [e3]
    obtain ⟨m, rfl⟩ := Int.eq_ofNat_of_zero_le (show 0 ≤ n by omega)
    by_cases hm : m ≤ l
    · have e1 : takeOk l m = true := by unfold takeOk; simp; omega
      have e2 : takeM l m = l - m := by unfold takeM; rw [e1]; simp
      rw [e1, e2]
      obtain ⟨k, rfl⟩ : ∃ k, l = m + k := ⟨l - m, by omega⟩
      rw [Nat.add_sub_cancel_left]
      clear e1 e2 h0 e3 hm
      go_enter Try.func15, Try.ntmps15
      go_wp2
      go_ret2
      refine ⟨rfl, ?_, (Bar.refl _ _).set 2 _⟩
      have := H.out.set 2 (.int .i64 ((m : Int) + k - m))
      rw [show ((m : Int) + k - m) = k by omega] at this ⊢
      exact this
    · have e1 : takeOk l m = false := by unfold takeOk; simp; omega
      have e2 : takeM l m = l := by unfold takeM; rw [e1]; rfl
      rw [e1, e2]
      have t1 : decide (l < m) = true := by simp; omega
      clear e1 e2 h0 e3
      go_enter Try.func15, Try.ntmps15
      go_wp2
      go_ret2
      exact ⟨rfl, H.out, Bar.refl _ _⟩

/-- How many ticks fill it, against how many there are. -/
theorem need_le (r b l m : Nat) (hr : 0 < r) (hl : l ≤ b) : ((b : Int) - l + r - 1) / r ≤ m ↔ b ≤ l + r * m := by
  rw [Int.ediv_le_iff_le_mul (by omega)]
  constructor
  · intro h
    have h2 : ((r * m : Nat) : Int) = m * r := by rw [Int.natCast_mul, Int.mul_comm]
    omega
  · intro h
    have h2 : ((r * m : Nat) : Int) = m * r := by rw [Int.natCast_mul, Int.mul_comm]
    omega

set_option maxHeartbeats 4000000 in
theorem rTick_any (w : World) (g r b l : Nat) (n : Int) (h : RmAt w g r b l) (hr : r ≤ 4294967295) (hb : b ≤ 4294967295) (hl : l ≤ b) (hn : n ≤ 9223372036854775807) :
    Calls Try.prog 13 #[.pointer (some ⟨g, 0, none⟩), .int .i64 n] w fun x w' => x = .returned (.int .i64 (tickE n)) ∧ RmAt w' g r b (tickM r b l n) ∧ Bar g w w' := by
  have hc0 := h.cell 0 (.int .i64 r) rfl
  have hc1 := h.cell 1 (.int .i64 b) rfl
  have hc2 := h.cell 2 (.int .i64 l) rfl
  have hf2 := h.frozen 2
  have H := Lib.hid h
  clear h
  by_cases h0 : n < 0
  · have e2 : tickM r b l n = l := by unfold tickM; rw [if_pos h0]
    have e3 : tickE n = 1 := by unfold tickE; rw [if_pos h0]
    rw [e2, e3]
    have t1 : decide (n < 0) = true := by simpa using h0
    clear e2 e3 h0
    go_enter Try.func13, Try.ntmps13
    go_wp2
    go_ret
    exact ⟨rfl, H.out, Bar.refl _ _⟩
  · have e3 : tickE n = 0 := by unfold tickE; rw [if_neg h0]
    obtain ⟨m, rfl⟩ := Int.eq_ofNat_of_zero_le (show 0 ≤ n by omega)
    have e2 : tickM r b l m = min b (l + r * m) := by unfold tickM; rw [if_neg h0]; rfl
    rw [e2, e3]
    by_cases hz : r = 0
    · subst hz
      have e4 : min b (l + 0 * m) = l := by simp; omega
      rw [e4]
      clear e2 e3 h0 e4
      go_enter Try.func13, Try.ntmps13
      go_wp2
      go_ret
      exact ⟨rfl, H.out, Bar.refl _ _⟩
    · have hr0 : ((r : Int) == 0) = false := by rw [beq_eq_false_iff_ne]; omega
      have hr1 : (1 : Int) ≤ r := by omega
      have hnl := need_le r b l m (by omega) hl
      by_cases hfull : b ≤ l + r * m
      · have t1 : decide (((b : Int) - l + r - 1) / r ≤ m) = true := by simpa using hnl.mpr hfull
        have e4 : min b (l + r * m) = b := by omega
        rw [e4]
        clear e2 e3 h0 hnl e4 hfull hz
        go_enter Try.func13, Try.ntmps13
        go_wp2_with fail
        go_quiet (fail)
        go_wp2
        go_ret
        exact ⟨rfl, (H.out.drewN nq).set 2 _, ((Bar.refl _ _).drewN _).set 2 _⟩
      · have t1 : decide (((b : Int) - l + r - 1) / r ≤ m) = false := by
          rw [decide_eq_false_iff_not]; exact fun h => hfull (hnl.mp h)
        have e4 : min b (l + r * m) = l + r * m := by omega
        rw [e4]
        have hmul : ((r * m : Nat) : Int) = (r : Int) * m := Int.natCast_mul _ _
        have p0 : 0 ≤ (r : Int) * m := by omega
        have p1 : (r : Int) * m ≤ 4294967295 := by omega
        have HM := Lib.hid hmul
        clear e2 e3 h0 hnl e4 hfull hz hmul
        go_enter Try.func13, Try.ntmps13
        go_wp2_with fail
        go_quiet (fail)
        go_wp2
        go_region
        all_goals go_wp2
        all_goals go_ret
        all_goals
          refine ⟨rfl, ?_, ((Bar.refl _ _).drewN _).set 2 _⟩
          have := (H.out.drewN (nq + 1)).set 2 (.int .i64 ((l : Int) + (r : Int) * m))
          have e5 : ((l : Int) + (r : Int) * m) = ((l + r * m : Nat) : Int) := by have := HM.out; omega
          rw [e5] at this ⊢
          exact this
end Go.Proofs.Ytnemolbppebmkaa
