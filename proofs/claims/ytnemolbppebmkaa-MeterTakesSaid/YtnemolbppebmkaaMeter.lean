/- The walks of package meter: each call's answer and what is left, as plain functions. -/
import Derived.Test.YtnemolbppebmkaaBase
import Derived.Shelf.Bits.Mul64
namespace Go.Proofs.Ytnemolbppebmkaa
open Go.RowKit
set_option linter.unusedVariables false

set_option maxHeartbeats 1000000 in
theorem mul64_any (x y : Nat) (hx : x < 18446744073709551616) (hy : y < 18446744073709551616) (w : World) :
    Calls Try.prog 17 #[.int .u64 x, .int .u64 y] w fun e w' => e = .returned (.tuple #[.int .u64 ((x * y / 18446744073709551616 : Nat) : Int), .int .u64 ((x * y % 18446744073709551616 : Nat) : Int)]) ∧ w = w' := by
  obtain ⟨bd, bt, bw, hhi⟩ := Lib.mul64_hi x y hx hy
  have ba := Lib.half_mul_le (a := x / 4294967296) (b := y / 4294967296) (by omega) (by omega)
  have bb := Lib.half_mul_le (a := x / 4294967296) (b := y % 4294967296) (by omega) (by omega)
  have bc := Lib.half_mul_le (a := x % 4294967296) (b := y / 4294967296) (by omega) (by omega)
  have ba' : x / 4294967296 * (y / 4294967296) < 18446744073709551616 := by omega
  have bb' : x / 4294967296 * (y % 4294967296) < 18446744073709551616 := by omega
  have bc' : x % 4294967296 * (y / 4294967296) < 18446744073709551616 := by omega
  have bh1 : x / 4294967296 * (y / 4294967296) + (x / 4294967296 * (y % 4294967296) + x % 4294967296 * (y % 4294967296) / 4294967296) / 4294967296 < 18446744073709551616 := by omega
  have bh : x / 4294967296 * (y / 4294967296) + (x / 4294967296 * (y % 4294967296) + x % 4294967296 * (y % 4294967296) / 4294967296) / 4294967296 + ((x / 4294967296 * (y % 4294967296) + x % 4294967296 * (y % 4294967296) / 4294967296) % 4294967296 + x % 4294967296 * (y / 4294967296)) / 4294967296 < 18446744073709551616 := by omega
  go_enter Try.func17, Try.ntmps17
  go_wp2
  simp only [Mul64.maskN x hx, Mul64.maskN y hy, Mul64.divN, Mul64.mulN, Mul64.addN, Mul64.wrapN _ bd, Mul64.wrapN _ bb', Mul64.wrapN _ bt, Mul64.maskN _ bt, Mul64.wrapN _ bc', Mul64.wrapN _ bw, Mul64.wrapN _ ba', Mul64.wrapN _ bh1, Mul64.wrapN _ bh, Mul64.wrapM (x * y)]
  rw [hhi]
  go_ret2
  exact ⟨rfl, rfl⟩

/-- A bucket in memory. -/
def MtAt (w : World) (g : Nat) (rate burst left : Nat) : Prop := BlkAt w g 47 #[.int .u64 rate, .int .u64 burst, .int .u64 left]
def newOk (rate burst : Int) : Prop := 0 ≤ rate ∧ rate ≤ 4294967295 ∧ 0 ≤ burst ∧ burst ≤ 4294967295
instance (rate burst : Int) : Decidable (newOk rate burst) := by unfold newOk; infer_instance
/-- What is left behind a Tick. -/
def tickM (rate burst left : Nat) (t : Int) : Nat := if t < 0 then left else min burst (left + rate * t.toNat)
def tickE (t : Int) : Int := if t < 0 then 1 else 0
def takeOk (left : Nat) (n : Int) : Bool := decide (0 ≤ n) && decide (n ≤ left)
def takeM (left : Nat) (n : Int) : Nat := if takeOk left n then left - n.toNat else left
def takeE (n : Int) : Int := if n < 0 then 1 else 0

theorem MtNew_yes (w : World) (r b : Nat) (hr : r ≤ 4294967295) (hb : b ≤ 4294967295) :
    Calls Try.prog 9 #[.int .i64 r, .int .i64 b] w fun x w' => ∃ g, x = .returned (.tuple #[.pointer (some ⟨g, 0, none⟩), .int .i64 0]) ∧ w.heap.size ≤ g ∧ MtAt w' g r b b ∧ Below w.heap.size w w' := by
  have t1 : decide ((r : Int) < 0) = false := by simp
  have t2 : decide (4294967295 < (r : Int)) = false := by simp; omega
  have t3 : decide ((b : Int) < 0) = false := by simp
  have t4 : decide (4294967295 < (b : Int)) = false := by simp; omega
  go_enter Try.func9, Try.ntmps9
  go_wp2
  go_ret2
  exact ⟨_, rfl, Nat.le_refl _, BlkAt.new _ _ _, (Below.refl _ _).alloc (Nat.le_refl _) _⟩

theorem MtNew_no (w : World) (r b : Int) (h : ¬ newOk r b) :
    Calls Try.prog 9 #[.int .i64 r, .int .i64 b] w fun x w' => x = .returned (.tuple #[.pointer none, .int .i64 1]) ∧ w = w' := by
  have hc : (∃ x : Unit, decide (r < 0) = true) ∨ (∃ x : Unit, decide (r < 0) = false ∧ decide (4294967295 < r) = true) ∨ (∃ x : Unit, decide (r < 0) = false ∧ decide (4294967295 < r) = false ∧ decide (b < 0) = true) ∨
      (∃ x : Unit, decide (r < 0) = false ∧ decide (4294967295 < r) = false ∧ decide (b < 0) = false ∧ decide (4294967295 < b) = true) := by
    unfold newOk at h
    by_cases h1 : r < 0
    · exact .inl ⟨(), by simpa using h1⟩
    by_cases h2 : 4294967295 < r
    · exact .inr (.inl ⟨(), by simpa using h1, by simpa using h2⟩)
    by_cases h3 : b < 0
    · exact .inr (.inr (.inl ⟨(), by simpa using h1, by simpa using h2, by simpa using h3⟩))
    exact .inr (.inr (.inr ⟨(), by simpa using h1, by simpa using h2, by simpa using h3, by simp; omega⟩))
  clear h
  rcases hc with ⟨_, h1⟩ | ⟨_, h1, h2⟩ | ⟨_, h1, h2, h3⟩ | ⟨_, h1, h2, h3, h4⟩
  all_goals
    go_enter Try.func9, Try.ntmps9
    go_wp2
    go_ret2
    exact ⟨rfl, rfl⟩

theorem MtLeft_any (w : World) (g r b l : Nat) (h : MtAt w g r b l) (hl : l ≤ 4294967295) :
    Calls Try.prog 16 #[.pointer (some ⟨g, 0, none⟩)] w fun x w' => x = .returned (.int .i64 l) ∧ w = w' := by
  have hc2 := h.cell 2 (.int .u64 l) rfl
  clear h
  go_enter Try.func16, Try.ntmps16
  go_wp2
  go_ret
  exact ⟨rfl, rfl⟩
theorem MtLeft_nil (w : World) :
    Calls Try.prog 16 #[.pointer none] w fun x w' => x = .returned (.int .i64 0) ∧ w = w' := by
  go_enter Try.func16, Try.ntmps16
  go_wp2
  go_ret
  exact ⟨rfl, rfl⟩

theorem MtTake_any (w : World) (g r b l : Nat) (n : Int) (h : MtAt w g r b l) (hl : l ≤ 4294967295) (hn : n ≤ 9223372036854775807) :
    Calls Try.prog 14 #[.pointer (some ⟨g, 0, none⟩), .int .i64 n] w fun x w' => x = .returned (.tuple #[.bool (takeOk l n), .int .i64 (takeE n)]) ∧ MtAt w' g r b (takeM l n) ∧ Bar g w w' := by
  have hc2 := h.cell 2 (.int .u64 l) rfl
  have hf2 := h.frozen 2
  have H := Lib.hid h
  clear h
  by_cases h0 : n < 0
  · have e1 : takeOk l n = false := by unfold takeOk; simp; omega
    have e2 : takeM l n = l := by unfold takeM; rw [e1]; rfl
    have e3 : takeE n = 1 := by unfold takeE; rw [if_pos h0]
    rw [e1, e2, e3]
    have t1 : decide (n < 0) = true := by simpa using h0
    clear e1 e2 e3 h0
    go_enter Try.func14, Try.ntmps14
    go_wp2
    go_ret2
    exact ⟨rfl, H.out, Bar.refl _ _⟩
  · have e3 : takeE n = 0 := by unfold takeE; rw [if_neg h0]
    rw [e3]
    obtain ⟨m, rfl⟩ := Int.eq_ofNat_of_zero_le (show 0 ≤ n by omega)
    by_cases hm : m ≤ l
    · have e1 : takeOk l m = true := by unfold takeOk; simp; omega
      have e2 : takeM l m = l - m := by unfold takeM; rw [e1]; simp
      rw [e1, e2]
      obtain ⟨k, rfl⟩ : ∃ k, l = m + k := ⟨l - m, by omega⟩
      rw [Nat.add_sub_cancel_left]
      clear e1 e2 h0 e3 hm
      go_enter Try.func14, Try.ntmps14
      go_wp2
      go_ret2
      refine ⟨rfl, ?_, (Bar.refl _ _).set 2 _⟩
      have := H.out.set 2 (.int .u64 ((m : Int) + k - m))
      rw [show ((m : Int) + k - m) = k by omega] at this ⊢
      exact this
    · have e1 : takeOk l m = false := by unfold takeOk; simp; omega
      have e2 : takeM l m = l := by unfold takeM; rw [e1]; rfl
      rw [e1, e2]
      clear e1 e2 h0 e3
      go_enter Try.func14, Try.ntmps14
      go_wp2
      go_ret2
      exact ⟨rfl, H.out, Bar.refl _ _⟩
theorem MtTake_nil (w : World) (n : Int) :
    Calls Try.prog 14 #[.pointer none, .int .i64 n] w fun x w' => x = .returned (.tuple #[.bool false, .int .i64 2]) ∧ w = w' := by
  go_enter Try.func14, Try.ntmps14
  go_wp2
  go_ret2
  exact ⟨rfl, rfl⟩
theorem MtTick_nil (w : World) (n : Int) :
    Calls Try.prog 12 #[.pointer none, .int .i64 n] w fun x w' => x = .returned (.int .i64 2) ∧ w = w' := by
  go_enter Try.func12, Try.ntmps12
  go_wp2
  go_ret
  exact ⟨rfl, rfl⟩

set_option maxHeartbeats 2000000 in
theorem MtTick_any (w : World) (g r b l : Nat) (n : Int) (h : MtAt w g r b l) (hr : r ≤ 4294967295) (hb : b ≤ 4294967295) (hl : l ≤ b) (hn : n ≤ 9223372036854775807) :
    Calls Try.prog 12 #[.pointer (some ⟨g, 0, none⟩), .int .i64 n] w fun x w' => x = .returned (.int .i64 (tickE n)) ∧ MtAt w' g r b (tickM r b l n) ∧ Bar g w w' := by
  have hc0 := h.cell 0 (.int .u64 r) rfl
  have hc1 := h.cell 1 (.int .u64 b) rfl
  have hc2 := h.cell 2 (.int .u64 l) rfl
  have hf2 := h.frozen 2
  have H := Lib.hid h
  clear h
  by_cases h0 : n < 0
  · have e2 : tickM r b l n = l := by unfold tickM; rw [if_pos h0]
    have e3 : tickE n = 1 := by unfold tickE; rw [if_pos h0]
    rw [e2, e3]
    have t1 : decide (n < 0) = true := by simpa using h0
    clear e2 e3 h0
    go_enter Try.func12, Try.ntmps12
    go_wp2
    go_ret
    exact ⟨rfl, H.out, Bar.refl _ _⟩
  · have e3 : tickE n = 0 := by unfold tickE; rw [if_neg h0]
    obtain ⟨m, rfl⟩ := Int.eq_ofNat_of_zero_le (show 0 ≤ n by omega)
    have e2 : tickM r b l m = min b (l + r * m) := by unfold tickM; rw [if_neg h0]; rfl
    rw [e2, e3]
    have hM := Lib.hid (fun w => mul64_any r m (by omega) (by omega) w)
    have hp := Nat.div_add_mod (r * m) 18446744073709551616
    have hp2 := Nat.mod_lt (r * m) (show 0 < 18446744073709551616 by decide)
    have hpm := Lib.hid (And.intro hp hp2)
    clear hp hp2 e2 e3 h0
    obtain ⟨hi, hhi⟩ : ∃ hi, hi = r * m / 18446744073709551616 := ⟨_, rfl⟩
    obtain ⟨lo, hlo⟩ : ∃ lo, lo = r * m % 18446744073709551616 := ⟨_, rfl⟩
    obtain ⟨p, hpp⟩ : ∃ p, p = r * m := ⟨_, rfl⟩
    rw [← hhi, ← hlo] at hM hpm
    rw [← hpp] at hpm ⊢
    have hrm := Lib.hid hpp
    clear hhi hlo hpp
    have hcase : (∃ x : Unit, decide (0 < hi) = true ∧ min b (l + p) = b) ∨ (∃ x : Unit, hi = 0 ∧ decide ((b : Int) - l < lo) = true ∧ min b (l + p) = b) ∨
        (∃ x : Unit, hi = 0 ∧ decide ((b : Int) - l < lo) = false ∧ min b (l + p) = l + lo ∧ l + lo ≤ b) := by
      obtain ⟨h5, h6⟩ := hpm.out
      by_cases h1 : 0 < hi
      · exact .inl ⟨(), by simpa using h1, by omega⟩
      · by_cases h2 : b < l + lo
        · exact .inr (.inl ⟨(), by omega, by simp; omega, by omega⟩)
        · exact .inr (.inr ⟨(), by omega, by simp; omega, by omega, by omega⟩)
    clear hpm hrm
    rcases hcase with ⟨_, t1, t2⟩ | ⟨_, rfl, t2, t3⟩ | ⟨_, rfl, t2, t3, t4⟩
    · rw [t2]
      clear t2
      go_enter Try.func12, Try.ntmps12
      go_wp2_with fail
      refine (hM.out _).mono ?_
      rintro e w1 ⟨rfl, rfl⟩
      go_wp2_with fail
      go_quiet (fail)
      go_wp2
      go_ret
      refine ⟨rfl, ?_, ((Bar.refl _ _).drewN _).set 2 _⟩
      have := (H.out.drewN nq).set 2 (.int .u64 ((l : Int) + (b - l)))
      rw [show ((l : Int) + (b - l)) = b by omega] at this ⊢
      exact this
    · rw [t3]
      clear t3
      go_enter Try.func12, Try.ntmps12
      go_wp2_with fail
      refine (hM.out _).mono ?_
      rintro e w1 ⟨rfl, rfl⟩
      go_wp2_with fail
      go_quiet (fail)
      go_wp2
      go_ret
      refine ⟨rfl, ?_, ((Bar.refl _ _).drewN _).set 2 _⟩
      have := (H.out.drewN nq).set 2 (.int .u64 ((l : Int) + (b - l)))
      rw [show ((l : Int) + (b - l)) = b by omega] at this ⊢
      exact this
    · rw [t3]
      clear t3
      go_enter Try.func12, Try.ntmps12
      go_wp2_with fail
      refine (hM.out _).mono ?_
      rintro e w1 ⟨rfl, rfl⟩
      go_wp2_with fail
      go_quiet (fail)
      go_wp2
      go_ret
      exact ⟨rfl, (H.out.drewN nq).set 2 _, ((Bar.refl _ _).drewN _).set 2 _⟩
end Go.Proofs.Ytnemolbppebmkaa
