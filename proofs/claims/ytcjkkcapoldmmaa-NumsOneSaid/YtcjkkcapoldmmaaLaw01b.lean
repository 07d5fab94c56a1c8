/- The walk of NumsOne. -/
import Derived.Test.YtcjkkcapoldmmaaLaw01a
namespace Go.Proofs.Ytcjkkcapoldmmaa
open Go.RowKit
set_option linter.unusedVariables false

set_option maxRecDepth 100000 in
theorem NumsOne_walk (w : World) (a : Int) (wa : (Lit.int .i64 a).wf = true) (b : Int) (wb : (Lit.int .i64 b).wf = true) :
    Calls Try.prog 4 #[.int .i64 a, .int .i64 b] w fun x w' => x = .returned (.bool true) ∧ Below w.heap.size w w' := by
  clear wa wb
  by_cases h : 0 ≤ a ∧ a ≤ 65535 ∧ 0 ≤ b ∧ b ≤ 65535
  · obtain ⟨h1, h2, h3, h4⟩ := h
    have d1 : decide (a < 0) = false := by simp; omega
    have d2 : decide (65535 < a) = false := by simp; omega
    have d3 : decide (b < 0) = false := by simp; omega
    have d4 : decide (65535 < b) = false := by simp; omega
    obtain ⟨n, rfl⟩ := Int.eq_ofNat_of_zero_le h1
    obtain ⟨m, rfl⟩ := Int.eq_ofNat_of_zero_le h3
    have r1 : putR n 2 = (beL 2 n, 0) := by unfold putR; rw [if_pos ⟨by omega, by omega, by show (n : Int) < 65536; omega⟩]; rfl
    have r2 : putR m 2 = (beL 2 m, 0) := by unfold putR; rw [if_pos ⟨by omega, by omega, by show (m : Int) < 65536; omega⟩]; rfl
    have r3 : putR (65536 * n + m) 4 = (beL 2 n ++ beL 2 m, 0) := by
      unfold putR; rw [if_pos ⟨by omega, by omega, by show (65536 * (n : Int) + m) < 4294967296; omega⟩]
      show (beL 4 (65536 * (n : Int) + m).toNat, (0 : Int)) = _
      rw [show (65536 * (n : Int) + m).toNat = 65536 * n + m by omega, beL4 n m (by omega) (by omega)]
    have H1 := Lib.hid (fun w => Put_any w n 2 (by omega) (by omega))
    have H2 := Lib.hid (fun w => Put_any w m 2 (by omega) (by omega))
    have H3 := Lib.hid (fun w => Put_any w (65536 * n + m) 4 (by omega) (by omega))
    rw [r1] at H1
    rw [r2] at H2
    rw [r3] at H3
    clear r1 r2 r3
    obtain ⟨x0, x1, hx, e0, e1⟩ : ∃ x0 x1 : UInt8, beL 2 n = [x0, x1] ∧ (x0.toNat : Int) = (n : Int) / 256 ∧ (x1.toNat : Int) = (n : Int) % 256 := by
      refine ⟨_, _, rfl, ?_, ?_⟩
      · rw [UInt8.toNat_ofNat']; show ((n / 256 ^ 1 % 256 : Nat) : Int) = _; omega
      · rw [UInt8.toNat_ofNat']; show ((n / 256 ^ 0 % 256 : Nat) : Int) = _; omega
    obtain ⟨y0, y1, hy⟩ : ∃ y0 y1 : UInt8, beL 2 m = [y0, y1] := ⟨_, _, rfl⟩
    rw [hx] at H1 H3
    rw [hy] at H2 H3
    clear hx hy
    go_enter Try.func4, Try.ntmps4
    go_wp2_with fail
    refine (H1.out _).mono ?_
    rintro e w1 ⟨rfl, g1⟩
    go_wp2_with fail
    refine (H2.out _).mono ?_
    rintro e w2 ⟨rfl, g2⟩
    go_wp2_with fail
    refine (H3.out _).mono ?_
    rintro e w3 ⟨rfl, g3⟩
    go_wp2_with fail
    refine (awake01 _).mono ?_
    rintro e w4 ⟨rfl, g4⟩
    go_wp2
    go_ret
    have h12 := g1.trans (g2.mono g1.size)
    have h13 := h12.trans (g3.mono h12.size)
    exact ⟨rfl, h13.trans (g4.mono h13.size)⟩
  · have hc : (∃ x : Unit, decide (a < 0) = true) ∨ (∃ x : Unit, decide (a < 0) = false ∧ decide (65535 < a) = true) ∨ (∃ x : Unit, decide (a < 0) = false ∧ decide (65535 < a) = false ∧ decide (b < 0) = true) ∨
        (∃ x : Unit, decide (a < 0) = false ∧ decide (65535 < a) = false ∧ decide (b < 0) = false ∧ decide (65535 < b) = true) := by
      by_cases h1 : a < 0
      · exact .inl ⟨(), by simpa using h1⟩
      by_cases h2 : 65535 < a
      · exact .inr (.inl ⟨(), by simpa using h1, by simpa using h2⟩)
      by_cases h3 : b < 0
      · exact .inr (.inr (.inl ⟨(), by simpa using h1, by simpa using h2, by simpa using h3⟩))
      exact .inr (.inr (.inr ⟨(), by simpa using h1, by simpa using h2, by simpa using h3, by simp; omega⟩))
    clear h
    rcases hc with ⟨_, h1⟩ | ⟨_, h1, h2⟩ | ⟨_, h1, h2, h3⟩ | ⟨_, h1, h2, h3, h4⟩
    all_goals
      go_enter Try.func4, Try.ntmps4
      go_wp2_with fail
      refine (awake01 _).mono ?_
      rintro e w4 ⟨rfl, g4⟩
      go_wp2
      go_ret
      exact ⟨rfl, g4⟩
end Go.Proofs.Ytcjkkcapoldmmaa
