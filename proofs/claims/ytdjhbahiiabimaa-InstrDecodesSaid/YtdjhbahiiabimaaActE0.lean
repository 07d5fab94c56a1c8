/- What bytes seem to be: act.named (printed by gen/acte.py). -/
import Derived.Test.YtdjhbahiiabimaaActD
import Derived.Test.YtdjhbahiiabimaaRdK
namespace Go.Proofs.Ytdjhbahiiabimaa
open Go.RowKit
set_option linter.unusedVariables false
set_option linter.unusedSimpArgs false

def namedA (c : Int) : Int := if c = 12 then 3 else if c = 22 then 5 else if c = 24 then 6 else if c = 26 then 8 else if c = 28 then 9 else 0
/-- None of the fields ahead of f has the code. -/
def NotYet (f c : Int) : Prop := (3 < f → c ≠ 12) ∧ (5 < f → c ≠ 22) ∧ (6 < f → c ≠ 24) ∧ (8 < f → c ≠ 26) ∧ (9 < f → c ≠ 28)
set_option maxRecDepth 100000 in
set_option maxHeartbeats 8000000 in
theorem named_any (w : World) (c : Int) : Calls Try.prog 62 #[.int .u64 c] w fun x w' => x = .returned (.int .i64 (namedA c)) ∧ w = w' := by
  have HR : Hid (namedA c = _) := Lib.hid (by unfold namedA; rfl)
  generalize namedA c = R at *
  go_enter Try.func62, Try.ntmps62
  go_wp2_with fail
  go_loopw [3] (fun fv wr => ∃ f : Int, 3 ≤ f ∧ f ≤ 10 ∧ fv = .int .i64 f ∧ Hid (NotYet f c) ∧ w = wr) (fun fv _ => (10 - intOf fv).toNat)
  case atStart => exact ⟨3, by omega, by omega, rfl, Lib.hid ⟨fun h => by omega, fun h => by omega, fun h => by omega, fun h => by omega, fun h => by omega⟩, rfl⟩
  case round =>
    obtain ⟨f, hf1, hf2, rfl, HN, rfl⟩ := hrel
    rcases (by omega : f = 3 ∨ f = 4 ∨ f = 5 ∨ f = 6 ∨ f = 7 ∨ f = 8 ∨ f = 9 ∨ f = 10) with rfl | rfl | rfl | rfl | rfl | rfl | rfl | rfl
    · have HC : Hid (∀ W : World, Calls Try.prog 48 #[.int .i64 3] W fun x w' => x = .returned (.tuple #[.int .u64 6, .int .i64 2]) ∧ W = w') := Lib.hid (fun W => code_any W 3)
      go_wp2_with fail
      refine (HC.out _).mono ?_
      rintro e w' ⟨rfl, hw⟩
      subst hw
      clear HC
      have q1 : IntKind.u64.wrap (2 * 6) = 12 := by decide
      have q2 : IntKind.u64.wrap 12 = 12 := by decide
      by_cases hc : c = 12
      · subst hc
        have HRf : Hid (R = 3) := Lib.hid (by rw [HR.out]; rfl)
        clear HR
        go_wp2_with fail
        go_ret
        exact ⟨by rw [HRf.out]; rfl, rfl⟩
      · have t1 : (12 == c) = false := by simp; omega
        have t2 : (c == 12) = false := by simp; omega
        go_wp2_with fail
        go_roundw
        case rel => exact ⟨4, by omega, by omega, rfl, Lib.hid (by have := HN.out; unfold NotYet at *; omega), by first | trivial | rfl⟩
        case measure => simp [intOf]
    · have HC : Hid (∀ W : World, Calls Try.prog 48 #[.int .i64 4] W fun x w' => x = .returned (.tuple #[.int .u64 0, .int .i64 0]) ∧ W = w') := Lib.hid (fun W => code_any W 4)
      go_wp2_with fail
      refine (HC.out _).mono ?_
      rintro e w' ⟨rfl, hw⟩
      subst hw
      clear HC
      go_wp2_with fail
      go_roundw
      case rel => exact ⟨5, by omega, by omega, rfl, Lib.hid (by have := HN.out; unfold NotYet at *; omega), by first | trivial | rfl⟩
      case measure => simp [intOf]
    · have HC : Hid (∀ W : World, Calls Try.prog 48 #[.int .i64 5] W fun x w' => x = .returned (.tuple #[.int .u64 11, .int .i64 4]) ∧ W = w') := Lib.hid (fun W => code_any W 5)
      go_wp2_with fail
      refine (HC.out _).mono ?_
      rintro e w' ⟨rfl, hw⟩
      subst hw
      clear HC
      have q1 : IntKind.u64.wrap (2 * 11) = 22 := by decide
      have q2 : IntKind.u64.wrap 22 = 22 := by decide
      by_cases hc : c = 22
      · subst hc
        have HRf : Hid (R = 5) := Lib.hid (by rw [HR.out]; rfl)
        clear HR
        go_wp2_with fail
        go_ret
        exact ⟨by rw [HRf.out]; rfl, rfl⟩
      · have t1 : (22 == c) = false := by simp; omega
        have t2 : (c == 22) = false := by simp; omega
        go_wp2_with fail
        go_roundw
        case rel => exact ⟨6, by omega, by omega, rfl, Lib.hid (by have := HN.out; unfold NotYet at *; omega), by first | trivial | rfl⟩
        case measure => simp [intOf]
    · have HC : Hid (∀ W : World, Calls Try.prog 48 #[.int .i64 6] W fun x w' => x = .returned (.tuple #[.int .u64 12, .int .i64 4]) ∧ W = w') := Lib.hid (fun W => code_any W 6)
      go_wp2_with fail
      refine (HC.out _).mono ?_
      rintro e w' ⟨rfl, hw⟩
      subst hw
      clear HC
      have q1 : IntKind.u64.wrap (2 * 12) = 24 := by decide
      have q2 : IntKind.u64.wrap 24 = 24 := by decide
      by_cases hc : c = 24
      · subst hc
        have HRf : Hid (R = 6) := Lib.hid (by rw [HR.out]; rfl)
        clear HR
        go_wp2_with fail
        go_ret
        exact ⟨by rw [HRf.out]; rfl, rfl⟩
      · have t1 : (24 == c) = false := by simp; omega
        have t2 : (c == 24) = false := by simp; omega
        go_wp2_with fail
        go_roundw
        case rel => exact ⟨7, by omega, by omega, rfl, Lib.hid (by have := HN.out; unfold NotYet at *; omega), by first | trivial | rfl⟩
        case measure => simp [intOf]
    · have HC : Hid (∀ W : World, Calls Try.prog 48 #[.int .i64 7] W fun x w' => x = .returned (.tuple #[.int .u64 0, .int .i64 0]) ∧ W = w') := Lib.hid (fun W => code_any W 7)
      go_wp2_with fail
      refine (HC.out _).mono ?_
      rintro e w' ⟨rfl, hw⟩
      subst hw
      clear HC
      go_wp2_with fail
      go_roundw
      case rel => exact ⟨8, by omega, by omega, rfl, Lib.hid (by have := HN.out; unfold NotYet at *; omega), by first | trivial | rfl⟩
      case measure => simp [intOf]
    · have HC : Hid (∀ W : World, Calls Try.prog 48 #[.int .i64 8] W fun x w' => x = .returned (.tuple #[.int .u64 13, .int .i64 2]) ∧ W = w') := Lib.hid (fun W => code_any W 8)
      go_wp2_with fail
      refine (HC.out _).mono ?_
      rintro e w' ⟨rfl, hw⟩
      subst hw
      clear HC
      have q1 : IntKind.u64.wrap (2 * 13) = 26 := by decide
      have q2 : IntKind.u64.wrap 26 = 26 := by decide
      by_cases hc : c = 26
      · subst hc
        have HRf : Hid (R = 8) := Lib.hid (by rw [HR.out]; rfl)
        clear HR
        go_wp2_with fail
        go_ret
        exact ⟨by rw [HRf.out]; rfl, rfl⟩
      · have t1 : (26 == c) = false := by simp; omega
        have t2 : (c == 26) = false := by simp; omega
        go_wp2_with fail
        go_roundw
        case rel => exact ⟨9, by omega, by omega, rfl, Lib.hid (by have := HN.out; unfold NotYet at *; omega), by first | trivial | rfl⟩
        case measure => simp [intOf]
    · have HC : Hid (∀ W : World, Calls Try.prog 48 #[.int .i64 9] W fun x w' => x = .returned (.tuple #[.int .u64 14, .int .i64 2]) ∧ W = w') := Lib.hid (fun W => code_any W 9)
      go_wp2_with fail
      refine (HC.out _).mono ?_
      rintro e w' ⟨rfl, hw⟩
      subst hw
      clear HC
      have q1 : IntKind.u64.wrap (2 * 14) = 28 := by decide
      have q2 : IntKind.u64.wrap 28 = 28 := by decide
      by_cases hc : c = 28
      · subst hc
        have HRf : Hid (R = 9) := Lib.hid (by rw [HR.out]; rfl)
        clear HR
        go_wp2_with fail
        go_ret
        exact ⟨by rw [HRf.out]; rfl, rfl⟩
      · have t1 : (28 == c) = false := by simp; omega
        have t2 : (c == 28) = false := by simp; omega
        go_wp2_with fail
        go_roundw
        case rel => exact ⟨10, by omega, by omega, rfl, Lib.hid (by have := HN.out; unfold NotYet at *; omega), by first | trivial | rfl⟩
        case measure => simp [intOf]
    · have HRf : Hid (R = 0) := Lib.hid (by
        obtain ⟨h1, h2, h3, h4, h5⟩ := HN.out
        rw [HR.out, if_neg (h1 (by decide)), if_neg (h2 (by decide)), if_neg (h3 (by decide)), if_neg (h4 (by decide)), if_neg (h5 (by decide))])
      clear HR
      go_wp2_with fail
      go_ret
      exact ⟨by rw [HRf.out]; rfl, rfl⟩

end Go.Proofs.Ytdjhbahiiabimaa
