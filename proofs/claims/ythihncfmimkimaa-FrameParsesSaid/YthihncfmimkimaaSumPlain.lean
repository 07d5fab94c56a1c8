/- Check sums as plain numbers: sums folded to sixteen bits. -/
import Derived.Test.YthihncfmimkimaaBase
import Derived.Laws.Bits64b
namespace Go.Proofs.Ythihncfmimkimaa
open Go.RowKit
set_option linter.unusedVariables false

/-- A sum folded to sixteen bits. -/
def fold16 (n : Nat) : Nat := if n = 0 then 0 else (n - 1) % 65535 + 1
theorem fold16_small {n : Nat} (h : n < 65536) : fold16 n = n := by unfold fold16; split <;> omega
theorem fold16_step {n : Nat} (h : 65536 ≤ n) : fold16 (n % 65536 + n / 65536) = fold16 n := by unfold fold16; split <;> split <;> omega
theorem fold16_lt (n : Nat) : fold16 n < 65536 := by unfold fold16; split <;> omega
theorem fold16_add {a b : Nat} (h : fold16 a = fold16 b) (c : Nat) : fold16 (a + c) = fold16 (b + c) := by
  unfold fold16 at *; repeat' split at h
  all_goals repeat' split
  all_goals omega
theorem fold16_idem (n : Nat) : fold16 (fold16 n) = fold16 n := fold16_small (fold16_lt n)

/-- The sum of bytes by their places: those at even ones count 256. -/
def wS (i : Nat) : List UInt8 → Nat
  | [] => 0
  | b :: l => (if i % 2 = 0 then 256 * b.toNat else b.toNat) + wS (i + 1) l
theorem wS_append (i : Nat) (x y : List UInt8) : wS i (x ++ y) = wS i x + wS (i + x.length) y := by
  induction x generalizing i with
  | nil => simp [wS]
  | cons b l ih =>
    simp only [List.cons_append, wS, List.length_cons, ih]
    rw [show i + 1 + l.length = i + (l.length + 1) by omega]
    omega
theorem wS_parity (i j : Nat) (l : List UInt8) (h : i % 2 = j % 2) : wS i l = wS j l := by
  induction l generalizing i j with
  | nil => rfl
  | cons b l ih => simp only [wS, h]; rw [ih (i + 1) (j + 1) (by omega)]
theorem wS_snoc (l : List UInt8) (b : UInt8) : wS 0 (l ++ [b]) = wS 0 l + (if l.length % 2 = 0 then 256 * b.toNat else b.toNat) := by
  rw [wS_append]; simp [wS]
theorem wS_le (i : Nat) (l : List UInt8) : wS i l ≤ 65280 * l.length := by
  induction l generalizing i with
  | nil => simp [wS]
  | cons b l ih =>
    have := ih (i + 1)
    have hb := b.toNat_lt
    simp only [wS, List.length_cons]
    split <;> omega
/-- The check sum. -/
def sumR (l : List UInt8) : Nat := 65535 - fold16 (wS 0 l)
theorem sumR_lt (l : List UInt8) : sumR l < 65536 := by unfold sumR; omega

/-- The sum of a text behind an odd number of bytes: 256 times, as far as fold16 tells. -/
theorem wS_odd (l : List UInt8) : (wS 1 l = 0 ↔ wS 0 l = 0) ∧ wS 1 l % 65535 = (256 * wS 0 l) % 65535 ∧ (wS 0 (0 :: l) = wS 1 l) := by
  have h : ∀ (i : Nat) (l : List UInt8), (wS (i + 1) l = 0 ↔ wS i l = 0) ∧ wS (i + 1) l % 65535 = (256 * wS i l) % 65535 := by
    intro i l
    induction l generalizing i with
    | nil => simp [wS]
    | cons b l ih =>
      obtain ⟨h1, h2⟩ := ih (i + 1)
      have hb := b.toNat_lt
      simp only [wS]
      by_cases hi : i % 2 = 0
      · rw [if_neg (by omega), if_pos hi]; omega
      · rw [if_pos (by omega), if_neg hi]; omega
  exact ⟨(h 0 l).1, (h 0 l).2, by simp [wS]⟩
/-- The two bytes of a number exchanged. -/
def swap16 (y : Nat) : Nat := y % 256 * 256 + y / 256
theorem fold16_mod (n : Nat) : fold16 n % 65535 = n % 65535 := by unfold fold16; split <;> omega
theorem fold16_zero (n : Nat) : fold16 n = 0 ↔ n = 0 := by unfold fold16; split <;> omega
theorem fold16_eq {a b : Nat} (h0 : a = 0 ↔ b = 0) (h : a % 65535 = b % 65535) (ha : a < 65536) (hb : b < 65536) : a = b := by omega
theorem swap_fold (n m : Nat) (h0 : m = 0 ↔ n = 0) (h : m % 65535 = (256 * n) % 65535) : swap16 (fold16 n) = fold16 m := by
  have hy := fold16_mod n
  have hy0 := fold16_zero n
  have hyl := fold16_lt n
  generalize fold16 n = y at *
  have h1 : swap16 y + 65535 * (y / 256) = 256 * y := by unfold swap16; omega
  have h2 : (256 * n) % 65535 = (256 * y) % 65535 := by rw [Nat.mul_mod, ← hy, ← Nat.mul_mod]
  have hz := fold16_mod m
  have hz0 := fold16_zero m
  have hzl := fold16_lt m
  generalize fold16 m = z at *
  have hs0 : swap16 y = 0 ↔ y = 0 := by unfold swap16; omega
  have hsl : swap16 y < 65536 := by unfold swap16; omega
  generalize swap16 y = s at *
  refine fold16_eq (by omega) ?_ hsl hzl
  rw [hz, h, h2, ← h1]
  omega
theorem fold16_both (a b : Nat) : fold16 (fold16 a + fold16 b) = fold16 (a + b) := by
  have h1 := fold16_mod a
  have h2 := fold16_mod b
  have h3 := fold16_zero a
  have h4 := fold16_zero b
  have h5 := fold16_mod (fold16 a + fold16 b)
  have h6 := fold16_mod (a + b)
  have h7 := fold16_zero (fold16 a + fold16 b)
  have h8 := fold16_zero (a + b)
  refine fold16_eq (by omega) ?_ (fold16_lt _) (fold16_lt _)
  rw [h5, h6]
  omega
end Go.Proofs.Ythihncfmimkimaa
