/- Numbers read back from bytes; a reader's takes, told over lists. -/
import Derived.Test.YtdjhbahiiabimaaPlain
import Derived.Test.YtdjhbahiiabimaaReaderNum
namespace Go.Proofs.Ytdjhbahiiabimaa
open Go.RowKit
set_option linter.unusedVariables false

/-- The number of bytes. -/
def numN (l : List UInt8) : Nat := l.foldl (fun n b => n * 256 + b.toNat) 0
theorem numN_snoc (l : List UInt8) (b : UInt8) : numN (l ++ [b]) = numN l * 256 + b.toNat := by simp [numN]
theorem numN_lt (l : List UInt8) : numN l < 256 ^ l.length := by
  induction l using snoc_ind with
  | h0 => simp [numN]
  | h1 l b ih =>
    rw [numN_snoc, List.length_append, List.length_singleton, Nat.pow_succ]
    have := b.toNat_lt
    omega
theorem or_byte (a b : Nat) (hb : b < 256) : (a * 256) ||| b = a * 256 + b := by
  have := Nat.two_pow_add_eq_or_of_lt (i := 8) (b := b) hb a
  rw [Nat.mul_comm] at this
  exact this.symm
theorem numG_eq (l : List UInt8) (h : l.length ≤ 8) : numG l = (numN l : Int) := by
  induction l using snoc_ind with
  | h0 => rfl
  | h1 l b ih =>
    rw [List.length_append, List.length_singleton] at h
    rw [numG_snoc, ih (by omega), numN_snoc]
    have hl := numN_lt l
    have hp : 256 ^ l.length ≤ 256 ^ 7 := Nat.pow_le_pow_right (by decide) (by omega)
    have hb := b.toNat_lt
    have e1 : IntKind.u64.wrap ((numN l : Int) * 256) = ((numN l * 256 : Nat) : Int) := by
      have : IntKind.u64.wrap ((numN l : Int) * 256) = ((numN l : Int) * 256) % 18446744073709551616 := by simp [IntKind.wrap, IntKind.bits, IntKind.signed]
      rw [this, Int.emod_eq_of_lt (by omega) (by omega)]
      simp
    rw [e1, u64_or_nat _ _ (by omega) (by omega), or_byte _ _ hb]
theorem beL_succ (s n : Nat) : beL (s + 1) n = beL s (n / 256) ++ [UInt8.ofNat n] := by
  induction s generalizing n with
  | zero => simp [beL]
  | succ s ih =>
    rw [beL, ih, beL, List.cons_append]
    congr 1
    rw [Nat.pow_succ, Nat.mul_comm, Nat.div_div_eq_div_mul]
theorem numN_be (s n : Nat) : numN (beL s n) = n % 256 ^ s := by
  induction s generalizing n with
  | zero => simp [beL, numN, Nat.mod_one]
  | succ s ih =>
    have e : n % 256 ^ (s + 1) = n % 256 + 256 * (n / 256 % 256 ^ s) := by rw [Nat.pow_succ, Nat.mul_comm (256 ^ s) 256, Nat.mod_mul]
    rw [beL_succ, numN_snoc, ih, UInt8.toNat_ofNat', e]
    omega

theorem takeR_ok (l : List UInt8) (k : Nat) (h : k ≤ l.length) : takeR (str l) 0 k true = (str (l.take k), str (l.drop k), 0) := by
  unfold takeR
  rw [if_neg (by simp), if_neg (by simp), if_neg (by rw [str_size]; omega), str_extract, str_extract, str_size]
  simp only [Int.toNat_natCast, List.drop_zero, Nat.sub_zero]
  rw [List.take_of_length_le (l := l.drop k) (by rw [List.length_drop]; omega)]
end Go.Proofs.Ytdjhbahiiabimaa
