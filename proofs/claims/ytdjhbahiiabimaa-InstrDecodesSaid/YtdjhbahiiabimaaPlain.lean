/- Numbers as bytes, as plain functions. -/
import Derived.Test.YtdjhbahiiabimaaBase
import Derived.Laws.BytesArg
import Derived.Laws.BitsAllLaws
namespace Go.Proofs.Ytdjhbahiiabimaa
open Go.RowKit
set_option linter.unusedVariables false

/-- The bytes of a number, the greatest first. -/
def beL : Nat → Nat → List UInt8
  | 0, _ => []
  | s + 1, n => UInt8.ofNat (n / 256 ^ s) :: beL s n
theorem beL_length (s n : Nat) : (beL s n).length = s := by induction s with
  | zero => rfl
  | succ s ih => simp [beL, ih]
theorem beL_get (s n i : Nat) (h : i < s) : (beL s n)[i]? = some (UInt8.ofNat (n / 256 ^ (s - 1 - i))) := by
  induction s generalizing i with
  | zero => omega
  | succ s ih =>
    cases i with
    | zero => simp [beL]
    | succ i =>
      simp only [beL, List.getElem?_cons_succ]
      rw [ih i (by omega)]
      have : s - 1 - i = s + 1 - 1 - (i + 1) := by omega
      rw [this]

/-- The row that Put fills, behind k rounds. -/
def fillL (n : Int) (size : Nat) : Nat → List Int
  | 0 => List.replicate size 0
  | k + 1 => (fillL n size k).set (size - 1 - k) (n / 2 ^ (8 * k) % 256)
theorem fillL_length (n : Int) (size k : Nat) : (fillL n size k).length = size := by
  induction k with
  | zero => simp [fillL]
  | succ k ih => simp [fillL, ih]
theorem fillL_get (n : Int) (size k i : Nat) (hk : k ≤ size) (h : i < size) (hi : size - k ≤ i) : (fillL n size k)[i]? = some (n / 2 ^ (8 * (size - 1 - i)) % 256) := by
  induction k with
  | zero => omega
  | succ k ih =>
    simp only [fillL]
    by_cases e : size - 1 - k = i
    · rw [← e, List.getElem?_set_self (by rw [fillL_length]; omega)]
      have : size - 1 - (size - 1 - k) = k := by omega
      rw [this]
    · rw [List.getElem?_set_ne e]
      exact ih (by omega) (by omega)
theorem fill_be (n : Int) (size : Nat) (h0 : 0 ≤ n) : strOfNums (fillL n size size) = str (beL size n.toNat) := by
  unfold strOfNums str
  congr 1
  apply congrArg
  apply List.ext_getElem?
  intro i
  by_cases hi : i < size
  · rw [List.getElem?_map, fillL_get n size size i (Nat.le_refl _) hi (by omega), beL_get _ _ _ hi]
    simp only [Option.map_some, Option.some.injEq]
    obtain ⟨m, rfl⟩ := Int.eq_ofNat_of_zero_le h0
    generalize size - 1 - i = j
    have e1 : ((m : Int) / 2 ^ (8 * j) % 256).toNat = m / 256 ^ j % 256 := by
      have e2 : (2 : Int) ^ (8 * j) = ((256 ^ j : Nat) : Int) := by rw [Int.pow_mul, Int.natCast_pow]; rfl
      have e3 : (m : Int) / ((256 ^ j : Nat) : Int) % 256 = ((m / 256 ^ j % 256 : Nat) : Int) := by rw [Int.natCast_emod, Int.natCast_ediv]; rfl
      rw [e2, e3, Int.toNat_natCast]
    rw [e1, Int.toNat_natCast]
    exact UInt8.toNat_inj.mp (by rw [UInt8.toNat_ofNat', UInt8.toNat_ofNat', Nat.mod_mod])
  · rw [List.getElem?_eq_none (by rw [List.length_map, fillL_length]; omega), List.getElem?_eq_none (by rw [beL_length]; omega)]

def putOk (n size : Int) : Prop := 1 ≤ size ∧ size ≤ 8 ∧ n < 256 ^ size.toNat
instance (n size : Int) : Decidable (putOk n size) := by unfold putOk; infer_instance
/-- What Put answers: the bytes, and the error. -/
def putR (n size : Int) : List UInt8 × Int := if putOk n size then (beL size.toNat n.toNat, 0) else ([], 1)
end Go.Proofs.Ytdjhbahiiabimaa
