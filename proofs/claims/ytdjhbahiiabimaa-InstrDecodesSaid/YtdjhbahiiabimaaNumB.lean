/- Numbers that a reader takes up: their bounds; what is put is read. -/
import Derived.Test.YtdjhbahiiabimaaRdK
import Derived.Test.YtdjhbahiiabimaaNumPlain
namespace Go.Proofs.Ytdjhbahiiabimaa
open Go.RowKit
set_option linter.unusedVariables false

theorem takeR_len (s : ByteArray) (e : Int) (n : Nat) (b : Bool) : (takeR s e n b).1.data.toList.length ≤ n := by
  unfold takeR
  by_cases h1 : e ≠ 0
  · rw [if_pos h1]; exact Nat.zero_le _
  · rw [if_neg h1]
    by_cases h2 : b = false
    · rw [if_pos h2]; exact Nat.zero_le _
    · rw [if_neg h2]
      by_cases h3 : (s.size : Int) < n
      · rw [if_pos h3]; exact Nat.zero_le _
      · rw [if_neg h3]
        have := size_data (s.extract 0 (n : Int).toNat)
        rw [this, ByteArray.size_extract]
        omega
theorem numR_bd (n : Nat) (r : RS) (h : n ≤ 8) : 0 ≤ numR n r ∧ numR n r < ((256 ^ n : Nat) : Int) := by
  unfold numR
  have hl := takeR_len r.1 r.2 n (decide (1 ≤ (n : Int) ∧ (n : Int) ≤ 8))
  generalize (takeR r.1 r.2 n (decide (1 ≤ (n : Int) ∧ (n : Int) ≤ 8))).1.data.toList = l at *
  rw [numG_eq l (by omega)]
  have h1 := numN_lt l
  have h2 : 256 ^ l.length ≤ 256 ^ n := Nat.pow_le_pow_right (by decide) hl
  omega
theorem numR_ok (x y : List UInt8) (k : Nat) (hk : 1 ≤ k ∧ k ≤ 8) (hx : x.length = k) : numR k (str (x ++ y), 0) = numN x ∧ numS k (str (x ++ y), 0) = (str y, 0) := by
  unfold numR numS
  have hd : decide (1 ≤ (k : Int) ∧ (k : Int) ≤ 8) = true := by simp; omega
  rw [hd, takeR_ok _ _ (by simp; omega)]
  subst hx
  simp only [List.take_left', List.drop_left', str_data]
  exact ⟨numG_eq _ (by omega), trivial⟩
theorem bytS_ok (x y : List UInt8) (k : Nat) (hx : x.length = k) : bytS k (str (x ++ y), 0) = (str y, 0) := by
  unfold bytS
  have hd : decide (0 ≤ (k : Int)) = true := by simp
  rw [hd, takeR_ok _ _ (by simp; omega)]
  subst hx
  simp
theorem numR_be (k n : Nat) (y : List UInt8) (hk : 1 ≤ k ∧ k ≤ 8) (hn : n < 256 ^ k) : numR k (str (beL k n ++ y), 0) = n := by
  rw [(numR_ok _ _ k hk (beL_length _ _)).1, numN_be, Nat.mod_eq_of_lt hn]
theorem numS_be (k n : Nat) (y : List UInt8) (hk : 1 ≤ k ∧ k ≤ 8) : numS k (str (beL k n ++ y), 0) = (str y, 0) := (numR_ok _ _ k hk (beL_length _ _)).2
end Go.Proofs.Ytdjhbahiiabimaa
