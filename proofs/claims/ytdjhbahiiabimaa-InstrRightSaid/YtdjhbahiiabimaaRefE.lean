/- Plain: a metadata's bits lie within its mask, said in two ways. -/
import Derived.Test.YtdjhbahiiabimaaInsB
namespace Go.Proofs.Ytdjhbahiiabimaa
open Go.RowKit
set_option linter.unusedVariables false
set_option linter.unusedSimpArgs false

theorem and_iff_andNot (x y : BitVec 64) : x &&& y = x ↔ x &&& ~~~y = 0#64 := by
  constructor
  · intro h
    rw [← h]
    ext i hi
    simp
  · intro h
    ext i hi
    have h1 := congrArg (fun z : BitVec 64 => z[i]) h
    simp at h1
    simp
    exact h1
theorem u64_wrap_toNat (x : BitVec 64) : IntKind.u64.wrap (x.toNat : Int) = (x.toNat : Int) := by
  have : ∀ v : Int, IntKind.u64.wrap v = v % 18446744073709551616 := fun v => by simp [IntKind.wrap, IntKind.bits, IntKind.signed]
  rw [this]
  have := x.isLt
  omega
theorem ofInt_toNat (a : Int) (h0 : 0 ≤ a) (h1 : a ≤ 18446744073709551615) : ((BitVec.ofInt 64 a).toNat : Int) = a := by
  rw [BitVec.toNat_ofInt]
  omega
theorem mask_iff (a b : Int) (ha : 0 ≤ a ∧ a ≤ 18446744073709551615) : Go.bits .and .u64 a b = a ↔ Go.bits .andNot .u64 a b = 0 := by
  have e1 : Go.bits .and .u64 a b = ((BitVec.ofInt 64 a &&& BitVec.ofInt 64 b).toNat : Int) := u64_wrap_toNat _
  have e2 : Go.bits .andNot .u64 a b = ((BitVec.ofInt 64 a &&& ~~~ BitVec.ofInt 64 b).toNat : Int) := u64_wrap_toNat _
  have e3 := ofInt_toNat a ha.1 ha.2
  rw [e1, e2]
  constructor
  · intro h
    have : BitVec.ofInt 64 a &&& BitVec.ofInt 64 b = BitVec.ofInt 64 a := BitVec.eq_of_toNat_eq (by omega)
    rw [(and_iff_andNot _ _).1 this]
    rfl
  · intro h
    have : BitVec.ofInt 64 a &&& ~~~ BitVec.ofInt 64 b = 0#64 := BitVec.eq_of_toNat_eq (by simp only [BitVec.toNat_ofNat]; omega)
    rw [(and_iff_andNot _ _).2 this]
    exact e3
end Go.Proofs.Ytdjhbahiiabimaa
