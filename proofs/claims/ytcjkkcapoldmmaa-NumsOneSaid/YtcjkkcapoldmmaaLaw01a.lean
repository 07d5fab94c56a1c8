/- The walks of NumsOne and NumsNil. -/
import Derived.Test.YtcjkkcapoldmmaaAwake01
import Derived.Test.YtcjkkcapoldmmaaReaderNum
import Derived.Test.YtcjkkcapoldmmaaReaderEnd
namespace Go.Proofs.Ytcjkkcapoldmmaa
open Go.RowKit
set_option linter.unusedVariables false

set_option maxRecDepth 100000 in
theorem NumsNil_walk (w : World) (n : Int) (wn : (Lit.int .i64 n).wf = true) :
    Calls Try.prog 5 #[.int .i64 n] w fun x w' => x = .returned (.bool true) ∧ Below w.heap.size w w' := by
  clear wn
  go_enter Try.func5, Try.ntmps5
  go_wp2_with fail
  refine (Num_nil _ _).mono ?_
  rintro e w1 ⟨rfl, h1⟩
  go_wp2_with fail
  refine (Bytes_nil _ _).mono ?_
  rintro e w2 ⟨rfl, rfl⟩
  go_wp2_with fail
  refine (Left_nil _).mono ?_
  rintro e w2 ⟨rfl, rfl⟩
  go_wp2_with fail
  refine (End_nil _).mono ?_
  rintro e w2 ⟨rfl, rfl⟩
  go_wp2_with fail
  refine (awake01 _).mono ?_
  rintro e w2 ⟨rfl, h2⟩
  go_wp2
  go_ret
  exact ⟨rfl, h1.trans (h2.mono h1.size)⟩

theorem beL4 (a b : Nat) (ha : a ≤ 65535) (hb : b ≤ 65535) : beL 4 (65536 * a + b) = beL 2 a ++ beL 2 b := by
  have e : ∀ x y : Nat, x % 256 = y % 256 → UInt8.ofNat x = UInt8.ofNat y := by
    intro x y h
    apply UInt8.toNat_inj.mp
    rw [UInt8.toNat_ofNat', UInt8.toNat_ofNat']; exact h
  simp only [beL, List.cons_append, List.nil_append]
  rw [e ((65536 * a + b) / 256 ^ 3) (a / 256 ^ 1) (by omega), e ((65536 * a + b) / 256 ^ 2) (a / 256 ^ 0) (by omega), e ((65536 * a + b) / 256 ^ 1) (b / 256 ^ 1) (by omega), e ((65536 * a + b) / 256 ^ 0) (b / 256 ^ 0) (by omega)]
end Go.Proofs.Ytcjkkcapoldmmaa
