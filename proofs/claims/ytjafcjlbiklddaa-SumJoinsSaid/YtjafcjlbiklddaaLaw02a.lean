/- The walks of SumSums, SumJoins and SumBoth. -/
import Derived.Test.YtjafcjlbiklddaaSum2
namespace Go.Proofs.Ytjafcjlbiklddaa
open Go.RowKit
set_option linter.unusedVariables false

set_option maxRecDepth 100000 in
theorem SumSums_walk (w : World) (s : ByteArray) (hs : s.size ≤ 140737488351232) :
    Calls Try.prog 4 #[.string s] w fun x w' => x = .returned (.bool true) ∧ Below w.heap.size w w' := by
  by_cases hb : s.size ≤ 100000
  · have d0 : decide (100000 < (s.size : Int)) = false := by simp; omega
    have H1 := Lib.hid (fun w => rSum_any w s (by omega))
    have H2 := Lib.hid (fun w => Sum_any w s (by omega))
    have H3 := Lib.hid (fun w => Right_any w s (by omega))
    have hq := sumR_lt s.data.toList
    generalize sumR s.data.toList = q at *
    have hc : (q = 0 ∧ True) ∨ (((q : Int) == 0) = false ∧ decide (q = 0) = false) := by
      by_cases h : q = 0
      · exact .inl ⟨h, trivial⟩
      · exact .inr ⟨by rw [beq_eq_false_iff_ne]; omega, by simpa using h⟩
    clear hb hs
    rcases hc with ⟨rfl, _⟩ | ⟨h1, h2⟩
    · go_enter Try.func4, Try.ntmps4
      go_wp2_with fail
      refine (H1.out _).mono ?_
      rintro e w' ⟨rfl, rfl⟩
      go_wp2_with fail
      refine (H2.out _).mono ?_
      rintro e w' ⟨rfl, rfl⟩
      go_wp2_with fail
      refine (H3.out _).mono ?_
      rintro e w' ⟨rfl, rfl⟩
      go_wp2_with fail
      refine (awake02 _).mono ?_
      rintro e w' ⟨rfl, rfl⟩
      go_wp2
      go_ret
      exact ⟨rfl, Below.refl _ _⟩
    · rw [h2] at H3
      clear h2
      go_enter Try.func4, Try.ntmps4
      go_wp2_with fail
      refine (H1.out _).mono ?_
      rintro e w' ⟨rfl, rfl⟩
      go_wp2_with fail
      refine (H2.out _).mono ?_
      rintro e w' ⟨rfl, rfl⟩
      go_wp2_with fail
      refine (H3.out _).mono ?_
      rintro e w' ⟨rfl, rfl⟩
      go_wp2_with fail
      refine (awake02 _).mono ?_
      rintro e w' ⟨rfl, rfl⟩
      go_wp2
      go_ret
      exact ⟨rfl, Below.refl _ _⟩
  · have d0 : decide (100000 < (s.size : Int)) = true := by simp; omega
    clear hb hs
    go_enter Try.func4, Try.ntmps4
    go_wp2_with fail
    refine (awake02 _).mono ?_
    rintro e w' ⟨rfl, rfl⟩
    go_wp2
    go_ret
    exact ⟨rfl, Below.refl _ _⟩

theorem SumJoins_walk (w : World) (a : Int) (wa : (Lit.int .i64 a).wf = true) (b : Int) (wb : (Lit.int .i64 b).wf = true) (odd : Bool) :
    Calls Try.prog 6 #[.int .i64 a, .int .i64 b, .bool odd] w fun x w' => x = .returned (.bool true) ∧ Below w.heap.size w w' := by
  have H1 := Lib.hid (fun w => Join_any w a b odd)
  have H2 := Lib.hid (fun w => rJoin_any w a b odd)
  generalize joinR (compl a) (compl b) odd = q at *
  go_enter Try.func6, Try.ntmps6
  go_wp2_with fail
  refine (H1.out _).mono ?_
  rintro e w' ⟨rfl, rfl⟩
  go_wp2_with fail
  refine (H2.out _).mono ?_
  rintro e w' ⟨rfl, rfl⟩
  go_wp2_with fail
  refine (awake02 _).mono ?_
  rintro e w' ⟨rfl, rfl⟩
  go_wp2
  go_ret
  exact ⟨rfl, Below.refl _ _⟩

theorem compl_sum (l : List UInt8) : compl (sumR l : Int) = fold16 (wS 0 l) := by
  have := fold16_lt (wS 0 l)
  unfold compl sumR
  omega
theorem sum_both (a b : List UInt8) : joinR (compl (sumR a : Int)) (compl (sumR b : Int)) (decide (a.length % 2 = 1)) = sumR (a ++ b) := by
  rw [compl_sum, compl_sum]
  unfold joinR
  show _ = 65535 - fold16 (wS 0 (a ++ b))
  rw [wS_append, Nat.zero_add]
  by_cases h : a.length % 2 = 1
  · have ho := wS_odd b
    rw [wS_parity a.length 1 b (by omega)]
    simp only [h, decide_true, if_true]
    rw [swap_fold (wS 0 b) (wS 1 b) ho.1 ho.2.1, fold16_both]
  · rw [wS_parity a.length 0 b (by omega)]
    simp only [h, decide_false, Bool.false_eq_true, if_false]
    rw [fold16_both]

set_option maxRecDepth 100000 in
theorem SumBoth_walk (w : World) (a : ByteArray) (ha : a.size ≤ 140737488351232) (b : ByteArray) (hb : b.size ≤ 140737488351232) :
    Calls Try.prog 7 #[.string a, .string b] w fun x w' => x = .returned (.bool true) ∧ Below w.heap.size w w' := by
  obtain ⟨A, rfl⟩ : ∃ A, a = str A := ⟨_, (str_of a).symm⟩
  obtain ⟨B, rfl⟩ : ∃ B, b = str B := ⟨_, (str_of b).symm⟩
  rw [str_size] at ha hb
  by_cases h1 : A.length ≤ 50000
  · have d1 : decide (50000 < (A.length : Int)) = false := by simp; omega
    by_cases h2 : B.length ≤ 50000
    · have d2 : decide (50000 < (B.length : Int)) = false := by simp; omega
      have H1 := Lib.hid (fun w => Sum_any w (str A) (by rw [str_size]; omega))
      have H2 := Lib.hid (fun w => Sum_any w (str B) (by rw [str_size]; omega))
      have H3 := Lib.hid (fun w => Sum_any w (str (A ++ B)) (by rw [str_size, List.length_append]; omega))
      have HJ := Lib.hid (fun w => Join_any w (sumR A : Int) (sumR B : Int) (decide (A.length % 2 = 1)))
      have hsb := sum_both A B
      rw [str_data] at H1 H2 H3
      rw [hsb] at HJ
      have l1 := sumR_lt A
      have l2 := sumR_lt B
      have l3 := sumR_lt (A ++ B)
      clear hsb
      generalize sumR A = p at *
      generalize sumR B = q at *
      generalize sumR (A ++ B) = r at *
      have ho : ((A.length : Int) % 2 == 1) = decide (A.length % 2 = 1) := by
        by_cases h : A.length % 2 = 1
        · rw [decide_eq_true h, beq_iff_eq]; omega
        · rw [decide_eq_false h, beq_eq_false_iff_ne]; omega
      clear h1 h2
      go_enter Try.func7, Try.ntmps7
      go_wp2_with fail
      refine (H1.out _).mono ?_
      rintro e w' ⟨rfl, rfl⟩
      go_wp2_with fail
      refine (H2.out _).mono ?_
      rintro e w' ⟨rfl, rfl⟩
      go_wp2_with fail
      refine (HJ.out _).mono ?_
      rintro e w' ⟨rfl, rfl⟩
      go_wp2_with fail
      refine (H3.out _).mono ?_
      rintro e w' ⟨rfl, rfl⟩
      go_wp2_with fail
      refine (awake02 _).mono ?_
      rintro e w' ⟨rfl, rfl⟩
      go_wp2
      go_ret
      exact ⟨rfl, Below.refl _ _⟩
    · have d2 : decide (50000 < (B.length : Int)) = true := by simp; omega
      clear h1 h2 ha hb
      go_enter Try.func7, Try.ntmps7
      go_wp2_with fail
      refine (awake02 _).mono ?_
      rintro e w' ⟨rfl, rfl⟩
      go_wp2
      go_ret
      exact ⟨rfl, Below.refl _ _⟩
  · have d1 : decide (50000 < (A.length : Int)) = true := by simp; omega
    clear h1 ha hb
    go_enter Try.func7, Try.ntmps7
    go_wp2_with fail
    refine (awake02 _).mono ?_
    rintro e w' ⟨rfl, rfl⟩
    go_wp2
    go_ret
    exact ⟨rfl, Below.refl _ _⟩
end Go.Proofs.Ytjafcjlbiklddaa
