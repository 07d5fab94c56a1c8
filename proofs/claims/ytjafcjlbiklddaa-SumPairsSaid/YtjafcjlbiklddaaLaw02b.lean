/- The walks of SumPairs and SumRight. -/
import Derived.Test.YtjafcjlbiklddaaSum2
import Derived.Laws.BytesArg
namespace Go.Proofs.Ytjafcjlbiklddaa
open Go.RowKit
set_option linter.unusedVariables false

theorem sum_pairs (x y : List UInt8) (hx : x.length % 2 = 0) (hy : y.length % 2 = 0) : sumR (y ++ x) = sumR (x ++ y) := by
  unfold sumR
  rw [wS_append, wS_append, Nat.zero_add, Nat.zero_add, wS_parity y.length 0 x (by omega), wS_parity x.length 0 y (by omega), Nat.add_comm]

set_option maxRecDepth 100000 in
set_option maxHeartbeats 2000000 in
theorem SumPairs_walk (w : World) (s : ByteArray) (hs : s.size ≤ 140737488351232) :
    Calls Try.prog 3 #[.string s] w fun x w' => x = .returned (.bool true) ∧ Below w.heap.size w w' := by
  obtain ⟨L, rfl⟩ : ∃ L, s = str L := ⟨_, (str_of s).symm⟩
  rw [str_size] at hs
  by_cases h : 2 ≤ L.length ∧ L.length ≤ 50000 ∧ L.length % 2 = 0
  · obtain ⟨h1, h2, h3⟩ := h
    have d1 : decide ((L.length : Int) < 2) = false := by simp; omega
    have d2 : decide (50000 < (L.length : Int)) = false := by simp; omega
    have d3 : ((L.length : Int) % 2 == 1) = false := by rw [beq_eq_false_iff_ne]; omega
    have e1 : (str L).extract (L.length - 2) L.length = str (L.drop (L.length - 2)) := by
      rw [str_extract, List.take_of_length_le (by rw [List.length_drop]; omega)]
    have e2 : (str L).extract 0 (L.length - 2) = str (L.take (L.length - 2)) := by
      rw [str_extract]; simp
    have H1 := Lib.hid (fun w => Sum_any w (str L) (by rw [str_size]; omega))
    have H2 := Lib.hid (fun w => Sum_any w (str (L.drop (L.length - 2) ++ L.take (L.length - 2))) (by rw [str_size, List.length_append, List.length_drop, List.length_take]; omega))
    have he : sumR (L.drop (L.length - 2) ++ L.take (L.length - 2)) = sumR L := by
      rw [sum_pairs _ _ (by rw [List.length_take]; omega) (by rw [List.length_drop]; omega), List.take_append_drop]
    rw [str_data] at H1 H2
    rw [he] at H2
    have hq := sumR_lt L
    have lx : (L.drop (L.length - 2)).length ≤ 50000 := by rw [List.length_drop]; omega
    have ly : (L.take (L.length - 2)).length ≤ 50000 := by rw [List.length_take]; omega
    clear he
    generalize sumR L = q at *
    generalize L.drop (L.length - 2) = X at *
    generalize L.take (L.length - 2) = Y at *
    clear h3
    go_enter Try.func3, Try.ntmps3
    go_wp2_with fail
    go_quiet ((first | (go_at_call_of 9 (str L); exact quiet_same (H1.out _)) | (go_at_call 9; exact quiet_same (H2.out _)) | (go_at_call 8; exact quiet_same (awake02 _))))
    go_wp2
    go_ret
    exact ⟨rfl, belowN (Below.refl _ _) _⟩
  · have hc : (∃ x : Unit, decide ((L.length : Int) < 2) = true) ∨ (∃ x : Unit, decide ((L.length : Int) < 2) = false ∧ decide (50000 < (L.length : Int)) = true) ∨
        (∃ x : Unit, decide ((L.length : Int) < 2) = false ∧ decide (50000 < (L.length : Int)) = false ∧ ((L.length : Int) % 2 == 1) = true) := by
      by_cases h1 : L.length < 2
      · exact .inl ⟨(), by simp; omega⟩
      by_cases h2 : 50000 < L.length
      · exact .inr (.inl ⟨(), by simp; omega, by simp; omega⟩)
      exact .inr (.inr ⟨(), by simp; omega, by simp; omega, by rw [beq_iff_eq]; omega⟩)
    clear h
    rcases hc with ⟨_, h1⟩ | ⟨_, h1, h2⟩ | ⟨_, h1, h2, h3⟩
    all_goals
      go_enter Try.func3, Try.ntmps3
      go_wp2_with fail
      refine (awake02 _).mono ?_
      rintro e w' ⟨rfl, rfl⟩
      go_wp2
      go_ret
      exact ⟨rfl, Below.refl _ _⟩

theorem sum_right (l : List UInt8) (hl : l.length % 2 = 0) : sumR (l ++ [UInt8.ofNat (sumR l / 256), UInt8.ofNat (sumR l % 256)]) = 0 := by
  have h1 := sumR_lt l
  have hw : wS 0 (l ++ [UInt8.ofNat (sumR l / 256), UInt8.ofNat (sumR l % 256)]) = wS 0 l + sumR l := by
    rw [wS_append, Nat.zero_add, wS_parity l.length 0 _ (by omega)]
    simp only [wS, UInt8.toNat_ofNat']
    rw [if_pos (by decide), if_neg (by decide)]
    omega
  have h2 := fold16_lt (wS 0 l)
  have h3 := fold16_mod (wS 0 l)
  have h4 := fold16_zero (wS 0 l)
  have h5 := fold16_mod (wS 0 l + sumR l)
  have h6 := fold16_zero (wS 0 l + sumR l)
  have h7 := fold16_lt (wS 0 l + sumR l)
  unfold sumR at hw ⊢
  rw [hw]
  unfold sumR at h5 h6 h7
  generalize fold16 (wS 0 l + (65535 - fold16 (wS 0 l))) = z at *
  generalize fold16 (wS 0 l) = y at *
  omega

set_option maxRecDepth 100000 in
set_option maxHeartbeats 2000000 in
theorem SumRight_walk (w : World) (s : ByteArray) (hs : s.size ≤ 140737488351232) :
    Calls Try.prog 5 #[.string s] w fun x w' => x = .returned (.bool true) ∧ Below w.heap.size w w' := by
  obtain ⟨L, rfl⟩ : ∃ L, s = str L := ⟨_, (str_of s).symm⟩
  rw [str_size] at hs
  by_cases h : L.length ≤ 50000 ∧ L.length % 2 = 0
  · obtain ⟨h2, h3⟩ := h
    have d2 : decide (50000 < (L.length : Int)) = false := by simp; omega
    have d3 : ((L.length : Int) % 2 == 1) = false := by rw [beq_eq_false_iff_ne]; omega
    have H1 := Lib.hid (fun w => Sum_any w (str L) (by rw [str_size]; omega))
    rw [str_data] at H1
    have hsr := sum_right L h3
    have hq := sumR_lt L
    generalize sumR L = q at *
    have H2 := Lib.hid (fun w => Right_any w (str (L ++ [UInt8.ofNat (q / 256), UInt8.ofNat (q % 256)])) (by rw [str_size, List.length_append]; simp; omega))
    rw [str_data, hsr] at H2
    clear hsr
    have hcv : ∀ (W : World), (convert 25 9 (.slice (some ⟨W.heap.size, 0, none⟩) 2 2)).run Try.prog (W.alloc (.cells #[.int .u8 ((q : Int) / 256), .int .u8 ((q : Int) % 256)] 5)) =
        .ok (.string (str [UInt8.ofNat (q / 256), UInt8.ofNat (q % 256)])) (W.alloc (.cells #[.int .u8 ((q : Int) / 256), .int .u8 ((q : Int) % 256)] 5)) := by
      intro W
      have := run_convert_bytes_arg (P := Try.prog) (W.alloc (.cells #[.int .u8 ((q : Int) / 256), .int .u8 ((q : Int) % 256)] 5)) 25 5 Try.underlying25 Try.underlying5 W.heap.size 0 2 2 [(q : Int) / 256, (q : Int) % 256] rfl
        (fun i hi => by
          rw [World.cell?_alloc_at _ _ _ _ rfl, Nat.zero_add]
          match i, hi with
          | 0, _ => rfl
          | 1, _ => rfl) 9 Try.underlying9
      rw [this]
      rfl
    have t4 : decide ((q : Int) < 65536) = true := by simp; omega
    have hq2 : (q : Int) ≤ 65535 := by omega
    clear h3 hq
    go_enter Try.func5, Try.ntmps5
    go_wp2_with fail
    refine (H1.out _).mono ?_
    rintro e w' ⟨rfl, rfl⟩
    go_wp2_with fail
    refine (H2.out _).mono ?_
    rintro e w' ⟨rfl, rfl⟩
    go_wp2_with fail
    refine (awake02 _).mono ?_
    rintro e w' ⟨rfl, rfl⟩
    go_wp2
    go_ret
    exact ⟨rfl, (Below.refl _ _).alloc (Nat.le_refl _) _⟩
  · have hc : (∃ x : Unit, decide (50000 < (L.length : Int)) = true) ∨
        (∃ x : Unit, decide (50000 < (L.length : Int)) = false ∧ ((L.length : Int) % 2 == 1) = true) := by
      by_cases h2 : 50000 < L.length
      · exact .inl ⟨(), by simp; omega⟩
      exact .inr ⟨(), by simp; omega, by rw [beq_iff_eq]; omega⟩
    clear h
    rcases hc with ⟨_, h1⟩ | ⟨_, h1, h2⟩
    all_goals
      go_enter Try.func5, Try.ntmps5
      go_wp2_with fail
      refine (awake02 _).mono ?_
      rintro e w' ⟨rfl, rfl⟩
      go_wp2
      go_ret
      exact ⟨rfl, Below.refl _ _⟩
end Go.Proofs.Ytjafcjlbiklddaa
