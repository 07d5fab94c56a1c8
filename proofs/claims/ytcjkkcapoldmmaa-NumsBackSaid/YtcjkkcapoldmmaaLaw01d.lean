/- The walk of NumsBack. -/
import Derived.Test.YtcjkkcapoldmmaaNumPlain
import Derived.Test.YtcjkkcapoldmmaaReaderEnd
import Derived.Test.YtcjkkcapoldmmaaAwake01
namespace Go.Proofs.Ytcjkkcapoldmmaa
open Go.RowKit
set_option linter.unusedVariables false

set_option maxRecDepth 100000 in
set_option maxHeartbeats 400000 in
theorem NumsBack_core (w : World) (n s : Int) (t : ByteArray) (ht : t.size ≤ 140737488351232) (h0 : 0 ≤ n) (hn : n < 18446744073709551616) :
    Calls Try.prog 7 #[.int .u64 n, .int .i64 s, .string t] w fun x w' => x = .returned (.bool true) ∧ Below w.heap.size w w' := by
  obtain ⟨R, rfl⟩ : ∃ R, t = str R := ⟨_, (str_of t).symm⟩
  rw [str_size] at ht
  by_cases hbig : R.length ≤ 10000
  · have d0 : decide (10000 < (R.length : Int)) = false := by simp; omega
    by_cases hp : putOk n s
    · obtain ⟨h1, h8, hlt⟩ := hp
      obtain ⟨c, rfl⟩ := Int.eq_ofNat_of_zero_le (show 0 ≤ s by omega)
      obtain ⟨m, rfl⟩ := Int.eq_ofNat_of_zero_le h0
      have hlt' : m < 256 ^ c := by
        have h3 : ((256 ^ c : Nat) : Int) = 256 ^ c := by rw [Int.natCast_pow]; rfl
        rw [show (c : Int).toNat = c from rfl, ← h3] at hlt
        omega
      have hr : putR m c = (beL c m, 0) := by unfold putR; rw [if_pos ⟨h1, h8, hlt⟩]; rfl
      have H1 := Lib.hid (fun w => Put_any w m c h0 hn)
      rw [hr] at H1
      have e1 : takeR (str (beL c m ++ R)) 0 c (decide (1 ≤ (c : Int) ∧ (c : Int) ≤ 8)) = (str (beL c m), str R, 0) := by
        have hd : decide (1 ≤ (c : Int) ∧ (c : Int) ≤ 8) = true := by simp; omega
        have hl := beL_length c m
        rw [hd, takeR_ok _ _ (by rw [List.length_append, hl]; omega), List.take_left' hl, List.drop_left' hl]
      have e2 : takeR (str R) 0 (R.length : Int) (decide (0 ≤ (R.length : Int))) = (str R, str [], 0) := by
        have hd : decide (0 ≤ (R.length : Int)) = true := by simp
        rw [hd, takeR_ok _ _ (Nat.le_refl _), List.take_length, List.drop_length]
      have e3 : numG (str (beL c m)).data.toList = (m : Int) := by
        rw [str_data, numG_eq _ (by rw [beL_length]; omega), numN_be, Nat.mod_eq_of_lt hlt']
      have hN := Lib.hid (fun w g (hr : RdAt w g (str (beL c m ++ R)) 0) => Num_any w g _ 0 c hr (by rw [str_size, List.length_append, beL_length]; omega))
      have hB := Lib.hid (fun w g (hr : RdAt w g (str R) 0) => Bytes_any w g _ 0 R.length hr (by rw [str_size]; omega))
      rw [e1, e3] at hN
      rw [e2] at hB
      have hL := Lib.hid (fun w g (hr : RdAt w g (str R) 0) => Left_any w g _ 0 hr)
      have e4 : leftR (str R) 0 = (R.length : Int) := by simp [leftR, str_size]
      rw [e4] at hL
      have e5 : endR (str []) 0 = 0 := rfl
      have hE := Lib.hid (fun w g (hr : RdAt w g (str []) 0) => End_any w g _ 0 hr)
      rw [e5] at hE
      have hl := beL_length c m
      clear hr e1 e2 e3 e4 e5 hlt hlt' hn h0
      generalize hX : beL c m = X at *
      clear hX
      have hRd := Lib.hid (fun w => Read_any w (str (X ++ R)))
      have hlI : ((X.length : Nat) : Int) = c := by omega
      clear hl
      go_enter Try.func7, Try.ntmps7
      go_wp2_with fail
      refine (H1.out _).mono ?_
      rintro e w1 ⟨rfl, g1⟩
      go_wp2_with fail
      refine (hRd.out _).mono ?_
      rintro e w2 ⟨g, rfl, hg, hr2, g2⟩
      go_wp2_with fail
      refine (hN.out _ _ hr2).mono ?_
      rintro e w3 ⟨rfl, hr3, g3⟩
      go_wp2_with fail
      refine (hL.out _ _ hr3).mono ?_
      rintro e w3 ⟨rfl, rfl⟩
      go_wp2_with fail
      refine (hB.out _ _ hr3).mono ?_
      rintro e w4 ⟨rfl, hr4, g4⟩
      go_wp2_with fail
      refine (hE.out _ _ hr4).mono ?_
      rintro e w4 ⟨rfl, rfl⟩
      go_wp2_with fail
      refine (awake01 _).mono ?_
      rintro e w5 ⟨rfl, g5⟩
      go_wp2
      go_ret
      have hgw : w.heap.size ≤ g := Nat.le_trans g1.size hg
      have k2 := g1.trans (g2.mono g1.size)
      have k3 := g3.below k2 hgw k2.size
      have k4 := g4.below k3 hgw k3.size
      exact ⟨rfl, k4.trans (g5.mono k4.size)⟩
    · have hr : putR n s = ([], 1) := by unfold putR; rw [if_neg hp]
      have H1 := Lib.hid (fun w => Put_any w n s h0 hn)
      rw [hr] at H1
      clear hr h0 hn hp
      go_enter Try.func7, Try.ntmps7
      go_wp2_with fail
      refine (H1.out _).mono ?_
      rintro e w1 ⟨rfl, g1⟩
      go_wp2_with fail
      refine (awake01 _).mono ?_
      rintro e w2 ⟨rfl, g2⟩
      go_wp2
      go_ret
      exact ⟨rfl, g1.trans (g2.mono g1.size)⟩
  · have d0 : decide (10000 < (R.length : Int)) = true := by simp; omega
    clear hbig ht h0 hn
    go_enter Try.func7, Try.ntmps7
    go_wp2_with fail
    refine (awake01 _).mono ?_
    rintro e w5 ⟨rfl, g5⟩
    go_wp2
    go_ret
    exact ⟨rfl, g5⟩

theorem NumsBack_walk (w : World) (n : Int) (wn : (Lit.int .u64 n).wf = true) (s : Int) (ws : (Lit.int .i64 s).wf = true) (t : ByteArray) (ht : t.size ≤ 140737488351232) :
    Calls Try.prog 7 #[.int .u64 n, .int .i64 s, .string t] w fun x w' => x = .returned (.bool true) ∧ Below w.heap.size w w' :=
  NumsBack_core w n s t ht (wf_u64 wn).1 (by have := (wf_u64 wn).2; omega)
end Go.Proofs.Ytcjkkcapoldmmaa
