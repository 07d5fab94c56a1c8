/- The walks of package sum. -/
import Derived.Test.YthihncfmimkimaaSumPlain
import Derived.Test.YthihncfmimkimaaReaderNum
import Derived.Laws.BitsAllLaws
namespace Go.Proofs.Ythihncfmimkimaa
open Go.RowKit
set_option linter.unusedVariables false

theorem and16 (m : Nat) (h : m < 18446744073709551616) : Go.bits .and .u64 (m : Int) 65535 = ((m % 65536 : Nat) : Int) := by
  have h1 := bits_and_u64_nat m 65535 h (by omega)
  have e : m &&& 65535 = m % 65536 := Nat.and_two_pow_sub_one_eq_mod m 16
  rw [e] at h1
  exact h1

theorem xor_ones (x : Nat) (h : x < 65536) : 65535 ^^^ x = 65535 - x := by
  have h1 := BitVec.toNat_not (x := BitVec.ofNat 16 x)
  have h2 : ~~~ (BitVec.ofNat 16 x) = BitVec.allOnes 16 ^^^ (BitVec.ofNat 16 x) := by rw [BitVec.allOnes_xor]
  rw [h2, BitVec.toNat_xor, BitVec.toNat_allOnes, BitVec.toNat_ofNat, Nat.mod_eq_of_lt h] at h1
  simpa using h1
theorem not16 (x : Nat) (h : x < 65536) : Go.bits .xor .u16 IntKind.u16.max (x : Int) = ((65535 - x : Nat) : Int) := by
  have h1 := u16_xor_nat 65535 x (by omega) h
  rw [xor_ones x h] at h1
  exact h1

set_option maxHeartbeats 1000000 in
theorem folded_any (w : World) (n : Nat) (hn : n < 18446744073709551616) :
    Calls Try.prog 43 #[.int .u64 n] w fun x w' => x = .returned (.int .u16 (fold16 n)) ∧ w = w' := by
  go_enter Try.func43, Try.ntmps43
  go_wp2
  go_loop [0] (fun v => ∃ m : Nat, v = .int .u64 m ∧ m < 18446744073709551616 ∧ Hid (fold16 m = fold16 n)) (fun v => (intOf v).toNat)
  case atStart => exact ⟨n, rfl, hn, rfl⟩
  case round =>
    obtain ⟨m, rfl, hm, HF⟩ := hrel
    have ha := and16 m hm
    by_cases hlt : 65536 ≤ m
    · have t1 : decide (0 < m / 65536) = true := by simp; omega
      go_wp2
      go_round
      case rel => exact ⟨m % 65536 + m / 65536, rfl, by omega, (fold16_step hlt).trans HF.out⟩
      case measure => simp [intOf]; omega
    · have t1 : decide (0 < m / 65536) = false := by simp; omega
      go_wp2
      go_ret
      exact ⟨ret_int (by rw [← HF.out, fold16_small (by omega)]), rfl⟩

theorem folded_int (w : World) (n : Int) (q : Nat) (hq : n = q) (hn : q < 18446744073709551616) :
    Calls Try.prog 43 #[.int .u64 n] w fun x w' => x = .returned (.int .u16 (fold16 q)) ∧ w = w' := by
  subst hq; exact folded_any w q hn

set_option maxRecDepth 100000 in
set_option maxHeartbeats 4000000 in
theorem Sum_any (w : World) (s : ByteArray) (hs : s.size ≤ 1000000) :
    Calls Try.prog 23 #[.string s] w fun x w' => x = .returned (.int .i64 (sumR s.data.toList)) ∧ w = w' := by
  have HL := Lib.hid (size_data s)
  go_enter Try.func23, Try.ntmps23
  go_wp2
  go_loop [3, 4, 5, 8] (fun nv _ _ iv => ∃ k m : Nat, k ≤ s.size ∧ iv = .int .i64 k ∧ nv = .int .u64 m ∧ m < 4611686018427387904 ∧ Hid (fold16 m = fold16 (wS 0 (s.data.toList.take k)))) (fun _ _ _ iv => s.size - (intOf iv).toNat)
  case atStart => exact ⟨0, 0, Nat.zero_le _, rfl, rfl, by omega, rfl⟩
  case round =>
    obtain ⟨k, m, hk, rfl, rfl, hm, HF⟩ := hrel
    by_cases hlt : k < s.size
    · obtain ⟨b, hb0, hb1, hbb, HS⟩ : ∃ b : Nat, 0 ≤ b ∧ b ≤ 255 ∧ (∀ h : k < s.size, (s[k]'h).toNat = b) ∧
          Hid (wS 0 (s.data.toList.take (k + 1)) = wS 0 (s.data.toList.take k) + (if k % 2 = 0 then b * 256 else b)) := by
        refine ⟨(s.data.toList.getD k 0).toNat, Nat.zero_le _, ?_, ?_, ?_⟩
        · have := (s.data.toList.getD k 0).toNat_lt; omega
        · intro h
          have : s.data.toList.getD k 0 = s[k]'h := by
            rw [List.getD_eq_getElem?_getD, List.getElem?_eq_getElem (by rw [HL.out]; exact h)]; rfl
          rw [this]
        · have := wS_snoc (s.data.toList.take k) (s.data.toList.getD k 0)
          rw [← take_snoc' _ _ (by rw [HL.out]; omega), List.length_take, HL.out, Nat.min_eq_left hk, Nat.mul_comm 256] at this
          exact this
      have hbk := hbb hlt
      clear hbb
      by_cases hpar : k % 2 = 0
      · have p1 : ((k : Int) % 2 == 0) = true := by rw [beq_iff_eq]; omega
        have HS2 : Hid (∀ q, fold16 q = fold16 (m + b * 256) → fold16 q = fold16 (wS 0 (s.data.toList.take (k + 1)))) := by
          intro q hq
          rw [HS.out, if_pos hpar, hq]; exact fold16_add HF.out _
        by_cases hbig : 4611686018427387904 ≤ m + b * 256
        · have t1 : decide (0 < ((m : Int) + (b : Int) * 256) / 4611686018427387904) = true := by simp; omega
          have hfo := Lib.hid (fun w => folded_int w ((m : Int) + (b : Int) * 256) (m + b * 256) (by omega) (by omega))
          have ef : Hid (fold16 (fold16 (m + b * 256)) = fold16 (m + b * 256)) := fold16_idem _
          have efl : fold16 (m + b * 256) < 65536 := fold16_lt _
          clear hpar HS HF hbig
          go_wp2_with fail
          refine (hfo.out _).mono ?_
          rintro e w' ⟨rfl, rfl⟩
          go_wp2
          go_round
          case rel => exact ⟨k + 1, fold16 (m + b * 256), by omega, by go_num, by go_num, by omega, HS2.out _ ef.out⟩
          case measure => simp [intOf]; omega
        · have t1 : decide (0 < ((m : Int) + (b : Int) * 256) / 4611686018427387904) = false := by simp; omega
          clear hpar HS HF
          go_wp2
          go_round
          case rel => exact ⟨k + 1, m + b * 256, by omega, by go_num, by go_num, by omega, HS2.out _ rfl⟩
          case measure => simp [intOf]; omega
      · have p1 : ((k : Int) % 2 == 0) = false := by rw [beq_eq_false_iff_ne]; omega
        have HS2 : Hid (∀ q, fold16 q = fold16 (m + b) → fold16 q = fold16 (wS 0 (s.data.toList.take (k + 1)))) := by
          intro q hq
          rw [HS.out, if_neg hpar, hq]; exact fold16_add HF.out _
        by_cases hbig : 4611686018427387904 ≤ m + b
        · have t1 : decide (0 < ((m : Int) + (b : Int)) / 4611686018427387904) = true := by simp; omega
          have hfo := Lib.hid (fun w => folded_int w ((m : Int) + (b : Int)) (m + b) (by omega) (by omega))
          have ef : Hid (fold16 (fold16 (m + b)) = fold16 (m + b)) := fold16_idem _
          have efl : fold16 (m + b) < 65536 := fold16_lt _
          clear hpar HS HF hbig
          go_wp2_with fail
          refine (hfo.out _).mono ?_
          rintro e w' ⟨rfl, rfl⟩
          go_wp2
          go_round
          case rel => exact ⟨k + 1, fold16 (m + b), by omega, by go_num, by go_num, by omega, HS2.out _ ef.out⟩
          case measure => simp [intOf]; omega
        · have t1 : decide (0 < ((m : Int) + (b : Int)) / 4611686018427387904) = false := by simp; omega
          clear hpar HS HF
          go_wp2
          go_round
          case rel => exact ⟨k + 1, m + b, by omega, by go_num, by go_num, by omega, HS2.out _ rfl⟩
          case measure => simp [intOf]; omega
    · obtain rfl : k = s.size := by omega
      have hfo := Lib.hid (fun w => folded_any w m (by omega))
      have efl := fold16_lt m
      have HE : Hid (65535 - fold16 m = sumR s.data.toList) := by
        unfold sumR; rw [HF.out, ← HL.out, List.take_length]; rfl
      obtain ⟨q, HQ, hql, hx⟩ : ∃ q : Nat, Hid (q = sumR s.data.toList) ∧ q ≤ 65535 ∧ Go.bits .xor .u16 IntKind.u16.max ((fold16 m : Nat) : Int) = (q : Int) := ⟨_, HE.out, by omega, not16 _ efl⟩
      clear hk hlt HF HE
      go_wp2_with fail
      refine (hfo.out _).mono ?_
      rintro e w' ⟨rfl, rfl⟩
      go_wp2
      go_ret
      exact ⟨ret_int (by rw [show wrap64 (q : Int) = q by unfold wrap64; omega, HQ.out]), rfl⟩

theorem Right_any (w : World) (s : ByteArray) (hs : s.size ≤ 1000000) :
    Calls Try.prog 13 #[.string s] w fun x w' => x = .returned (.bool (decide (sumR s.data.toList = 0))) ∧ w = w' := by
  have H := Lib.hid (fun w => Sum_any w s hs)
  by_cases h : sumR s.data.toList = 0
  · have hd : decide (sumR s.data.toList = 0) = true := by simpa using h
    rw [h] at H
    rw [hd]
    clear hd h
    go_enter Try.func13, Try.ntmps13
    go_wp2_with fail
    refine (H.out _).mono ?_
    rintro e w' ⟨rfl, rfl⟩
    go_wp2
    go_ret
    exact ⟨rfl, rfl⟩
  · have hd : decide (sumR s.data.toList = 0) = false := by simpa using h
    rw [hd]
    have hb : (((sumR s.data.toList : Nat) : Int) == 0) = false := by rw [beq_eq_false_iff_ne]; omega
    clear hd h
    go_enter Try.func13, Try.ntmps13
    go_wp2_with fail
    refine (H.out _).mono ?_
    rintro e w' ⟨rfl, rfl⟩
    go_wp2
    go_ret
    exact ⟨rfl, rfl⟩

set_option maxRecDepth 100000 in
set_option maxHeartbeats 1000000 in
theorem round_any (w : World) (n : Nat) (hn : n < 1000000000000) :
    Calls Try.prog 46 #[.int .i64 n] w fun x w' => x = .returned (.int .i64 (fold16 n)) ∧ w = w' := by
  go_enter Try.func46, Try.ntmps46
  go_wp2
  go_loop [0] (fun v => ∃ m : Nat, v = .int .i64 m ∧ m < 1000000000000 ∧ Hid (fold16 m = fold16 n)) (fun v => (intOf v).toNat)
  case atStart => exact ⟨n, rfl, hn, rfl⟩
  case round =>
    obtain ⟨m, rfl, hm, HF⟩ := hrel
    by_cases hlt : 65536 ≤ m
    · have t1 : decide ((65536 : Int) ≤ (m : Int)) = true := by simp; omega
      have HLT := Lib.hid hlt
      clear hlt
      go_wp2
      go_round
      case rel => exact ⟨m % 65536 + m / 65536, rfl, by omega, (fold16_step HLT.out).trans HF.out⟩
      case measure => have hlt := HLT.out; simp [intOf]; omega
    · have t1 : decide ((65536 : Int) ≤ (m : Int)) = false := by simp; omega
      have HLT := Lib.hid hlt
      clear hlt
      go_wp2
      go_ret
      exact ⟨ret_int (by rw [← HF.out, fold16_small (by have hlt := HLT.out; omega)]), rfl⟩
theorem round_int (w : World) (n : Int) (q : Nat) (hq : n = q) (hn : q < 1000000000000) :
    Calls Try.prog 46 #[.int .i64 n] w fun x w' => x = .returned (.int .i64 (fold16 q)) ∧ w = w' := by
  subst hq; exact round_any w q hn

set_option maxRecDepth 100000 in
set_option maxHeartbeats 4000000 in
theorem rSum_any (w : World) (s : ByteArray) (hs : s.size ≤ 1000000) :
    Calls Try.prog 33 #[.string s] w fun x w' => x = .returned (.int .i64 (sumR s.data.toList)) ∧ w = w' := by
  have HL := Lib.hid (size_data s)
  have hget : ∀ k, k < s.size → ∃ b : Nat, b ≤ 255 ∧ (∀ h : k < s.size, (s[k]'h).toNat = b) ∧ wS 0 (s.data.toList.take (k + 1)) = wS 0 (s.data.toList.take k) + (if k % 2 = 0 then 256 * b else b) := by
    intro k hk
    refine ⟨(s.data.toList.getD k 0).toNat, ?_, ?_, ?_⟩
    · have := (s.data.toList.getD k 0).toNat_lt; omega
    · intro h
      have : s.data.toList.getD k 0 = s[k]'h := by
        rw [List.getD_eq_getElem?_getD, List.getElem?_eq_getElem (by rw [HL.out]; exact h)]; rfl
      rw [this]
    · have := wS_snoc (s.data.toList.take k) (s.data.toList.getD k 0)
      rw [← take_snoc' _ _ (by rw [HL.out]; omega), List.length_take, HL.out, Nat.min_eq_left (by omega)] at this
      exact this
  have HG := Lib.hid hget
  clear hget
  go_enter Try.func33, Try.ntmps33
  go_wp2
  go_loop [3, 4] (fun nv iv => ∃ k m : Nat, (k ≤ s.size + 1) ∧ k % 2 = 0 ∧ iv = .int .i64 k ∧ nv = .int .i64 m ∧ m ≤ 65535 ∧ Hid (m = fold16 (wS 0 (s.data.toList.take k)))) (fun _ iv => s.size + 1 - (intOf iv).toNat)
  case atStart => exact ⟨0, 0, Nat.zero_le _, rfl, rfl, rfl, Nat.zero_le _, rfl⟩
  case round =>
    obtain ⟨k, m, hk, hev, rfl, rfl, hm, HF⟩ := hrel
    have Hev := Lib.hid hev
    clear hev
    by_cases hlt : k < s.size
    · obtain ⟨b, hb1, hbb, hS⟩ := HG.out k hlt
      have hbk := hbb hlt
      rw [if_pos Hev.out] at hS
      have HS := Lib.hid hS
      clear hbb hS
      by_cases h2 : k + 1 < s.size
      · obtain ⟨c, hc1, hcc, hT⟩ := HG.out (k + 1) h2
        have hck := hcc h2
        rw [if_neg (by have := Hev.out; omega)] at hT
        have HT := Lib.hid hT
        clear hcc hT
        have hR := Lib.hid (fun w => round_int w ((m : Int) + 256 * b + c) (m + 256 * b + c) (by omega) (by omega))
        have hfl := fold16_lt (m + 256 * b + c)
        have HQ : Hid (fold16 (m + 256 * b + c) = fold16 (wS 0 (s.data.toList.take (k + 2)))) := by
          show _ = _
          rw [show k + 2 = k + 1 + 1 from rfl, HT.out, HS.out, Nat.add_assoc, Nat.add_assoc]
          refine fold16_add ?_ _
          rw [HF.out, fold16_idem]
        clear HS HT HF
        go_wp2_with fail
        refine (hR.out _).mono ?_
        rintro e w' ⟨rfl, rfl⟩
        go_wp2
        go_round
        case rel => exact ⟨k + 2, fold16 (m + 256 * b + c), by omega, by have := Hev.out; omega, by go_num, rfl, by omega, HQ.out⟩
        case measure => simp [intOf]; omega
      · have hR := Lib.hid (fun w => round_int w ((m : Int) + 256 * b) (m + 256 * b) (by omega) (by omega))
        have hfl := fold16_lt (m + 256 * b)
        have HQ : Hid (fold16 (m + 256 * b) = fold16 (wS 0 (s.data.toList.take (k + 2)))) := by
          show _ = _
          have e1 : s.data.toList.take (k + 2) = s.data.toList.take (k + 1) := by
            rw [List.take_of_length_le (by rw [HL.out]; omega), List.take_of_length_le (by rw [HL.out]; omega)]
          rw [e1, HS.out]
          refine fold16_add ?_ _
          rw [HF.out, fold16_idem]
        have t2 : decide ((k : Int) + 1 < (s.size : Int)) = false := by simp; omega
        clear HS HF
        go_wp2_with fail
        refine (hR.out _).mono ?_
        rintro e w' ⟨rfl, rfl⟩
        go_wp2
        go_round
        case rel => exact ⟨k + 2, fold16 (m + 256 * b), by omega, by have := Hev.out; omega, by go_num, rfl, by omega, HQ.out⟩
        case measure => simp [intOf]; omega
    · have HE : Hid (65535 - m = sumR s.data.toList) := by
        show _ = _
        unfold sumR
        rw [HF.out, List.take_of_length_le (by rw [HL.out]; omega)]
      clear HF
      go_wp2
      go_ret
      exact ⟨ret_int (by rw [← HE.out]; omega), rfl⟩

end Go.Proofs.Ythihncfmimkimaa
