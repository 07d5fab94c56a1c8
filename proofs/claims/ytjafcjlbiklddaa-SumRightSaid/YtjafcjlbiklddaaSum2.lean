/- The walks of sum.Join, of the reference, and of the chapter's examples. -/
import Derived.Test.YtjafcjlbiklddaaSum
namespace Go.Proofs.Ytjafcjlbiklddaa
open Go.RowKit
set_option linter.unusedVariables false

set_option maxRecDepth 100000 in
set_option maxHeartbeats 4000000 in
theorem rSum_any (w : World) (s : ByteArray) (hs : s.size ≤ 1000000) :
    Calls Try.prog 10 #[.string s] w fun x w' => x = .returned (.int .i64 (sumR s.data.toList)) ∧ w = w' := by
  have HL := Lib.hid (size_data s)
  have hget : ∀ k, k < s.size → ∃ b : Nat, b ≤ 255 ∧ (∀ h : k < s.size, (s[k]'h).toNat = b) ∧ wS 0 (s.data.toList.take (k + 1)) = wS 0 (s.data.toList.take k) + (if k % 2 = 0 then 256 * b else b) := by
    intro k hk
    refine ⟨(s.data.toList.getD k 0).toNat, ?_, ?_, ?_⟩
    · have := (s.data.toList.getD k 0).toNat_lt; omega
    · intro h
      have : s.data.toList.getD k 0 = s[k]'h := by
        rw [List.getD_eq_getElem?_getD, List.getElem?_eq_getElem (by rw [HL.out]; exact h)]; rfl
      rw [this]
    · have := wS_snoc (s.data.toList.take k) (s.data.toList.getD k 0)
      rw [← take_snoc' _ _ (by rw [HL.out]; omega), List.length_take, HL.out, Nat.min_eq_left (by omega)] at this
      exact this
  have HG := Lib.hid hget
  clear hget
  go_enter Try.func10, Try.ntmps10
  go_wp2
  go_loop [3, 4] (fun nv iv => ∃ k m : Nat, (k ≤ s.size + 1) ∧ k % 2 = 0 ∧ iv = .int .i64 k ∧ nv = .int .i64 m ∧ m ≤ 65535 ∧ Hid (m = fold16 (wS 0 (s.data.toList.take k)))) (fun _ iv => s.size + 1 - (intOf iv).toNat)
  case atStart => exact ⟨0, 0, Nat.zero_le _, rfl, rfl, rfl, Nat.zero_le _, rfl⟩
  case round =>
    obtain ⟨k, m, hk, hev, rfl, rfl, hm, HF⟩ := hrel
    have Hev := Lib.hid hev
    clear hev
    by_cases hlt : k < s.size
    · obtain ⟨b, hb1, hbb, hS⟩ := HG.out k hlt
      have hbk := hbb hlt
      rw [if_pos Hev.out] at hS
      have HS := Lib.hid hS
      clear hbb hS
      by_cases h2 : k + 1 < s.size
      · obtain ⟨c, hc1, hcc, hT⟩ := HG.out (k + 1) h2
        have hck := hcc h2
        rw [if_neg (by have := Hev.out; omega)] at hT
        have HT := Lib.hid hT
        clear hcc hT
        have hR := Lib.hid (fun w => round_int w ((m : Int) + 256 * b + c) (m + 256 * b + c) (by omega) (by omega))
        have hfl := fold16_lt (m + 256 * b + c)
        have HQ : Hid (fold16 (m + 256 * b + c) = fold16 (wS 0 (s.data.toList.take (k + 2)))) := by
          show _ = _
          rw [show k + 2 = k + 1 + 1 from rfl, HT.out, HS.out, Nat.add_assoc, Nat.add_assoc]
          refine fold16_add ?_ _
          rw [HF.out, fold16_idem]
        clear HS HT HF
        go_wp2_with fail
        refine (hR.out _).mono ?_
        rintro e w' ⟨rfl, rfl⟩
        go_wp2
        go_round
        case rel => exact ⟨k + 2, fold16 (m + 256 * b + c), by omega, by have := Hev.out; omega, by go_num, rfl, by omega, HQ.out⟩
        case measure => simp [intOf]; omega
      · have hR := Lib.hid (fun w => round_int w ((m : Int) + 256 * b) (m + 256 * b) (by omega) (by omega))
        have hfl := fold16_lt (m + 256 * b)
        have HQ : Hid (fold16 (m + 256 * b) = fold16 (wS 0 (s.data.toList.take (k + 2)))) := by
          show _ = _
          have e1 : s.data.toList.take (k + 2) = s.data.toList.take (k + 1) := by
            rw [List.take_of_length_le (by rw [HL.out]; omega), List.take_of_length_le (by rw [HL.out]; omega)]
          rw [e1, HS.out]
          refine fold16_add ?_ _
          rw [HF.out, fold16_idem]
        have t2 : decide ((k : Int) + 1 < (s.size : Int)) = false := by simp; omega
        clear HS HF
        go_wp2_with fail
        refine (hR.out _).mono ?_
        rintro e w' ⟨rfl, rfl⟩
        go_wp2
        go_round
        case rel => exact ⟨k + 2, fold16 (m + 256 * b), by omega, by have := Hev.out; omega, by go_num, rfl, by omega, HQ.out⟩
        case measure => simp [intOf]; omega
    · have HE : Hid (65535 - m = sumR s.data.toList) := by
        show _ = _
        unfold sumR
        rw [HF.out, List.take_of_length_le (by rw [HL.out]; omega)]
      clear HF
      go_wp2
      go_ret
      exact ⟨ret_int (by rw [← HE.out]; omega), rfl⟩

theorem swap_or (y : Nat) (h : y < 65536) : Go.bits .or .u16 ((y / 256 : Nat) : Int) ((y % 256 * 256 : Nat) : Int) = ((swap16 y : Nat) : Int) := by
  rw [u16_or_nat _ _ (by omega) (by omega)]
  have := Nat.two_pow_add_eq_or_of_lt (i := 8) (b := y / 256) (by omega) (y % 256)
  rw [Nat.or_comm]
  have e : 2 ^ 8 * (y % 256) = y % 256 * 256 := by omega
  rw [e] at this
  rw [← this]; rfl
theorem swap16_lt (y : Nat) (h : y < 65536) : swap16 y < 65536 := by unfold swap16; omega
theorem rev_any (w : World) (y : Nat) (h : y < 65536) :
    Calls Try.prog 16 #[.int .u16 y] w fun x w' => x = .returned (.int .u16 (swap16 y)) ∧ w = w' := by
  have h1 := swap_or y h
  have h2 : IntKind.u16.wrap ((y : Int) * 256) = ((y % 256 * 256 : Nat) : Int) := by
    have : IntKind.u16.wrap ((y : Int) * 256) = ((y : Int) * 256) % 65536 := by simp [IntKind.wrap, IntKind.bits, IntKind.signed]
    omega
  have h3 : (y : Int) / 256 = ((y / 256 : Nat) : Int) := by omega
  have H := Lib.hid (And.intro h1 (And.intro h2 h3))
  clear h1 h2 h3
  go_enter Try.func16, Try.ntmps16
  go_wp2
  go_ret
  exact ⟨ret_int (by rw [H.out.2.1, H.out.2.2]; exact H.out.1), rfl⟩

theorem wrap64_small {q : Nat} (h : q ≤ 65535) : wrap64 (q : Int) = q := by unfold wrap64; omega
/-- The check sum of two, of what their complements are. -/
def joinR (x y : Nat) (odd : Bool) : Nat := 65535 - fold16 (x + if odd then swap16 y else y)
def compl (a : Int) : Nat := 65535 - (a % 65536).toNat
theorem compl_lt (a : Int) : compl a < 65536 := by unfold compl; omega
theorem compl_bits (a : Int) : Go.bits .xor .u16 IntKind.u16.max (IntKind.u16.wrap a) = (compl a : Int) := by
  have h : IntKind.u16.wrap a = (((a % 65536).toNat : Nat) : Int) := by
    have : IntKind.u16.wrap a = a % 65536 := by simp [IntKind.wrap, IntKind.bits, IntKind.signed]
    omega
  rw [h, not16 _ (by omega)]; rfl

set_option maxHeartbeats 1000000 in
theorem Join_any (w : World) (a b : Int) (odd : Bool) :
    Calls Try.prog 12 #[.int .i64 a, .int .i64 b, .bool odd] w fun x w' => x = .returned (.int .i64 (joinR (compl a) (compl b) odd)) ∧ w = w' := by
  have hx := compl_bits a
  have hy := compl_bits b
  have lx := compl_lt a
  have ly := compl_lt b
  generalize compl a = x at *
  generalize compl b = y at *
  cases odd with
  | true =>
    have hrev := Lib.hid (fun w => rev_any w y ly)
    have ls := swap16_lt y ly
    have hf := Lib.hid (fun w => folded_int w ((x : Int) + (swap16 y : Nat)) (x + swap16 y) (by omega) (by omega))
    have hfl := fold16_lt (x + swap16 y)
    obtain ⟨q, HQ, hql, hz⟩ : ∃ q : Nat, Hid (q = joinR x y true) ∧ q ≤ 65535 ∧ Go.bits .xor .u16 IntKind.u16.max ((fold16 (x + swap16 y) : Nat) : Int) = (q : Int) := ⟨_, rfl, by unfold joinR; omega, not16 _ hfl⟩
    go_enter Try.func12, Try.ntmps12
    go_wp2_with fail
    refine (hrev.out _).mono ?_
    rintro e w' ⟨rfl, rfl⟩
    go_wp2_with fail
    refine (hf.out _).mono ?_
    rintro e w' ⟨rfl, rfl⟩
    go_wp2
    go_ret
    exact ⟨ret_int (by rw [HQ.out]), rfl⟩
  | false =>
    have hfl := fold16_lt (x + y)
    obtain ⟨q, HQ, hql, hz⟩ : ∃ q : Nat, Hid (q = joinR x y false) ∧ q ≤ 65535 ∧ Go.bits .xor .u16 IntKind.u16.max ((fold16 (x + y) : Nat) : Int) = (q : Int) := ⟨_, rfl, by unfold joinR; omega, not16 _ hfl⟩
    go_enter Try.func12, Try.ntmps12
    go_wp2_with fail
    refine (folded_int _ _ (x + y) ?_ (by omega)).mono ?_
    · trace_state
      first | rfl | (simp only [IntKind.wrap_u64]; omega)
    rintro e w' ⟨rfl, rfl⟩
    go_wp2
    go_ret
    exact ⟨ret_int (by rw [HQ.out]), rfl⟩

theorem i64_and16 (n : Int) : Go.bits .and .i64 n 65535 = n % 65536 := by
  have h1 : (BitVec.ofInt 64 65535).toNat = 2 ^ 16 - 1 := by decide
  have key : (BitVec.ofInt 64 n &&& BitVec.ofInt 64 65535).toNat = (n % ((2 ^ 64 : Nat) : Int)).toNat % 2 ^ 16 := by
    rw [BitVec.toNat_and, BitVec.toNat_ofInt, h1, Nat.and_two_pow_sub_one_eq_mod]
  show IntKind.i64.wrap ((BitVec.ofInt 64 n &&& BitVec.ofInt 64 65535).toNat : Nat) = n % 65536
  rw [key, IntKind.wrap_i64]
  omega
set_option maxHeartbeats 1000000 in
theorem rJoin_any (w : World) (a b : Int) (odd : Bool) :
    Calls Try.prog 13 #[.int .i64 a, .int .i64 b, .bool odd] w fun x w' => x = .returned (.int .i64 (joinR (compl a) (compl b) odd)) ∧ w = w' := by
  obtain ⟨x, lx, hx, hx2⟩ : ∃ x : Nat, x ≤ 65535 ∧ Go.bits .and .i64 a 65535 = 65535 - (x : Int) ∧ compl a = x := ⟨compl a, by have := compl_lt a; omega, by rw [i64_and16]; unfold compl; omega, rfl⟩
  obtain ⟨y, ly, hy, hy2⟩ : ∃ x : Nat, x ≤ 65535 ∧ Go.bits .and .i64 b 65535 = 65535 - (x : Int) ∧ compl b = x := ⟨compl b, by have := compl_lt b; omega, by rw [i64_and16]; unfold compl; omega, rfl⟩
  rw [hx2, hy2]
  clear hx2 hy2
  cases odd with
  | true =>
    have hfl := fold16_lt (x + swap16 y)
    have hsl := swap16_lt y (by omega)
    have HS : Hid (swap16 y = y % 256 * 256 + y / 256) := rfl
    go_enter Try.func13, Try.ntmps13
    go_wp2_with fail
    refine (round_int _ _ (x + swap16 y) ?_ (by omega)).mono ?_
    · rw [HS.out]; omega
    rintro e w' ⟨rfl, rfl⟩
    go_wp2
    go_ret
    exact ⟨ret_int (by unfold joinR; simp; omega), rfl⟩
  | false =>
    have hfl := fold16_lt (x + y)
    go_enter Try.func13, Try.ntmps13
    go_wp2_with fail
    refine (round_int _ _ (x + y) ?_ (by omega)).mono ?_
    · omega
    rintro e w' ⟨rfl, rfl⟩
    go_wp2
    go_ret
    exact ⟨ret_int (by unfold joinR; simp; omega), rfl⟩

theorem awake02 (w : World) : Calls Try.prog 8 #[] w fun x w' => x = .returned (.bool true) ∧ w = w' := by
  have H1 := Lib.hid (fun w => Sum_any w ⟨#[0, 1, 242, 3, 244, 245, 246, 247]⟩ (by decide))
  have H2 := Lib.hid (fun w => Sum_any w ⟨#[]⟩ (by decide))
  have e1 : sumR (ByteArray.mk #[0, 1, 242, 3, 244, 245, 246, 247]).data.toList = 8717 := by decide
  have e2 : sumR (ByteArray.mk #[]).data.toList = 65535 := by decide
  rw [e1] at H1
  rw [e2] at H2
  clear e1 e2
  go_enter Try.func8, Try.ntmps8
  go_wp2_with fail
  refine (H1.out _).mono ?_
  rintro e w' ⟨rfl, rfl⟩
  go_wp2_with fail
  refine (H2.out _).mono ?_
  rintro e w' ⟨rfl, rfl⟩
  go_wp2
  go_ret
  exact ⟨rfl, rfl⟩
end Go.Proofs.Ytjafcjlbiklddaa
