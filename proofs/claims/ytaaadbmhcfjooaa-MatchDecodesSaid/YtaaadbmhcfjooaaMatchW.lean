/- The reference's Num and named. -/
import Derived.Test.YtaaadbmhcfjooaaMatchV
import Derived.Test.YtaaadbmhcfjooaaMatchQ
namespace Go.Proofs.Ytaaadbmhcfjooaa
open Go.RowKit
set_option linter.unusedVariables false

set_option maxRecDepth 100000 in
set_option maxHeartbeats 4000000 in
theorem rNum_any (w : World) (l : List UInt8) (hl : l.length ≤ 1000000) :
    Calls Try.prog 48 #[.string (str l)] w fun x w' => x = .returned (.int .u64 (numG l)) ∧ w = w' := by
  have HS := Lib.hid (fun k (h : k < l.length) => take_snoc' l k h)
  go_enter Try.func48, Try.ntmps48
  go_wp2
  go_loop [3, 4] (fun nv iv => ∃ k : Nat, k ≤ l.length ∧ iv = .int .i64 k ∧ nv = .int .u64 (numG (l.take k))) (fun _ iv => l.length - (intOf iv).toNat)
  case atStart => exact ⟨0, Nat.zero_le _, rfl, rfl⟩
  case round =>
    obtain ⟨k, hk, rfl, rfl⟩ := hrel
    by_cases hlt : k < l.length
    · obtain ⟨b, hb0, hb1, hbb, HN⟩ : ∃ b : Nat, 0 ≤ b ∧ b ≤ 255 ∧ (l[k]'hlt).toNat = b ∧
          Hid (numG (l.take (k + 1)) = Go.bits .or .u64 (IntKind.u64.wrap (numG (l.take k) * 256)) b) := by
        refine ⟨(l[k]'hlt).toNat, Nat.zero_le _, ?_, rfl, ?_⟩
        · have := (l[k]'hlt).toNat_lt; omega
        · refine Lib.hid ?_
          rw [HS.out k hlt, numG_snoc]
          have : l.getD k 0 = l[k]'hlt := by rw [List.getD_eq_getElem?_getD, List.getElem?_eq_getElem hlt]; rfl
          rw [this]
      have d1 : decide (k < l.length) = true := by simpa using hlt
      have hU := numG_U64 (l.take k)
      obtain ⟨u0, u1⟩ := hU
      generalize numG (l.take k) = n0 at *
      go_wp2
      go_round
      case rel => exact ⟨k + 1, hlt, by go_num, by rw [HN.out]⟩
      case measure => simp [intOf]; omega
    · have d1 : decide (k < l.length) = false := by simpa using hlt
      have e : numG (l.take k) = numG l := by rw [List.take_of_length_le (by omega)]
      rw [e]
      clear e
      go_wp2
      go_ret
      exact ⟨rfl, rfl⟩

theorem isC_at (c : Int) (k : Nat) (n : Int) (hk : k < 9) (hn : n = ([0, 2, 6, 5, 11, 12, 10, 13, 14] : List Int).getD k 0) : isC c (k + 1) = (c == n || (decide (7 ≤ k) && c == n + 2)) := by
  subst hn
  rcases (by omega : k = 0 ∨ k = 1 ∨ k = 2 ∨ k = 3 ∨ k = 4 ∨ k = 5 ∨ k = 6 ∨ k = 7 ∨ k = 8) with rfl | rfl | rfl | rfl | rfl | rfl | rfl | rfl | rfl
  case inr.inr.inr.inr.inr.inr.inr.inl => rfl
  case inr.inr.inr.inr.inr.inr.inr.inr => rfl
  all_goals
    show (_ || _) = _
    simp only [Nat.reduceLeDiff, decide_false, Bool.false_and, Bool.or_false]
    exact Bool.or_self _
set_option maxRecDepth 100000 in
set_option maxHeartbeats 8000000 in
theorem rNamed_any (w : World) (c : Int) (h0 : 0 ≤ c) (h1 : c ≤ 255) : Calls Try.prog 49 #[.int .i64 c] w fun x w' => x = .returned (.int .i64 (namedF c)) ∧ Below w.heap.size w w' := by
  go_enter Try.func49, Try.ntmps49
  go_wp2_with fail
  go_loopw [3] (fun iv wr => ∃ k : Nat, k ≤ 9 ∧ iv = .int .i64 ((k + 1 : Nat) : Int) ∧ Hid (Below w.heap.size w wr) ∧ Hid (∀ j, j < k → isC c (j + 1) = false)) (fun iv _ => 10 - (intOf iv).toNat)
  case atStart => exact ⟨0, Nat.zero_le _, rfl, Lib.hid (Below.refl _ w), Lib.hid (fun j hj => absurd hj (Nat.not_lt_zero _))⟩
  case round =>
    obtain ⟨k, hk, rfl, hb, hq⟩ := hrel
    by_cases hlt : k < 9
    · have HA := Lib.hid (fun h1 => namedF_at c k hlt h1 hq.out)
      have HN : Hid (isC c (k + 1) = false → ∀ j, j < k + 1 → isC c (j + 1) = false) := by
        show _
        intro h j hj
        by_cases e : j = k
        · subst e; exact h
        · exact hq.out j (by omega)
      have HI := Lib.hid (isC_at c k _ hlt rfl)
      have HBn : Hid (∀ o, Below w.heap.size w (wr.alloc o)) := Lib.hid (fun o => hb.out.trans ((Below.refl wr.heap.size wr).alloc (Nat.le_refl _) o |>.mono hb.out.size))
      clear hq
      rcases (by omega : k = 0 ∨ k = 1 ∨ k = 2 ∨ k = 3 ∨ k = 4 ∨ k = 5 ∨ k = 6 ∨ k = 7 ∨ k = 8) with rfl | rfl | rfl | rfl | rfl | rfl | rfl | rfl | rfl
      · by_cases e : c = 0
        · subst e
          have HR : Hid (namedF 0 = 1) := Lib.hid (HA.out (by rw [HI.out]; decide))
          clear HA HN HI
          go_wp2_with fail
          go_ret
          exact ⟨by rw [HR.out]; rfl, HBn.out _⟩
        have t1 : (c == 0) = false := beq_eq_false_iff_ne.mpr e
        have HR := Lib.hid (HN.out (by rw [HI.out]; show (c == 0 || _) = false; rw [t1]; rfl))
        clear e HA HN HI
        go_wp2_with fail
        go_roundw
        case rel => exact ⟨1, by omega, rfl, Lib.hid (HBn.out _), HR⟩
        case measure => simp [intOf]
      · by_cases e : c = 2
        · subst e
          have HR : Hid (namedF 2 = 2) := Lib.hid (HA.out (by rw [HI.out]; decide))
          clear HA HN HI
          go_wp2_with fail
          go_ret
          exact ⟨by rw [HR.out]; rfl, HBn.out _⟩
        have t1 : (c == 2) = false := beq_eq_false_iff_ne.mpr e
        have HR := Lib.hid (HN.out (by rw [HI.out]; show (c == 2 || _) = false; rw [t1]; rfl))
        clear e HA HN HI
        go_wp2_with fail
        go_roundw
        case rel => exact ⟨2, by omega, rfl, Lib.hid (HBn.out _), HR⟩
        case measure => simp [intOf]
      · by_cases e : c = 6
        · subst e
          have HR : Hid (namedF 6 = 3) := Lib.hid (HA.out (by rw [HI.out]; decide))
          clear HA HN HI
          go_wp2_with fail
          go_ret
          exact ⟨by rw [HR.out]; rfl, HBn.out _⟩
        have t1 : (c == 6) = false := beq_eq_false_iff_ne.mpr e
        have HR := Lib.hid (HN.out (by rw [HI.out]; show (c == 6 || _) = false; rw [t1]; rfl))
        clear e HA HN HI
        go_wp2_with fail
        go_roundw
        case rel => exact ⟨3, by omega, rfl, Lib.hid (HBn.out _), HR⟩
        case measure => simp [intOf]
      · by_cases e : c = 5
        · subst e
          have HR : Hid (namedF 5 = 4) := Lib.hid (HA.out (by rw [HI.out]; decide))
          clear HA HN HI
          go_wp2_with fail
          go_ret
          exact ⟨by rw [HR.out]; rfl, HBn.out _⟩
        have t1 : (c == 5) = false := beq_eq_false_iff_ne.mpr e
        have HR := Lib.hid (HN.out (by rw [HI.out]; show (c == 5 || _) = false; rw [t1]; rfl))
        clear e HA HN HI
        go_wp2_with fail
        go_roundw
        case rel => exact ⟨4, by omega, rfl, Lib.hid (HBn.out _), HR⟩
        case measure => simp [intOf]
      · by_cases e : c = 11
        · subst e
          have HR : Hid (namedF 11 = 5) := Lib.hid (HA.out (by rw [HI.out]; decide))
          clear HA HN HI
          go_wp2_with fail
          go_ret
          exact ⟨by rw [HR.out]; rfl, HBn.out _⟩
        have t1 : (c == 11) = false := beq_eq_false_iff_ne.mpr e
        have HR := Lib.hid (HN.out (by rw [HI.out]; show (c == 11 || _) = false; rw [t1]; rfl))
        clear e HA HN HI
        go_wp2_with fail
        go_roundw
        case rel => exact ⟨5, by omega, rfl, Lib.hid (HBn.out _), HR⟩
        case measure => simp [intOf]
      · by_cases e : c = 12
        · subst e
          have HR : Hid (namedF 12 = 6) := Lib.hid (HA.out (by rw [HI.out]; decide))
          clear HA HN HI
          go_wp2_with fail
          go_ret
          exact ⟨by rw [HR.out]; rfl, HBn.out _⟩
        have t1 : (c == 12) = false := beq_eq_false_iff_ne.mpr e
        have HR := Lib.hid (HN.out (by rw [HI.out]; show (c == 12 || _) = false; rw [t1]; rfl))
        clear e HA HN HI
        go_wp2_with fail
        go_roundw
        case rel => exact ⟨6, by omega, rfl, Lib.hid (HBn.out _), HR⟩
        case measure => simp [intOf]
      · by_cases e : c = 10
        · subst e
          have HR : Hid (namedF 10 = 7) := Lib.hid (HA.out (by rw [HI.out]; decide))
          clear HA HN HI
          go_wp2_with fail
          go_ret
          exact ⟨by rw [HR.out]; rfl, HBn.out _⟩
        have t1 : (c == 10) = false := beq_eq_false_iff_ne.mpr e
        have HR := Lib.hid (HN.out (by rw [HI.out]; show (c == 10 || _) = false; rw [t1]; rfl))
        clear e HA HN HI
        go_wp2_with fail
        go_roundw
        case rel => exact ⟨7, by omega, rfl, Lib.hid (HBn.out _), HR⟩
        case measure => simp [intOf]
      · by_cases e : c = 13
        · subst e
          have HR : Hid (namedF 13 = 8) := Lib.hid (HA.out (by rw [HI.out]; decide))
          clear HA HN HI
          go_wp2_with fail
          go_ret
          exact ⟨by rw [HR.out]; rfl, HBn.out _⟩
        have t1 : (c == 13) = false := beq_eq_false_iff_ne.mpr e
        by_cases e2 : c = 15
        · subst e2
          have HR : Hid (namedF 15 = 8) := Lib.hid (HA.out (by rw [HI.out]; decide))
          clear HA HN HI
          go_wp2_with fail
          go_ret
          exact ⟨by rw [HR.out]; rfl, HBn.out _⟩
        have t2 : (c == 15) = false := beq_eq_false_iff_ne.mpr e2
        have HR := Lib.hid (HN.out (by rw [HI.out]; show (c == 13 || (_ && c == 15)) = false; rw [t1, t2]; rfl))
        clear e2
        clear e HA HN HI
        go_wp2_with fail
        go_roundw
        case rel => exact ⟨8, by omega, rfl, Lib.hid (HBn.out _), HR⟩
        case measure => simp [intOf]
      · by_cases e : c = 14
        · subst e
          have HR : Hid (namedF 14 = 9) := Lib.hid (HA.out (by rw [HI.out]; decide))
          clear HA HN HI
          go_wp2_with fail
          go_ret
          exact ⟨by rw [HR.out]; rfl, HBn.out _⟩
        have t1 : (c == 14) = false := beq_eq_false_iff_ne.mpr e
        by_cases e2 : c = 16
        · subst e2
          have HR : Hid (namedF 16 = 9) := Lib.hid (HA.out (by rw [HI.out]; decide))
          clear HA HN HI
          go_wp2_with fail
          go_ret
          exact ⟨by rw [HR.out]; rfl, HBn.out _⟩
        have t2 : (c == 16) = false := beq_eq_false_iff_ne.mpr e2
        have HR := Lib.hid (HN.out (by rw [HI.out]; show (c == 14 || (_ && c == 16)) = false; rw [t1, t2]; rfl))
        clear e2
        clear e HA HN HI
        go_wp2_with fail
        go_roundw
        case rel => exact ⟨9, by omega, rfl, Lib.hid (HBn.out _), HR⟩
        case measure => simp [intOf]
    · obtain rfl : k = 9 := by omega
      have HRES := Lib.hid (namedF_none c (fun j hj => hq.out j (by omega)))
      clear hq
      go_wp2
      go_ret
      exact ⟨by rw [HRES.out]; rfl, hb.out⟩
end Go.Proofs.Ytaaadbmhcfjooaa
