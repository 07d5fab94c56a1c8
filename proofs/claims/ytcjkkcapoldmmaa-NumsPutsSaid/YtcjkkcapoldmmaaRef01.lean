/- The walk of the reference's Put. -/
import Derived.Test.YtcjkkcapoldmmaaPut
import Derived.Test.YtcjkkcapoldmmaaOwn
namespace Go.Proofs.Ytcjkkcapoldmmaa
open Go.RowKit
set_option linter.unusedVariables false

/-- The first k bytes of a number in 'size' of them, as numbers. -/
def preL (n : Int) (size k : Nat) : List Int := (List.range k).map fun j => n / 2 ^ (8 * (size - 1 - j)) % 256
theorem preL_succ (n : Int) (size k : Nat) : preL n size (k + 1) = preL n size k ++ [n / 2 ^ (8 * (size - 1 - k)) % 256] := by simp [preL, List.range_succ]
theorem preL_length (n : Int) (size k : Nat) : (preL n size k).length = k := by simp [preL]
theorem preL_all (n : Int) (size : Nat) : preL n size size = fillL n size size := by
  apply List.ext_getElem?
  intro i
  by_cases hi : i < size
  · rw [fillL_get n size size i (Nat.le_refl _) hi (by omega)]
    simp [preL, hi]
  · rw [List.getElem?_eq_none (by rw [preL_length]; omega), List.getElem?_eq_none (by rw [fillL_length]; omega)]
theorem own_str {P : Program} {w : World} {B : Nat} {e' src dst e : TypeId} {v : Value} {xs : List Int} (hs : P.underlying src = some (.slice e)) (he : P.underlying e = some (.int .u8)) (hd : P.underlying dst = some .string)
    (h : OwnL w B e' 1 encU8 v xs) : (convert src dst v).run P w = .ok (.string (strOfNums xs)) w := by
  rcases h.form encU8_len with ⟨rfl, rfl⟩ | ⟨g, cap, rfl, _, _, _, _, _, hc⟩
  · exact run_convert_bytes_nil w src e hs he 0 0 dst hd
  · refine run_convert_bytes_arg w src e hs he g 0 _ cap xs rfl (fun i hi => ?_) dst hd
    have := hc i 0 (.int .u8 xs[i]) hi rfl
    simpa [List.getD, hi] using this

set_option maxRecDepth 100000 in
set_option maxHeartbeats 4000000 in
theorem rPut_loop (w : World) (n : Int) (c : Nat) (h0 : 0 ≤ n) (hc : 1 ≤ c) (hc8 : c ≤ 8) (bad : Bool) (hbad : c < 8 → decide (0 < n / 2 ^ (8 * c)) = bad) (hb8 : c = 8 → bad = false) :
    Calls Try.prog 9 #[.int .u64 n, .int .i64 c] w fun x w' => x = .returned (.tuple #[.string (if bad then ⟨#[]⟩ else strOfNums (fillL n c c)), .int .i64 (if bad then 1 else 0)]) ∧ Below w.heap.size w w' := by
  have hBW := Lib.hid (Below.refl w.heap.size w)
  have t1 : decide ((c : Int) < 1) = false := by simp; omega
  have t2 : decide (8 < (c : Int)) = false := by simp; omega
  have hcase : (∃ x : Unit, decide ((c : Int) < 8) = true ∧ decide (0 < n / 2 ^ (8 * c)) = bad) ∨ (∃ x : Unit, decide ((c : Int) < 8) = false ∧ bad = false) := by
    by_cases h8 : c < 8
    · exact .inl ⟨(), by simp; omega, hbad h8⟩
    · exact .inr ⟨(), by simp; omega, hb8 (by omega)⟩
  have HC := Lib.hid hcase
  clear hcase hbad hb8
  go_enter Try.func9, Try.ntmps9
  go_wp2
  generalize hB : w.heap.size = B at *
  go_loopw [6, 7] (fun v iv wr => ∃ k : Nat, k ≤ c ∧ iv = .int .i64 ((c : Int) - 1 - k) ∧ OwnL wr B 5 1 encU8 v (preL n c k) ∧ Below B w wr) (fun _ iv _ => (intOf iv + 1).toNat)
  case atStart => exact ⟨0, Nat.zero_le _, by simp, OwnL.nil _ _ _ _ _, hBW.out⟩
  case round =>
    obtain ⟨k, hk, rfl, hown, hbw⟩ := hrel
    by_cases hlt : k < c
    · have Hown := Lib.hid hown
      have Hbw := Lib.hid hbw
      clear hown hbw
      go_wp2_with (at_builtin; go_must (refine app_one Hown.out (n / 2 ^ (8 * (c - 1 - k)) % 256) Try.underlying44 putInfo rfl (by decide) encU8_len encU8_one rfl rfl rfl rfl ?c1 ?c2 ?c3 ?_))
      case c1 => rw [preL_length]; omega
      case c2 => rw [preL_length]; omega
      case c3 => rw [← hB]; exact Hbw.out.size
      intro v' w1 hown1 hgrow _
      rw [← preL_succ] at hown1
      have Hown1 := Lib.hid hown1
      have Hb1 := Lib.hid (below_grown Hbw.out hgrow (by rw [← hB]; exact Hbw.out.size) Hown.out)
      clear hown1 hgrow Hown Hbw
      go_wp2
      go_roundw
      case rel => exact ⟨k + 1, by omega, by go_num, Hown1.out, Hb1.out⟩
      case measure => simp [intOf]; omega
    · obtain rfl : k = c := by omega
      rw [preL_all] at hown
      have hcv := own_str (P := Try.prog) Try.underlying44 Try.underlying5 Try.underlying9 hown
      have Hbw := Lib.hid hbw
      clear hown hbw
      subst hB
      rcases HC.out with ⟨_, t3, t4⟩ | ⟨_, t3, t4⟩
      · cases bad with
        | true =>
          go_wp2
          go_ret2
          exact ⟨rfl, Hbw.out⟩
        | false =>
          go_wp2
          go_ret2
          exact ⟨rfl, Hbw.out⟩
      · subst t4
        go_wp2
        go_ret2
        exact ⟨rfl, Hbw.out⟩

theorem rPut_no (w : World) (n s : Int) (hs : s < 1 ∨ 8 < s) :
    Calls Try.prog 9 #[.int .u64 n, .int .i64 s] w fun x w' => x = .returned (.tuple #[.string ⟨#[]⟩, .int .i64 1]) ∧ w = w' := by
  rcases hs with h | h
  · have t1 : decide (s < 1) = true := by simpa using h
    go_enter Try.func9, Try.ntmps9
    go_wp2
    go_ret2
    exact ⟨rfl, rfl⟩
  · have t1 : decide (s < 1) = false := by simp; omega
    have t2 : decide (8 < s) = true := by simpa using h
    go_enter Try.func9, Try.ntmps9
    go_wp2
    go_ret2
    exact ⟨rfl, rfl⟩
theorem rPut_any (w : World) (n s : Int) (h0 : 0 ≤ n) (hn : n < 18446744073709551616) :
    Calls Try.prog 9 #[.int .u64 n, .int .i64 s] w fun x w' => x = .returned (.tuple #[.string (str (putR n s).1), .int .i64 (putR n s).2]) ∧ Below w.heap.size w w' := by
  by_cases hs : s < 1 ∨ 8 < s
  · have hr : putR n s = ([], 1) := by unfold putR; rw [if_neg]; intro h; unfold putOk at h; omega
    rw [hr]
    refine (rPut_no w n s hs).mono ?_
    rintro x w' ⟨rfl, rfl⟩
    exact ⟨rfl, Below.refl _ _⟩
  · obtain ⟨c, rfl⟩ := Int.eq_ofNat_of_zero_le (show 0 ≤ s by omega)
    have h5 : 0 ≤ n / 2 ^ (8 * c) := Int.ediv_nonneg h0 (by rw [pow256]; exact Int.le_of_lt (pow256_pos c))
    by_cases h : putOk n c
    · have hr : putR n c = (beL c n.toNat, 0) := by unfold putR; rw [if_pos h]; rfl
      rw [hr]
      have h6 := (div_pow n c h0).mpr h.2.2
      have := rPut_loop w n c h0 (by omega) (by omega) false (fun _ => by rw [h6]; rfl) (fun _ => rfl)
      simpa [fill_be n c h0] using this
    · have hr : putR n c = ([], 1) := by unfold putR; rw [if_neg h]
      rw [hr]
      have h6 : n / 2 ^ (8 * c) ≠ 0 := fun h7 => h ⟨by omega, by omega, (div_pow n c h0).mp h7⟩
      have h8 : c ≠ 8 := by
        rintro rfl
        exact h ⟨by omega, by omega, by simpa using hn⟩
      have := rPut_loop w n c h0 (by omega) (by omega) true (fun _ => by simp; omega) (fun h9 => absurd h9 h8)
      simpa [str] using this

set_option maxRecDepth 100000 in
theorem NumsPuts_walk0 (w : World) (n s : Int) (r : List UInt8 × Int) (hr : putR n s = r) (h0 : 0 ≤ n) (hn : n < 18446744073709551616) (haw : ∀ w, Calls Try.prog 10 #[] w fun x w' => x = .returned (.bool true) ∧ Below w.heap.size w w') :
    Calls Try.prog 3 #[.int .u64 n, .int .i64 s] w fun x w' => x = .returned (.bool true) ∧ Below w.heap.size w w' := by
  have H1 := Lib.hid (fun w => Put_any w n s h0 hn)
  have H2 := Lib.hid (fun w => rPut_any w n s h0 hn)
  have H3 := Lib.hid haw
  rw [hr] at H1 H2
  clear haw h0 hn hr
  go_enter Try.func3, Try.ntmps3
  go_wp2_with fail
  refine (H1.out _).mono ?_
  rintro e w1 ⟨rfl, g1⟩
  go_wp2_with fail
  refine (H2.out _).mono ?_
  rintro e w2 ⟨rfl, g2⟩
  go_wp2_with fail
  refine (H3.out _).mono ?_
  rintro e w3 ⟨rfl, g3⟩
  go_wp2
  go_ret
  have h12 := g1.trans (g2.mono g1.size)
  exact ⟨rfl, h12.trans (g3.mono h12.size)⟩
end Go.Proofs.Ytcjkkcapoldmmaa
