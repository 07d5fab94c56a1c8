/- The reference's Put and Num (out of FrameRA). droverref06's code and size. droverref06.bytes, of the kinds that say no field. -/
import Derived.Test.YtdjhbahiiabimaaActD
import Derived.Test.YtdjhbahiiabimaaNumB
import Derived.Test.YtdjhbahiiabimaaOwn
import Derived.Laws.OwnMore
namespace Go.Proofs.Ytdjhbahiiabimaa
section
open Go.RowKit
set_option linter.unusedVariables false
set_option linter.unusedSimpArgs false

/-- The first k bytes of a number in 'size' of them, as numbers. -/
def preL (n : Int) (size k : Nat) : List Int := (List.range k).map fun j => n / 2 ^ (8 * (size - 1 - j)) % 256
theorem preL_succ (n : Int) (size k : Nat) : preL n size (k + 1) = preL n size k ++ [n / 2 ^ (8 * (size - 1 - k)) % 256] := by simp [preL, List.range_succ]
theorem preL_length (n : Int) (size k : Nat) : (preL n size k).length = k := by simp [preL]
theorem preL_all (n : Int) (size : Nat) : preL n size size = fillL n size size := by
  apply List.ext_getElem?
  intro i
  by_cases hi : i < size
  · rw [fillL_get n size size i (Nat.le_refl _) hi (by omega)]
    simp [preL, hi]
  · rw [List.getElem?_eq_none (by rw [preL_length]; omega), List.getElem?_eq_none (by rw [fillL_length]; omega)]
theorem own_str {P : Program} {w : World} {B : Nat} {e' src dst e : TypeId} {v : Value} {xs : List Int} (hs : P.underlying src = some (.slice e)) (he : P.underlying e = some (.int .u8)) (hd : P.underlying dst = some .string)
    (h : OwnL w B e' 1 encU8 v xs) : (convert src dst v).run P w = .ok (.string (strOfNums xs)) w := by
  rcases h.form encU8_len with ⟨rfl, rfl⟩ | ⟨g, cap, rfl, _, _, _, _, _, hc⟩
  · exact run_convert_bytes_nil w src e hs he 0 0 dst hd
  · refine run_convert_bytes_arg w src e hs he g 0 _ cap xs rfl (fun i hi => ?_) dst hd
    have := hc i 0 (.int .u8 xs[i]) hi rfl
    simpa [List.getD, hi] using this

set_option maxRecDepth 100000 in
set_option maxHeartbeats 4000000 in
theorem r3Put_any (w : World) (n : Int) (c : Nat) (h0 : 0 ≤ n) (hc : 1 ≤ c) (hc8 : c ≤ 8) :
    Calls Try.prog 24 #[.int .u64 n, .int .i64 c] w fun x w' => x = .returned (.string (str (beL c n.toNat))) ∧ Below w.heap.size w w' := by
  rw [← fill_be n c h0]
  have hBW := Lib.hid (Below.refl w.heap.size w)
  go_enter Try.func24, Try.ntmps24
  go_wp2
  generalize hB : w.heap.size = B at *
  go_loopw [5, 6] (fun v iv wr => ∃ k : Nat, k ≤ c ∧ iv = .int .i64 ((c : Int) - 1 - k) ∧ OwnL wr B 5 1 encU8 v (preL n c k) ∧ Below B w wr) (fun _ iv _ => (intOf iv + 1).toNat)
  case atStart => exact ⟨0, Nat.zero_le _, by simp, OwnL.nil _ _ _ _ _, hBW.out⟩
  case round =>
    obtain ⟨k, hk, rfl, hown, hbw⟩ := hrel
    by_cases hlt : k < c
    · have Hown := Lib.hid hown
      have Hbw := Lib.hid hbw
      clear hown hbw
      go_wp2_with (at_builtin; go_must (refine app_one Hown.out (n / 2 ^ (8 * (c - 1 - k)) % 256) Try.underlying43 putInfo rfl (by decide) encU8_len encU8_one rfl rfl rfl rfl ?c1 ?c2 ?c3 ?_))
      case c1 => rw [preL_length]; omega
      case c2 => rw [preL_length]; omega
      case c3 => rw [← hB]; exact Hbw.out.size
      intro v' w1 hown1 hgrow _
      rw [← preL_succ] at hown1
      have Hown1 := Lib.hid hown1
      have Hb1 := Lib.hid (below_grown Hbw.out hgrow (by rw [← hB]; exact Hbw.out.size) Hown.out)
      clear hown1 hgrow Hown Hbw
      go_wp2
      go_roundw
      case rel => exact ⟨k + 1, by omega, by go_num, Hown1.out, Hb1.out⟩
      case measure => simp [intOf]; omega
    · obtain rfl : k = c := by omega
      rw [preL_all] at hown
      have hcv := own_str (P := Try.prog) Try.underlying43 Try.underlying5 Try.underlying9 hown
      have Hbw := Lib.hid hbw
      clear hown hbw
      subst hB
      go_wp2
      go_ret
      exact ⟨rfl, Hbw.out⟩
theorem r3Put_nat (w : World) (n c : Nat) (hc : 1 ≤ c) (hc8 : c ≤ 8) :
    Calls Try.prog 24 #[.int .u64 n, .int .i64 c] w fun x w' => x = .returned (.string (str (beL c n))) ∧ Below w.heap.size w w' := by
  have := r3Put_any w n c (by omega) hc hc8
  rwa [Int.toNat_natCast] at this
theorem r3len_put (W : World) (n : Nat) (k : Nat) :
    Calls Try.prog 24 #[.int .u64 ((k : Int) + (n : Int)), .int .i64 2] W fun x w' => x = .returned (.string (str (beL 2 (k + n)))) ∧ Below W.heap.size W w' := by
  have := r3Put_nat W (k + n) 2 (by decide) (by decide)
  rwa [Int.natCast_add] at this
set_option maxRecDepth 100000 in
set_option maxHeartbeats 2000000 in
theorem r3Num_any (w : World) (l : List UInt8) (hl : l.length ≤ 1000000) :
    Calls Try.prog 30 #[.string (str l)] w fun x w' => x = .returned (.int .u64 (numG l)) ∧ w = w' := by
  go_enter Try.func30, Try.ntmps30
  go_wp2
  go_loop [3, 4] (fun nv iv => ∃ k : Nat, k ≤ l.length ∧ iv = .int .i64 k ∧ nv = .int .u64 (numG (l.take k))) (fun _ iv => l.length - (intOf iv).toNat)
  case atStart => exact ⟨0, Nat.zero_le _, rfl, rfl⟩
  case round =>
    obtain ⟨k, hk, rfl, rfl⟩ := hrel
    by_cases hlt : k < l.length
    · obtain ⟨b, hb0, hb1, hbb, HS⟩ : ∃ b : Int, 0 ≤ b ∧ b ≤ 255 ∧ (∀ h : k < l.length, ((l[k]'h).toNat : Int) = b) ∧
          Hid (numG (l.take (k + 1)) = Go.bits .or .u64 (IntKind.u64.wrap (numG (l.take k) * 256)) b) := by
        refine ⟨((l[k]'hlt).toNat : Int), Int.natCast_nonneg _, ?_, fun _ => rfl, ?_⟩
        · have := (l[k]'hlt).toNat_lt; omega
        · have := numG_snoc (l.take k) (l[k]'hlt)
          rw [← List.take_succ_eq_append_getElem hlt] at this
          exact this
      have hbk := hbb hlt
      clear hbb
      go_wp2
      go_round
      case rel => exact ⟨k + 1, by omega, by go_num, by rw [HS.out]⟩
      case measure => simp [intOf]; omega
    · obtain rfl : k = l.length := by omega
      go_wp2
      go_ret
      exact ⟨rfl, rfl⟩
end
section
open Go.RowKit
set_option linter.unusedVariables false
set_option linter.unusedSimpArgs false

set_option maxRecDepth 100000 in
set_option maxHeartbeats 4000000 in
theorem r6code_any (w : World) (f : Int) : Calls Try.prog 52 #[.int .i64 f] w fun x w' => x = .returned (.int .i64 (codeF f).1) ∧ w = w' := by
  by_cases h : f = 3 ∨ f = 5 ∨ f = 6 ∨ f = 8 ∨ f = 9
  · rcases h with rfl | rfl | rfl | rfl | rfl
    all_goals
      go_enter Try.func52, Try.ntmps52
      go_wp2_with fail
      go_ret
      exact ⟨rfl, rfl⟩
  · have e : codeF f = (0, 0) := by unfold codeF; simp only [not_or] at h; obtain ⟨a, b, c, d, e⟩ := h; simp [a, b, c, d, e]
    rw [e]
    have h3 : (f == 3) = false := by simp; omega
    have h5 : (f == 5) = false := by simp; omega
    have h6 : (f == 6) = false := by simp; omega
    have h8 : (f == 8) = false := by simp; omega
    have h9 : (f == 9) = false := by simp; omega
    clear e h
    go_enter Try.func52, Try.ntmps52
    go_wp2_with fail
    go_ret
    exact ⟨rfl, rfl⟩
/-- How many bytes a field's value is. -/
def size6 (f : Int) : Int := if f = 5 ∨ f = 6 then 4 else 2
set_option maxRecDepth 100000 in
set_option maxHeartbeats 4000000 in
theorem r6size_any (w : World) (f : Int) : Calls Try.prog 53 #[.int .i64 f] w fun x w' => x = .returned (.int .i64 (size6 f)) ∧ w = w' := by
  by_cases h : f = 5 ∨ f = 6
  · rcases h with rfl | rfl
    all_goals
      go_enter Try.func53, Try.ntmps53
      go_wp2_with fail
      go_ret
      exact ⟨rfl, rfl⟩
  · have e : size6 f = 2 := by unfold size6; rw [if_neg h]
    rw [e]
    have h5 : (f == 5) = false := by simp; omega
    have h6 : (f == 6) = false := by simp; omega
    clear e h
    go_enter Try.func53, Try.ntmps53
    go_wp2_with fail
    go_ret
    exact ⟨rfl, rfl⟩
end
section
open Go.RowKit
set_option linter.unusedVariables false
set_option linter.unusedSimpArgs false
attribute [local go_sem] beL_length

set_option maxRecDepth 100000 in
set_option maxHeartbeats 4000000 in
theorem r6bytes4_any (w : World) (k f v : Int) (hk : k = 1 ∨ k = 2 ∨ k = 3 ∨ k = 4) (h0 : 0 ≤ v) : Calls Try.prog 38 #[.agg #[.int .i64 k, .int .i64 f, .int .u64 v]] w fun x w' => x = .returned (.string (str (laidA k f v))) ∧ Below w.heap.size w w' := by
  have HP := Lib.hid (fun W => r3Put_any W v 4 h0 (by decide) (by decide))
  rcases hk with rfl | rfl | rfl | rfl
  · have HL : Hid (laidA 1 f v = [0, 0, 0, 16] ++ (beL 4 v.toNat ++ [255, 255, 0, 0, 0, 0, 0, 0])) := Lib.hid rfl
    have hl : (beL 4 v.toNat).length = 4 := beL_length _ _
    generalize beL 4 v.toNat = P at *
    go_enter Try.func38, Try.ntmps38
    go_upto_region 1 with fail
    refine one_box_wp ?_
    intro W hb1 hbel hsz
    have K : Hid (KR w.heap.size w [(w.heap.size, 67, #[.int .i64 1, .int .i64 f, .int .u64 v])] W) := Lib.hid ((KR.start hbel hbel.size).add hb1)
    clear hb1 hbel hsz
    have c0 := (K.out.at 0 rfl).cell 0 _ rfl
    have c2 := (K.out.at 0 rfl).cell 2 _ rfl
    go_wp2_with fail
    refine (HP.out _).mono ?_
    rintro x w' ⟨rfl, hb⟩
    have HB := Lib.hid (K.out.call hb).below
    clear hb HP K c0 c2
    go_wp2_with fail
    go_ret
    exact ⟨by rw [HL.out]; rfl, HB.out⟩
  · have HL : Hid (laidA 2 f v = [0, 22, 0, 8] ++ beL 4 v.toNat) := Lib.hid rfl
    have hl : (beL 4 v.toNat).length = 4 := beL_length _ _
    generalize beL 4 v.toNat = P at *
    go_enter Try.func38, Try.ntmps38
    go_upto_region 1 with fail
    refine one_box_wp ?_
    intro W hb1 hbel hsz
    have K : Hid (KR w.heap.size w [(w.heap.size, 67, #[.int .i64 2, .int .i64 f, .int .u64 v])] W) := Lib.hid ((KR.start hbel hbel.size).add hb1)
    clear hb1 hbel hsz
    have c0 := (K.out.at 0 rfl).cell 0 _ rfl
    have c2 := (K.out.at 0 rfl).cell 2 _ rfl
    go_wp2_with fail
    refine (HP.out _).mono ?_
    rintro x w' ⟨rfl, hb⟩
    have HB := Lib.hid (K.out.call hb).below
    clear hb HP K c0 c2
    go_wp2_with fail
    go_ret
    exact ⟨by rw [HL.out]; rfl, HB.out⟩
  all_goals
    clear HP
    go_enter Try.func38, Try.ntmps38
    go_upto_region 1 with fail
    refine one_box_wp ?_
    intro W hb1 hbel hsz
    have HB := Lib.hid hbel
    have c0 := hb1.cell 0 _ rfl
    clear hb1 hbel hsz
    go_wp2_with fail
    go_ret
    exact ⟨rfl, HB.out⟩
end
end Go.Proofs.Ytdjhbahiiabimaa
