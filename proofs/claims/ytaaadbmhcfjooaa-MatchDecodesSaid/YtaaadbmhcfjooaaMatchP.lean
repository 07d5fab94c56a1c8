/- The reference's small functions: size, code, Put. -/
import Derived.Test.YtaaadbmhcfjooaaMatchF
import Derived.Test.YtaaadbmhcfjooaaMatchB3
import Derived.Test.YtaaadbmhcfjooaaOwn
import Derived.Laws.OwnMore
namespace Go.Proofs.Ytaaadbmhcfjooaa
open Go.RowKit
set_option linter.unusedVariables false

/-- The first k bytes of a number in 'size' of them, as numbers. -/
def preL (n : Int) (size k : Nat) : List Int := (List.range k).map fun j => n / 2 ^ (8 * (size - 1 - j)) % 256
theorem preL_succ (n : Int) (size k : Nat) : preL n size (k + 1) = preL n size k ++ [n / 2 ^ (8 * (size - 1 - k)) % 256] := by simp [preL, List.range_succ]
theorem preL_length (n : Int) (size k : Nat) : (preL n size k).length = k := by simp [preL]
theorem preL_all (n : Int) (size : Nat) : preL n size size = fillL n size size := by
  apply List.ext_getElem?
  intro i
  by_cases hi : i < size
  · rw [fillL_get n size size i (Nat.le_refl _) hi (by omega)]
    simp [preL, hi]
  · rw [List.getElem?_eq_none (by rw [preL_length]; omega), List.getElem?_eq_none (by rw [fillL_length]; omega)]
theorem own_str {P : Program} {w : World} {B : Nat} {e' src dst e : TypeId} {v : Value} {xs : List Int} (hs : P.underlying src = some (.slice e)) (he : P.underlying e = some (.int .u8)) (hd : P.underlying dst = some .string)
    (h : OwnL w B e' 1 encU8 v xs) : (convert src dst v).run P w = .ok (.string (strOfNums xs)) w := by
  rcases h.form encU8_len with ⟨rfl, rfl⟩ | ⟨g, cap, rfl, _, _, _, _, _, hc⟩
  · exact run_convert_bytes_nil w src e hs he 0 0 dst hd
  · refine run_convert_bytes_arg w src e hs he g 0 _ cap xs rfl (fun i hi => ?_) dst hd
    have := hc i 0 (.int .u8 xs[i]) hi rfl
    simpa [List.getD, hi] using this

set_option maxHeartbeats 4000000 in
theorem rSize_any (w : World) (f : Int) : Calls Try.prog 50 #[.int .i64 f] w fun x w' => x = .returned (.int .i64 (sizeF f)) ∧ Below w.heap.size w w' := by
  have H := Lib.hid (rWidth_any w f)
  rcases fcases f with rfl | rfl | rfl | rfl | rfl | rfl | rfl | rfl | rfl | ⟨h1, h2, h3, h4, h5, h6, h7, h8, h9, h⟩
  case inr.inr.inr.inr.inr.inr.inr.inr.inr =>
    rw [widthF_none h] at H
    have hg : sizeF f = 0 := by unfold sizeF; rw [widthF_none h]; rfl
    rw [hg]
    clear h hg
    go_enter Try.func50, Try.ntmps50
    go_wp2_with fail
    refine H.out.mono ?_
    rintro e w' ⟨rfl, hb⟩
    go_wp2
    go_ret
    exact ⟨rfl, hb⟩
  all_goals
    try rw [widthF_1] at H
    try rw [widthF_2] at H
    try rw [widthF_3] at H
    try rw [widthF_4] at H
    try rw [widthF_5] at H
    try rw [widthF_6] at H
    try rw [widthF_7] at H
    try rw [widthF_8] at H
    try rw [widthF_9] at H
    go_enter Try.func50, Try.ntmps50
    go_wp2_with fail
    refine H.out.mono ?_
    rintro e w' ⟨rfl, hb⟩
    go_wp2
    go_ret
    exact ⟨rfl, hb⟩


set_option maxRecDepth 100000 in
set_option maxHeartbeats 4000000 in
theorem r3Put_any (w : World) (n : Int) (c : Nat) (h0 : 0 ≤ n) (hc : 1 ≤ c) (hc8 : c ≤ 8) :
    Calls Try.prog 56 #[.int .u64 n, .int .i64 c] w fun x w' => x = .returned (.string (str (beL c n.toNat))) ∧ Below w.heap.size w w' := by
  rw [← fill_be n c h0]
  have hBW := Lib.hid (Below.refl w.heap.size w)
  go_enter Try.func56, Try.ntmps56
  go_wp2
  generalize hB : w.heap.size = B at *
  go_loopw [5, 6] (fun v iv wr => ∃ k : Nat, k ≤ c ∧ iv = .int .i64 ((c : Int) - 1 - k) ∧ OwnL wr B 5 1 encU8 v (preL n c k) ∧ Below B w wr) (fun _ iv _ => (intOf iv + 1).toNat)
  case atStart => exact ⟨0, Nat.zero_le _, by simp, OwnL.nil _ _ _ _ _, hBW.out⟩
  case round =>
    obtain ⟨k, hk, rfl, hown, hbw⟩ := hrel
    by_cases hlt : k < c
    · have Hown := Lib.hid hown
      have Hbw := Lib.hid hbw
      clear hown hbw
      go_wp2_with (at_builtin; go_must (refine app_one Hown.out (n / 2 ^ (8 * (c - 1 - k)) % 256) Try.underlying56 putInfo rfl (by decide) encU8_len encU8_one rfl rfl rfl rfl ?c1 ?c2 ?c3 ?_))
      case c1 => rw [preL_length]; omega
      case c2 => rw [preL_length]; omega
      case c3 => rw [← hB]; exact Hbw.out.size
      intro v' w1 hown1 hgrow _
      rw [← preL_succ] at hown1
      have Hown1 := Lib.hid hown1
      have Hb1 := Lib.hid (below_grown Hbw.out hgrow (by rw [← hB]; exact Hbw.out.size) Hown.out)
      clear hown1 hgrow Hown Hbw
      go_wp2
      go_roundw
      case rel => exact ⟨k + 1, by omega, by go_num, Hown1.out, Hb1.out⟩
      case measure => simp [intOf]; omega
    · obtain rfl : k = c := by omega
      rw [preL_all] at hown
      have hcv := own_str (P := Try.prog) Try.underlying56 Try.underlying5 Try.underlying9 hown
      have Hbw := Lib.hid hbw
      clear hown hbw
      subst hB
      go_wp2
      go_ret
      exact ⟨rfl, Hbw.out⟩

theorem codeF_8 (p : Int) : codeF 8 p = if p = 17 then 15 else 13 := by unfold codeF; by_cases h : p = 17 <;> simp [h]
theorem codeF_9 (p : Int) : codeF 9 p = if p = 17 then 16 else 14 := by unfold codeF; by_cases h : p = 17 <;> simp [h]
set_option maxRecDepth 100000 in
set_option maxHeartbeats 8000000 in
theorem rCode_any (w : World) (v : Value) (l : List Test) (f : Int) (hf : 1 ≤ f ∧ f ≤ 9) (h : ReadL w 3 encTest v l) :
    Calls Try.prog 55 #[v, .int .i64 f] w fun x w' => x = .returned (.int .i64 (codeF f (wholeF l 7).1)) ∧ Below w.heap.size w w' := by
  have HW := Lib.hid (fun W hW => rWhole_any W v l 7 l.length (Nat.le_refl _) (ReadL.below h hW (Nat.le_refl w.heap.size)))
  rw [List.take_length] at HW
  have HA := Lib.hid (fun (o : Obj) => (Below.refl w.heap.size w).alloc (Nat.le_refl _) o)
  obtain ⟨xa, xc, rfl, _, _, _⟩ := h
  generalize wholeF l 7 = q at *
  obtain ⟨p, pb⟩ := q
  have hc : (∃ x : Unit, (p == 17) = true ∧ p = 17) ∨ (∃ x : Unit, (p == 17) = false ∧ ¬ p = 17) := by
    by_cases hp : p = 17
    · exact .inl ⟨(), by simpa using hp, hp⟩
    · exact .inr ⟨(), beq_eq_false_iff_ne.mpr hp, hp⟩
  rcases fcases f with rfl | rfl | rfl | rfl | rfl | rfl | rfl | rfl | rfl | ⟨_, _, _, _, _, _, _, _, _, h'⟩
  case inr.inr.inr.inr.inr.inr.inr.inr.inr => omega
  case inr.inr.inr.inr.inr.inr.inr.inl =>
    rcases hc with ⟨_, t1, t2⟩ | ⟨_, t1, t2⟩
    · have e : codeF 8 p = 15 := by rw [codeF_8, if_pos t2]
      show Calls _ _ _ _ fun x w' => x = .returned (.int .i64 (codeF 8 p)) ∧ _
      rw [e]
      clear t2 e hf
      go_enter Try.func55, Try.ntmps55
      go_wp2_with fail
      refine (HW.out _ (HA.out _)).mono ?_
      rintro e w2 ⟨rfl, b2⟩
      have HB := Lib.hid ((HA.out (.cells #[.int .i64 0, .int .i64 2, .int .i64 6, .int .i64 5, .int .i64 11, .int .i64 12, .int .i64 10, .int .i64 13, .int .i64 14] 3)).trans (b2.mono (by simp)))
      clear b2
      go_wp2
      go_ret
      exact ⟨rfl, HB.out⟩
    · have e : codeF 8 p = 13 := by rw [codeF_8, if_neg t2]
      show Calls _ _ _ _ fun x w' => x = .returned (.int .i64 (codeF 8 p)) ∧ _
      rw [e]
      clear t2 e hf
      go_enter Try.func55, Try.ntmps55
      go_wp2_with fail
      refine (HW.out _ (HA.out _)).mono ?_
      rintro e w2 ⟨rfl, b2⟩
      have HB := Lib.hid ((HA.out (.cells #[.int .i64 0, .int .i64 2, .int .i64 6, .int .i64 5, .int .i64 11, .int .i64 12, .int .i64 10, .int .i64 13, .int .i64 14] 3)).trans (b2.mono (by simp)))
      clear b2
      go_wp2
      go_ret
      exact ⟨rfl, HB.out⟩
  case inr.inr.inr.inr.inr.inr.inr.inr.inl =>
    rcases hc with ⟨_, t1, t2⟩ | ⟨_, t1, t2⟩
    · have e : codeF 9 p = 16 := by rw [codeF_9, if_pos t2]
      show Calls _ _ _ _ fun x w' => x = .returned (.int .i64 (codeF 9 p)) ∧ _
      rw [e]
      clear t2 e hf
      go_enter Try.func55, Try.ntmps55
      go_wp2_with fail
      refine (HW.out _ (HA.out _)).mono ?_
      rintro e w2 ⟨rfl, b2⟩
      have HB := Lib.hid ((HA.out (.cells #[.int .i64 0, .int .i64 2, .int .i64 6, .int .i64 5, .int .i64 11, .int .i64 12, .int .i64 10, .int .i64 13, .int .i64 14] 3)).trans (b2.mono (by simp)))
      clear b2
      go_wp2
      go_ret
      exact ⟨rfl, HB.out⟩
    · have e : codeF 9 p = 14 := by rw [codeF_9, if_neg t2]
      show Calls _ _ _ _ fun x w' => x = .returned (.int .i64 (codeF 9 p)) ∧ _
      rw [e]
      clear t2 e hf
      go_enter Try.func55, Try.ntmps55
      go_wp2_with fail
      refine (HW.out _ (HA.out _)).mono ?_
      rintro e w2 ⟨rfl, b2⟩
      have HB := Lib.hid ((HA.out (.cells #[.int .i64 0, .int .i64 2, .int .i64 6, .int .i64 5, .int .i64 11, .int .i64 12, .int .i64 10, .int .i64 13, .int .i64 14] 3)).trans (b2.mono (by simp)))
      clear b2
      go_wp2
      go_ret
      exact ⟨rfl, HB.out⟩
  all_goals
    clear hc hf
    go_enter Try.func55, Try.ntmps55
    go_wp2_with fail
    refine (HW.out _ (HA.out _)).mono ?_
    rintro e w2 ⟨rfl, b2⟩
    have HB := Lib.hid ((HA.out (.cells #[.int .i64 0, .int .i64 2, .int .i64 6, .int .i64 5, .int .i64 11, .int .i64 12, .int .i64 10, .int .i64 13, .int .i64 14] 3)).trans (b2.mono (by simp)))
    clear b2
    go_wp2
    go_ret
    exact ⟨rfl, HB.out⟩
end Go.Proofs.Ytaaadbmhcfjooaa
