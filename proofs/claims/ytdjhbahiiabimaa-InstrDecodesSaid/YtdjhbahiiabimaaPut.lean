/- The walk of nums.Put. -/
import Derived.Test.YtdjhbahiiabimaaPlain
import Derived.Laws.MakeOwn
import Derived.RowKit3
namespace Go.Proofs.Ytdjhbahiiabimaa
open Go.RowKit
set_option linter.unusedVariables false

/-- A new row of noughts. -/
def zerosA (n : Nat) : Array Value := ((List.replicate n (0 : Int)).map (Value.int .u8)).toArray
def u8A (l : List Int) : Array Value := (l.map (Value.int .u8)).toArray
theorem made_zeros (n : Nat) : madeCells (Value.cells (.int .u8 0)) (n * 1) = zerosA n := by
  unfold madeCells zerosA
  apply Array.ext
  · simp
  · intro i h1 h2
    simp [Value.cells, Nat.mod_one]
theorem putInfo : (Try.prog.info? 5).map (fun i => (i.zero, i.size, i.bytes)) = some (some (.int .u8 0), 1, 1) := by kernel_rfl
theorem put_make (W : World) (c : Nat) (h : c ≤ 140737488351232) : (Instr.makeSlice 43 (.int .i64 c) (.int .i64 c)).run Try.prog W = .ok (.slice (some ⟨W.heap.size, 0, none⟩) c c) (W.alloc (.cells (zerosA c) 5)) := by
  obtain ⟨i0, hi, hz0, hz1, hz2⟩ := info_parts putInfo
  have := run_make (P := Try.prog) W 43 5 i0 (.int .u8 0) Try.underlying43 hi hz0 .i64 .i64 c c (by omega) (by omega) (by rw [hz2]; omega) (by omega)
  rw [this, hz1]
  simp only [Int.toNat_natCast, made_zeros]

theorem zeros_fill (n : Int) (c : Nat) : zerosA c = u8A (fillL n c 0) := rfl
theorem u8A_set (l : List Int) (j : Nat) (v : Int) : (u8A l).setIfInBounds j (.int .u8 v) = u8A (l.set j v) := by
  unfold u8A
  apply Array.ext'
  simp [List.map_set]
theorem u8A_get (l : List Int) (j : Nat) (h : j < l.length) : (u8A l)[j]? = some (.int .u8 (l.getD j 0)) := by
  unfold u8A
  simp [List.getD, h]

theorem putCases {s : Int} (h1 : 1 ≤ s) (h8 : s ≤ 8) : s = 1 ∨ s = 2 ∨ s = 3 ∨ s = 4 ∨ s = 5 ∨ s = 6 ∨ s = 7 ∨ s = 8 := by omega

set_option maxRecDepth 100000 in
set_option maxHeartbeats 4000000 in
theorem Put_yes (w : World) (n : Int) (c : Nat) (h0 : 0 ≤ n) (hc : 1 ≤ c) (hc8 : c ≤ 8) (hs : c < 8 → n / 2 ^ (8 * c) = 0) :
    Calls Try.prog 40 #[.int .u64 n, .int .i64 c] w fun x w' => x = .returned (.tuple #[.string (str (beL c n.toNat)), .int .i64 0]) ∧ Below w.heap.size w w' := by
  rw [← fill_be n c h0]
  have hmk := fun W => put_make W c (by omega)
  have hBW := Lib.hid (Below.refl w.heap.size w)
  have t1 : decide ((c : Int) < 1) = false := by simp; omega
  have t2 : decide (8 < (c : Int)) = false := by simp; omega
  have hcv := fun (W : World) (hh : ∀ i, i < c → W.cell? ⟨w.heap.size, 0 + i, none⟩ = some (.int .u8 ((fillL n c c).getD i 0))) => run_convert_bytes_arg (P := Try.prog) W 43 5 Try.underlying43 Try.underlying5 w.heap.size 0 c c (fillL n c c) (fillL_length _ _ _) hh 9 Try.underlying9
  have HCV := Lib.hid hcv
  clear hcv
  have hcase : (∃ x : Unit, decide ((c : Int) < 8) = true ∧ decide (0 < n / 2 ^ (8 * c)) = false) ∨ (∃ x : Unit, decide ((c : Int) < 8) = false) := by
    by_cases h8 : c < 8
    · exact .inl ⟨(), by simp; omega, by simp [hs h8]⟩
    · exact .inr ⟨(), by simp; omega⟩
  clear hs
  rcases hcase with ⟨_, t3, t4⟩ | ⟨_, t3⟩
  all_goals
    go_enter Try.func40, Try.ntmps40
    go_wp2
    have hb1 := BlkAt.new w 5 (zerosA c)
    rw [zeros_fill n c] at hb1 ⊢
    have hb2 : Below w.heap.size w (w.alloc (.cells (u8A (fillL n c 0)) 5)) := (Below.refl _ _).alloc (Nat.le_refl _) _
    have HB1 := Lib.hid hb1
    have HB2 := Lib.hid hb2
    clear hb1 hb2 hmk
    generalize hB : w.heap.size = B at *
    go_loopw [29] (fun iv wr => ∃ k : Nat, k ≤ c ∧ iv = .int .i64 k ∧ BlkAt wr B 5 (u8A (fillL n c k)) ∧ Below B w wr) (fun iv _ => c - (intOf iv).toNat)
    case atStart => exact ⟨0, Nat.zero_le _, rfl, HB1.out, HB2.out⟩
    case round =>
      obtain ⟨k, hk, rfl, hbk, hbw⟩ := hrel
      by_cases hlt : k < c
      · have hf : ∀ j, wr.frozen? ⟨B, j, none⟩ = false := fun j => hbk.frozen j
        have hc1 := hbk.cell (c - 1 - k) _ (u8A_get _ _ (by rw [fillL_length]; omega))
        have Hbk := Lib.hid hbk
        have Hbw := Lib.hid hbw
        clear hbk hbw
        go_wp2
        go_roundw
        case rel =>
          refine ⟨k + 1, by omega, by go_num, ?_, Hbw.out.setCell (Nat.le_refl _) _⟩
          have := Hbk.out.set (c - 1 - k) (.int .u8 (n / 2 ^ (8 * k) % 256))
          rw [u8A_set] at this
          exact this
        case measure => simp [intOf]; omega
      · obtain rfl : k = c := by omega
        have hcv := HCV.out wr (fun i hi => by rw [Nat.zero_add]; exact hbk.cell i _ (u8A_get _ _ (by rw [fillL_length]; exact hi)))
        have Hbw := Lib.hid hbw
        clear HCV hbk hbw
        go_wp2
        go_ret2
        subst hB
        exact ⟨rfl, Hbw.out⟩

set_option maxRecDepth 100000 in
set_option maxHeartbeats 4000000 in
theorem Put_no (w : World) (n s : Int) (h0 : 0 ≤ n) (hs : s < 1 ∨ 8 < s ∨ (1 ≤ s ∧ s < 8 ∧ 0 < n / 2 ^ (8 * s).toNat)) :
    Calls Try.prog 40 #[.int .u64 n, .int .i64 s] w fun x w' => x = .returned (.tuple #[.string ⟨#[]⟩, .int .i64 1]) ∧ w = w' := by
  rcases hs with h | h | ⟨h1, h2, h3⟩
  · have t1 : decide (s < 1) = true := by simpa using h
    go_enter Try.func40, Try.ntmps40
    go_wp2
    go_ret2
    exact ⟨rfl, rfl⟩
  · have t1 : decide (s < 1) = false := by simp; omega
    have t2 : decide (8 < s) = true := by simpa using h
    go_enter Try.func40, Try.ntmps40
    go_wp2
    go_ret2
    exact ⟨rfl, rfl⟩
  · obtain ⟨c, rfl⟩ := Int.eq_ofNat_of_zero_le (show 0 ≤ s by omega)
    have e : (8 * (c : Int)).toNat = 8 * c := by omega
    rw [e] at h3
    have t1 : decide ((c : Int) < 1) = false := by simp; omega
    have t2 : decide (8 < (c : Int)) = false := by simp; omega
    have t3 : decide ((c : Int) < 8) = true := by simp; omega
    have t4 : decide (0 < n / 2 ^ (8 * c)) = true := by simpa using h3
    clear e h3
    go_enter Try.func40, Try.ntmps40
    go_wp2
    go_ret2
    exact ⟨rfl, rfl⟩

theorem pow256 (c : Nat) : (2 : Int) ^ (8 * c) = 256 ^ c := by rw [Int.pow_mul]; rfl
theorem pow256_pos (c : Nat) : (0 : Int) < 256 ^ c := Int.pow_pos (by decide)
theorem div_pow (n : Int) (c : Nat) (h0 : 0 ≤ n) : n / 2 ^ (8 * c) = 0 ↔ n < 256 ^ c := by
  rw [pow256]
  constructor
  · intro h
    have := Int.lt_mul_ediv_self_add (x := n) (pow256_pos c)
    rw [h] at this; simpa using this
  · intro h; exact Int.ediv_eq_zero_of_lt h0 h
theorem Put_any (w : World) (n s : Int) (h0 : 0 ≤ n) (hn : n < 18446744073709551616) :
    Calls Try.prog 40 #[.int .u64 n, .int .i64 s] w fun x w' => x = .returned (.tuple #[.string (str (putR n s).1), .int .i64 (putR n s).2]) ∧ Below w.heap.size w w' := by
  by_cases h : putOk n s
  · obtain ⟨c, rfl⟩ := Int.eq_ofNat_of_zero_le (show 0 ≤ s by unfold putOk at h; omega)
    have hr : putR n c = (beL c n.toNat, 0) := by unfold putR; rw [if_pos h]; rfl
    rw [hr]
    obtain ⟨h1, h8, h3⟩ := h
    exact Put_yes w n c h0 (by omega) (by omega) (fun _ => (div_pow n c h0).mpr h3)
  · have hr : putR n s = ([], 1) := by unfold putR; rw [if_neg h]
    rw [hr]
    refine (Put_no w n s h0 ?_).mono ?_
    · by_cases a : s < 1
      · exact .inl a
      by_cases b : 8 < s
      · exact .inr (.inl b)
      obtain ⟨c, rfl⟩ := Int.eq_ofNat_of_zero_le (show 0 ≤ s by omega)
      have hlt : ¬ n < 256 ^ c := fun hlt => h ⟨by omega, by omega, hlt⟩
      have h8 : c ≠ 8 := by
        rintro rfl
        exact hlt (by simpa using hn)
      refine .inr (.inr ⟨by omega, by omega, ?_⟩)
      have e : (8 * (c : Int)).toNat = 8 * c := by omega
      rw [e]
      have h5 : 0 ≤ n / 2 ^ (8 * c) := Int.ediv_nonneg h0 (by rw [pow256]; exact Int.le_of_lt (pow256_pos c))
      have h6 : n / 2 ^ (8 * c) ≠ 0 := fun h7 => hlt ((div_pow n c h0).mp h7)
      omega
    · rintro x w' ⟨rfl, rfl⟩
      exact ⟨rfl, Below.refl _ _⟩
end Go.Proofs.Ytdjhbahiiabimaa
