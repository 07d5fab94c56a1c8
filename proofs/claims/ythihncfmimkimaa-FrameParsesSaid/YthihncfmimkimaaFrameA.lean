/- The walks of frame's small functions: put, below, ported, right. -/
import Derived.Test.YthihncfmimkimaaFrameL
import Derived.Test.YthihncfmimkimaaBld
import Derived.Test.YthihncfmimkimaaSumW
import Derived.Test.YthihncfmimkimaaQuiet2
import Derived.Test.YthihncfmimkimaaReadNew
namespace Go.Proofs.Ythihncfmimkimaa
open Go.RowKit
set_option linter.unusedVariables false

set_option maxHeartbeats 2000000 in
theorem put_any (w : World) (n : Int) (c : Nat) (h0 : 0 ≤ n) (hc : 1 ≤ c) (hc8 : c ≤ 8) (hn : n < 256 ^ c) :
    Calls Try.prog 26 #[.int .u64 n, .int .i64 c] w fun x w' => x = .returned (.string (str (beL c n.toNat))) ∧ Below w.heap.size w w' := by
  have HP := Lib.hid (Put_yes w n c h0 hc hc8 (fun _ => (div_pow n c h0).mpr hn))
  clear h0 hc hc8 hn
  generalize beL c n.toNat = r at *
  go_enter Try.func26, Try.ntmps26
  go_wp2_with fail
  refine HP.out.mono ?_
  rintro e w' ⟨rfl, hb⟩
  go_wp2_with fail
  go_ret
  exact ⟨rfl, hb⟩

/-- All numbers are from 0 to one. -/
def inB (m a : Int) : Bool := decide (0 ≤ a ∧ a ≤ m)
def allB (m : Int) (l : List Int) : Bool := l.all (inB m)
theorem allB_take (m : Int) (l : List Int) (k : Nat) (hk : k < l.length) : allB m (l.take (k + 1)) = (allB m (l.take k) && inB m l[k]) := by
  unfold allB; rw [List.take_succ_eq_append_getElem hk, List.all_append]; simp
theorem allB_no (m : Int) (l : List Int) (k : Nat) (hk : k < l.length) (h : inB m l[k] = false) : allB m l = false := by
  unfold allB; rw [List.all_eq_false]; exact ⟨l[k], List.getElem_mem hk, by simp [h]⟩
set_option maxHeartbeats 2000000 in
theorem below_any (w : World) (m : Int) (v : Value) (l : List Int) (h : ReadL w 1 encI v l) :
    Calls Try.prog 24 #[.int .i64 m, v] w fun x w' => x = .returned (.bool (allB m l)) ∧ w = w' := by
  obtain ⟨a, cap, rfl, hcap, hmax, hcells⟩ := h
  unfold maxLen at hmax
  have HC := Lib.hid hcells
  clear hcells
  go_enter Try.func24, Try.ntmps24
  go_wp2_with fail
  go_loop [9] (fun iv => ∃ k : Nat, k ≤ l.length ∧ iv = .int .i64 k ∧ Hid (allB m (l.take k) = true)) (fun iv => l.length - (intOf iv).toNat)
  case atStart => exact ⟨0, Nat.zero_le _, rfl, Lib.hid (by rw [List.take_zero]; rfl)⟩
  case round =>
    obtain ⟨k, hk, rfl, hA⟩ := hrel
    by_cases hlt : k < l.length
    · have d1 : decide (k < l.length) = true := by simpa using hlt
      rcases HC.out with hnil | ⟨b, off, rfl, hblt, hcell⟩
      · rw [hnil] at hlt; simp at hlt
      have c0 := hcell k 0 _ hlt rfl
      simp only [Nat.add_zero, Nat.mul_one] at c0
      have HS := Lib.hid (allB_take m l k hlt)
      have HN := Lib.hid (allB_no m l k hlt)
      clear hcell HC
      generalize l[k] = x at *
      by_cases h1 : x < 0
      · have t1 : decide (x < 0) = true := by simpa using h1
        have HR : Hid (allB m l = false) := Lib.hid (HN.out (by unfold inB; simp; omega))
        clear HS HN h1
        go_wp2_with fail
        go_ret
        exact ⟨ret_bool HR.out.symm, rfl⟩
      have t1 : decide (x < 0) = false := by simpa using h1
      by_cases h2 : m < x
      · have t2 : decide (m < x) = true := by simpa using h2
        have HR : Hid (allB m l = false) := Lib.hid (HN.out (by unfold inB; simp; omega))
        clear HS HN h1 h2
        go_wp2_with fail
        go_ret
        exact ⟨ret_bool HR.out.symm, rfl⟩
      have t2 : decide (m < x) = false := by simpa using h2
      have HI : Hid (inB m x = true) := Lib.hid (by unfold inB; simp; omega)
      clear h1 h2 HN
      go_wp2_with fail
      go_round
      case rel => exact ⟨k + 1, hlt, by go_num, Lib.hid (by rw [HS.out, hA.out, HI.out]; rfl)⟩
      case measure => simp [intOf]; omega
    · have d1 : decide (k < l.length) = false := by simpa using hlt
      obtain rfl : k = l.length := by omega
      have HA : Hid (allB m l = true) := Lib.hid (by have := hA.out; rwa [List.take_length] at this)
      go_wp2_with fail
      go_ret
      exact ⟨ret_bool HA.out.symm, rfl⟩
theorem read_row (w : World) (g : Nat) (l : List Int) (T : TypeId) (h : BlkAt w g T (l.map (Value.int .i64)).toArray) (hl : l.length ≤ 100) : ReadL w 1 encI (.slice (some ⟨g, 0, none⟩) l.length l.length) l := by
  refine ⟨_, l.length, rfl, Nat.le_refl _, by unfold maxLen; omega, .inr ⟨g, 0, rfl, h.lt, fun i j u hi hu => ?_⟩⟩
  obtain rfl : j = 0 := by
    rcases j with _ | j
    · rfl
    · simp [encI] at hu
  refine h.cell _ _ ?_
  simp [encI] at hu
  simp [hi, hu]
theorem below_new (W : World) (m : Int) (l : List Int) (hl : l.length ≤ 100) :
    Calls Try.prog 24 #[.int .i64 m, .slice (some ⟨W.heap.size, 0, none⟩) l.length l.length] (W.alloc (.cells (l.map (Value.int .i64)).toArray 3 (0, 0))) fun x w' => x = .returned (.bool (allB m l)) ∧ (W.alloc (.cells (l.map (Value.int .i64)).toArray 3 (0, 0))) = w' :=
  below_any _ m _ l (read_row _ _ l _ (BlkAt.new _ _ _) hl)
end Go.Proofs.Ythihncfmimkimaa
