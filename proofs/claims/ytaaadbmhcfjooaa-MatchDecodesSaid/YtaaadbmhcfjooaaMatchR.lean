/- named: the field of a code. -/
import Derived.Test.YtaaadbmhcfjooaaMatchF
namespace Go.Proofs.Ytaaadbmhcfjooaa
open Go.RowKit
set_option linter.unusedVariables false

/-- Has a field this code? -/
def isC (c : Int) (f : Nat) : Bool := c == (codeF f 6 : Int) || c == (codeF f 17 : Int)
/-- The field of a code; 0: there is none. -/
def namedF (c : Int) : Nat := match (List.range 9).find? (fun i => isC c (i + 1)) with
  | some i => i + 1
  | none => 0
theorem namedF_at (c : Int) (k : Nat) (hk : k < 9) (h1 : isC c (k + 1) = true) (h0 : ∀ j, j < k → isC c (j + 1) = false) : namedF c = k + 1 := by
  unfold namedF
  have : (List.range 9).find? (fun i => isC c (i + 1)) = some k := by
    rw [List.find?_eq_some_iff_getElem]
    refine ⟨h1, k, by simpa using hk, by simp, fun j hj => ?_⟩
    simp [h0 j hj]
  rw [this]
theorem namedF_none (c : Int) (h0 : ∀ j, j < 9 → isC c (j + 1) = false) : namedF c = 0 := by
  unfold namedF
  have : (List.range 9).find? (fun i => isC c (i + 1)) = none := by
    rw [List.find?_eq_none]
    intro x hx
    simp [h0 x (List.mem_range.1 hx)]
  rw [this]
set_option maxRecDepth 100000 in
set_option maxHeartbeats 4000000 in
theorem named_any (w : World) (c : Int) : Calls Try.prog 66 #[.int .u64 c] w fun x w' => x = .returned (.int .i64 (namedF c)) ∧ Below w.heap.size w w' := by
  have HC := Lib.hid (fun W f p => code_any W f p)
  go_enter Try.func66, Try.ntmps66
  go_wp2_with fail
  go_loopw [3] (fun iv wr => ∃ k : Nat, k ≤ 9 ∧ iv = .int .i64 ((k + 1 : Nat) : Int) ∧ Hid (Below w.heap.size w wr) ∧ Hid (∀ j, j < k → isC c (j + 1) = false)) (fun iv _ => 10 - (intOf iv).toNat)
  case atStart => exact ⟨0, Nat.zero_le _, rfl, Lib.hid (Below.refl _ w), Lib.hid (fun j hj => absurd hj (Nat.not_lt_zero _))⟩
  case round =>
    obtain ⟨k, hk, rfl, hb, hq⟩ := hrel
    obtain ⟨f, hf⟩ : ∃ f, f = k + 1 := ⟨_, rfl⟩
    rw [← hf]
    by_cases hlt : k < 9
    · have d1 : decide (f ≤ 9) = true := by simp; omega
      have d2 : f ≤ 9 := by omega
      have H6 := Lib.hid (fun W => HC.out W (f : Int) 6)
      have H17 := Lib.hid (fun W => HC.out W (f : Int) 17)
      have HI : Hid (isC c (k + 1) = (c == (codeF (f : Int) 6 : Int) || c == (codeF (f : Int) 17 : Int))) := Lib.hid (by rw [hf]; rfl)
      have HA := Lib.hid (fun h1 => namedF_at c k hlt h1 hq.out)
      have HN : Hid (isC c (k + 1) = false → ∀ j, j < k + 1 → isC c (j + 1) = false) := by
        show _
        intro h j hj
        by_cases e : j = k
        · subst e; exact h
        · exact hq.out j (by omega)
      have HFK := Lib.hid hf
      clear HC hq hf
      generalize codeF (f : Int) 6 = a at *
      generalize codeF (f : Int) 17 = b at *
      have hK := Lib.hid (KR.start (Below.refl wr.heap.size wr) (Nat.le_refl _))
      haveI : Nonempty (Keep (KR wr.heap.size wr [])) := ⟨⟨_, hK.out⟩⟩
      by_cases h1 : c = (a : Int)
      · have t1 : (c == (a : Int)) = true := by simpa using h1
        have HRES := Lib.hid (HA.out (by rw [HI.out, t1]; rfl))
        clear h1 HA HN HI
        go_wp2_with fail
        refine (H6.out _).mono ?_
        rintro e w3 ⟨rfl, rfl⟩
        clear H6 H17 hK
        go_wp2
        go_ret
        exact ⟨by rw [HRES.out, ← HFK.out]; rfl, hb.out⟩
      have t1 : (c == (a : Int)) = false := beq_eq_false_iff_ne.mpr h1
      by_cases h2 : c = (b : Int)
      · have t2 : (c == (b : Int)) = true := by simpa using h2
        have HRES := Lib.hid (HA.out (by rw [HI.out, t1, t2]; rfl))
        clear h1 h2 HA HN HI
        go_wp2_with fail
        refine (H6.out _).mono ?_
        rintro e w3 ⟨rfl, rfl⟩
        go_wp2_with fail
        refine (H17.out _).mono ?_
        rintro e w4 ⟨rfl, rfl⟩
        clear H6 H17 hK
        go_wp2
        go_ret
        exact ⟨by rw [HRES.out, ← HFK.out]; rfl, hb.out⟩
      have t2 : (c == (b : Int)) = false := beq_eq_false_iff_ne.mpr h2
      have HRES := Lib.hid (HN.out (by rw [HI.out, t1, t2]; rfl))
      clear h1 h2 HA HN HI
      go_wp2_with fail
      refine (H6.out _).mono ?_
      rintro e w3 ⟨rfl, rfl⟩
      go_wp2_with fail
      refine (H17.out _).mono ?_
      rintro e w4 ⟨rfl, rfl⟩
      clear H6 H17 hK
      go_wp2_with fail
      go_roundw
      case rel => exact ⟨k + 1, hlt, by rw [← HFK.out]; go_num, hb, HRES⟩
      case measure =>
        have := HFK.out
        simp [intOf]; omega
    · have d1 : decide (f ≤ 9) = false := by simp; omega
      have d2 : ¬ f ≤ 9 := by omega
      have HRES := Lib.hid (namedF_none c (fun j hj => hq.out j (by omega)))
      clear hq HC
      go_wp2
      go_ret
      exact ⟨by rw [HRES.out]; rfl, hb.out⟩
end Go.Proofs.Ytaaadbmhcfjooaa
