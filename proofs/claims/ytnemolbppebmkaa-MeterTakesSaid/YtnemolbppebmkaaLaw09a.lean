/- The chapter's examples of layer 9; the walks of MeterNil and MeterFull. -/
import Derived.Test.YtnemolbppebmkaaMeter
namespace Go.Proofs.Ytnemolbppebmkaa
open Go.RowKit
set_option linter.unusedVariables false

set_option maxRecDepth 100000 in
set_option maxHeartbeats 2000000 in
theorem awake09 (w : World) : Calls Try.prog 11 #[] w fun x w' => x = .returned (.bool true) ∧ Below w.heap.size w w' := by
  have hN := Lib.hid (fun w => MtNew_yes w 2 5 (by decide) (by decide))
  have hT1 := Lib.hid (fun w g (h : MtAt w g 2 5 5) => MtTake_any w g 2 5 5 4 h (by decide) (by decide))
  have hT2 := Lib.hid (fun w g (h : MtAt w g 2 5 1) => MtTake_any w g 2 5 1 2 h (by decide) (by decide))
  have hK1 := Lib.hid (fun w g (h : MtAt w g 2 5 1) => MtTick_any w g 2 5 1 1 h (by decide) (by decide) (by decide) (by decide))
  have hL1 := Lib.hid (fun w g (h : MtAt w g 2 5 3) => MtLeft_any w g 2 5 3 h (by decide))
  have hK2 := Lib.hid (fun w g (h : MtAt w g 2 5 3) => MtTick_any w g 2 5 3 9 h (by decide) (by decide) (by decide) (by decide))
  have hL2 := Lib.hid (fun w g (h : MtAt w g 2 5 5) => MtLeft_any w g 2 5 5 h (by decide))
  rw [show takeOk 5 4 = true by decide, show takeM 5 4 = 1 by decide, show takeE 4 = 0 by decide] at hT1
  rw [show takeOk 1 2 = false by decide, show takeM 1 2 = 1 by decide, show takeE 2 = 0 by decide] at hT2
  rw [show tickM 2 5 1 1 = 3 by decide, show tickE 1 = 0 by decide] at hK1
  rw [show tickM 2 5 3 9 = 5 by decide, show tickE 9 = 0 by decide] at hK2
  go_enter Try.func11, Try.ntmps11
  go_wp2_with fail
  refine (hN.out _).mono ?_
  rintro e w1 ⟨g, rfl, hg, h1, b1⟩
  go_wp2_with fail
  refine (hT1.out _ _ h1).mono ?_
  rintro e w2 ⟨rfl, h2, b2⟩
  go_wp2_with fail
  refine (hT2.out _ _ h2).mono ?_
  rintro e w3 ⟨rfl, h3, b3⟩
  go_wp2_with fail
  refine (hK1.out _ _ h3).mono ?_
  rintro e w4 ⟨rfl, h4, b4⟩
  go_wp2_with fail
  refine (hL1.out _ _ h4).mono ?_
  rintro e w4 ⟨rfl, rfl⟩
  go_wp2_with fail
  refine (hK2.out _ _ h4).mono ?_
  rintro e w5 ⟨rfl, h5, b5⟩
  go_wp2_with fail
  refine (hL2.out _ _ h5).mono ?_
  rintro e w5 ⟨rfl, rfl⟩
  go_wp2
  go_ret
  have hz := b1.size
  have k1 := ((b2.trans b3).trans b4).trans b5
  exact ⟨rfl, k1.below b1 hg hz⟩

set_option maxRecDepth 100000 in
theorem MeterNil_walk (w : World) (n : Int) (wn : (Lit.int .i64 n).wf = true) :
    Calls Try.prog 6 #[.int .i64 n] w fun x w' => x = .returned (.bool true) ∧ Below w.heap.size w w' := by
  clear wn
  go_enter Try.func6, Try.ntmps6
  go_wp2_with fail
  refine (MtTake_nil _ _).mono ?_
  rintro e w1 ⟨rfl, rfl⟩
  go_wp2_with fail
  refine (MtTick_nil _ _).mono ?_
  rintro e w2 ⟨rfl, rfl⟩
  go_wp2_with fail
  refine (MtLeft_nil _).mono ?_
  rintro e w2 ⟨rfl, rfl⟩
  go_wp2_with fail
  refine (awake09 _).mono ?_
  rintro e w2 ⟨rfl, h2⟩
  go_wp2
  go_ret
  exact ⟨rfl, h2⟩

set_option maxRecDepth 100000 in
set_option maxHeartbeats 2000000 in
theorem MeterFull_walk (w : World) (r : Int) (wr : (Lit.int .i64 r).wf = true) (b : Int) (wb : (Lit.int .i64 b).wf = true) (n : Int) (wn : (Lit.int .i64 n).wf = true) :
    Calls Try.prog 7 #[.int .i64 r, .int .i64 b, .int .i64 n] w fun x w' => x = .returned (.bool true) ∧ Below w.heap.size w w' := by
  have hn := (wf_i64 wn).2
  clear wr wb wn
  by_cases h : newOk r b
  · obtain ⟨h1, h2, h3, h4⟩ := h
    obtain ⟨R, rfl⟩ := Int.eq_ofNat_of_zero_le h1
    obtain ⟨B, rfl⟩ := Int.eq_ofNat_of_zero_le h3
    have hN := Lib.hid (fun w => MtNew_yes w R B (by omega) (by omega))
    have hL := Lib.hid (fun w g (h : MtAt w g R B B) => MtLeft_any w g R B B h (by omega))
    have hT := Lib.hid (fun w g (h : MtAt w g R B B) => MtTake_any w g R B B n h (by omega) hn)
    have hL2 := Lib.hid (fun w g (h : MtAt w g R B (takeM B n)) => MtLeft_any w g R B (takeM B n) h (by unfold takeM; split <;> omega))
    have hc : (∃ x : Unit, decide (n < 0) = true ∧ takeOk B n = false ∧ takeM B n = B ∧ takeE n = 1) ∨
        (∃ x : Unit, decide (n < 0) = false ∧ decide ((B : Int) < n) = true ∧ takeOk B n = false ∧ takeM B n = B ∧ takeE n = 0) ∨
        (∃ m : Nat, n = m ∧ decide ((m : Int) < 0) = false ∧ decide ((B : Int) < m) = false ∧ takeOk B n = true ∧ takeM B n = B - m ∧ takeE n = 0 ∧ m ≤ B) := by
      by_cases a : n < 0
      · have e1 : takeOk B n = false := by unfold takeOk; simp; omega
        exact .inl ⟨(), by simpa using a, e1, by unfold takeM; rw [e1]; rfl, by unfold takeE; rw [if_pos a]⟩
      by_cases c : (B : Int) < n
      · have e1 : takeOk B n = false := by unfold takeOk; simp; omega
        exact .inr (.inl ⟨(), by simpa using a, by simpa using c, e1, by unfold takeM; rw [e1]; rfl, by unfold takeE; rw [if_neg a]⟩)
      obtain ⟨m, rfl⟩ := Int.eq_ofNat_of_zero_le (show 0 ≤ n by omega)
      have e1 : takeOk B m = true := by unfold takeOk; simp; omega
      exact .inr (.inr ⟨m, rfl, by simp, by simp; omega, e1, by unfold takeM; rw [e1]; simp, by unfold takeE; rw [if_neg a], by omega⟩)
    clear h1 h3
    rcases hc with ⟨_, t1, e1, e2, e3⟩ | ⟨_, t1, t2, e1, e2, e3⟩ | ⟨m, rfl, t1, t2, e1, e2, e3, hm⟩
    all_goals
      rw [e2] at hL2
      rw [e1, e2, e3] at hT
      clear e1 e2 e3
      go_enter Try.func7, Try.ntmps7
      go_wp2_with fail
      refine (hN.out _).mono ?_
      rintro e w1 ⟨g, rfl, hg, h1, b1⟩
      go_wp2_with fail
      refine (hL.out _ _ h1).mono ?_
      rintro e w1 ⟨rfl, rfl⟩
      go_wp2_with fail
      refine (hT.out _ _ h1).mono ?_
      rintro e w2 ⟨rfl, h2, b2⟩
      go_wp2_with fail
      refine (hL2.out _ _ h2).mono ?_
      rintro e w2 ⟨rfl, rfl⟩
      go_wp2_with fail
      refine (awake09 _).mono ?_
      rintro e w3 ⟨rfl, b3⟩
      go_wp2
      go_ret
      have k2 := b2.below b1 hg b1.size
      exact ⟨rfl, k2.trans (b3.mono k2.size)⟩
  · have hN := Lib.hid (fun w => MtNew_no w r b h)
    clear h
    go_enter Try.func7, Try.ntmps7
    go_wp2_with fail
    refine (hN.out _).mono ?_
    rintro e w1 ⟨rfl, rfl⟩
    go_wp2_with fail
    refine (awake09 _).mono ?_
    rintro e w2 ⟨rfl, h2⟩
    go_wp2
    go_ret
    exact ⟨rfl, h2⟩
end Go.Proofs.Ytnemolbppebmkaa
