/- What a test stands on. -/
import Derived.Test.YtaaadbmhcfjooaaMatchB
namespace Go.Proofs.Ytaaadbmhcfjooaa
open Go.RowKit
set_option linter.unusedVariables false

/-- Does a test have ahead of it what it stands on? -/
def basedF (l : List Test) (f : Int) : Bool :=
  if f = 5 ∨ f = 6 ∨ f = 7 then (wholeF l 4).2 && (wholeF l 4).1 == 2048 else if f = 8 ∨ f = 9 then (wholeF l 7).2 && ((wholeF l 7).1 == 6 || (wholeF l 7).1 == 17) else true

set_option maxRecDepth 100000 in
set_option maxHeartbeats 8000000 in
theorem based_any (w : World) (v : Value) (l : List Test) (f : Int) (h : ReadL w 3 encTest v l) :
    Calls Try.prog 28 #[v, .int .i64 f] w fun e w' => e = .returned (.bool (basedF l f)) ∧ Below w.heap.size w w' := by
  have H4 := Lib.hid (whole_any w v l 4 h)
  have H7 := Lib.hid (whole_any w v l 7 h)
  clear h
  by_cases h5 : f = 5 ∨ f = 6 ∨ f = 7
  · have e : basedF l f = ((wholeF l 4).2 && (wholeF l 4).1 == 2048) := by unfold basedF; rw [if_pos h5]
    rw [e]
    clear e H7
    generalize wholeF l 4 = q at *
    obtain ⟨qv, qb⟩ := q
    have hc : (∃ x : Unit, qb = false ∧ (qb && qv == 2048) = false) ∨ (∃ x : Unit, qb = true ∧ (qv == 2048) = true ∧ (qb && qv == 2048) = true) ∨ (∃ x : Unit, qb = true ∧ (qv == 2048) = false ∧ (qb && qv == 2048) = false) := by
      cases qb
      · exact .inl ⟨(), rfl, rfl⟩
      · cases hq : (qv == 2048)
        · exact .inr (.inr ⟨(), rfl, rfl, rfl⟩)
        · exact .inr (.inl ⟨(), rfl, rfl, rfl⟩)
    show Calls _ _ _ _ fun e w' => e = .returned (.bool (qb && qv == 2048)) ∧ _
    rcases hc with ⟨_, rfl, e⟩ | ⟨_, rfl, t1, e⟩ | ⟨_, rfl, t1, e⟩
    all_goals
      rw [e]
      clear e
      rcases h5 with rfl | rfl | rfl
      all_goals
        go_enter Try.func28, Try.ntmps28
        go_wp2_with fail
        refine H4.out.mono ?_
        rintro e w' ⟨rfl, hb⟩
        go_wp2
        go_ret
        exact ⟨rfl, hb⟩
  by_cases h8 : f = 8 ∨ f = 9
  · have e : basedF l f = ((wholeF l 7).2 && ((wholeF l 7).1 == 6 || (wholeF l 7).1 == 17)) := by unfold basedF; rw [if_neg h5, if_pos h8]
    rw [e]
    clear e H4 h5
    generalize wholeF l 7 = q at *
    obtain ⟨qv, qb⟩ := q
    have hc : (∃ x : Unit, qb = false ∧ (qb && (qv == 6 || qv == 17)) = false) ∨ (∃ x : Unit, qb = true ∧ (qv == 6) = true ∧ (qb && (qv == 6 || qv == 17)) = true) ∨ (∃ x : Unit, qb = true ∧ (qv == 6) = false ∧ (qv == 17) = true ∧ (qb && (qv == 6 || qv == 17)) = true) ∨
        (∃ x : Unit, qb = true ∧ (qv == 6) = false ∧ (qv == 17) = false ∧ (qb && (qv == 6 || qv == 17)) = false) := by
      cases qb
      · exact .inl ⟨(), rfl, rfl⟩
      · cases hq : (qv == 6)
        · cases hq2 : (qv == 17)
          · exact .inr (.inr (.inr ⟨(), rfl, rfl, rfl, rfl⟩))
          · exact .inr (.inr (.inl ⟨(), rfl, rfl, rfl, rfl⟩))
        · exact .inr (.inl ⟨(), rfl, rfl, rfl⟩)
    show Calls _ _ _ _ fun e w' => e = .returned (.bool (qb && (qv == 6 || qv == 17))) ∧ _
    rcases hc with ⟨_, rfl, e⟩ | ⟨_, rfl, t1, e⟩ | ⟨_, rfl, t1, t2, e⟩ | ⟨_, rfl, t1, t2, e⟩
    all_goals
      rw [e]
      clear e
      rcases h8 with rfl | rfl
      all_goals
        go_enter Try.func28, Try.ntmps28
        go_wp2_with fail
        refine H7.out.mono ?_
        rintro e w' ⟨rfl, hb⟩
        go_wp2
        go_ret
        exact ⟨rfl, hb⟩
  · have e : basedF l f = true := by unfold basedF; rw [if_neg h5, if_neg h8]
    rw [e]
    have t5 : (f == 5) = false := beq_eq_false_iff_ne.mpr (by omega)
    have t6 : (f == 6) = false := beq_eq_false_iff_ne.mpr (by omega)
    have t7 : (f == 7) = false := beq_eq_false_iff_ne.mpr (by omega)
    have t8 : (f == 8) = false := beq_eq_false_iff_ne.mpr (by omega)
    have t9 : (f == 9) = false := beq_eq_false_iff_ne.mpr (by omega)
    clear e h5 h8 H4 H7
    go_enter Try.func28, Try.ntmps28
    go_wp2
    go_ret
    exact ⟨rfl, Below.refl _ _⟩

end Go.Proofs.Ytaaadbmhcfjooaa
