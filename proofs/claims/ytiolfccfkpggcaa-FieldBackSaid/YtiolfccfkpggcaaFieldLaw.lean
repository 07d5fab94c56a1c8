/- What was put is got, the other fields stay, Pop of Push is the packet. -/
import Derived.Test.YtiolfccfkpggcaaFieldPut
namespace Go.Proofs.Ytiolfccfkpggcaa
open Go.RowKit
set_option linter.unusedVariables false

theorem put_bad (s : Seen) (f v : Int) (h : (putF s f v).2 ≠ 0) : (putF s f v).1 = zeroSeen := by
  unfold putF at *
  split at h
  · rename_i h1; rw [if_pos h1]
  rename_i h1
  rw [if_neg h1]
  split at h
  · rename_i h2; rw [if_pos h2]
  rename_i h2
  rw [if_neg h2]
  split at h
  · rename_i h3; rw [if_pos h3]
  · exact absurd rfl h
theorem put_good (s : Seen) (f v : Int) (h : (putF s f v).2 = 0) : ¬ (f = 1 ∨ f = 4 ∨ f = 7 ∨ hasF s f = false) ∧ ¬ (greatF f < v ∨ (f = 3 ∧ v < 4096)) ∧ putF s f v = (setF s f v, 0) := by
  by_cases h1 : f = 1 ∨ f = 4 ∨ f = 7 ∨ hasF s f = false
  · rw [putF_bad h1] at h; cases h
  by_cases h2 : greatF f < v ∨ (f = 3 ∧ v < 4096)
  · rw [putF_arg h1 h2] at h; cases h
  by_cases h3 : f = 3 ∧ s.fP.fVlan = 0
  · rw [putF_none h1 h2 h3] at h; cases h
  exact ⟨h1, h2, putF_ok h1 h2 h3⟩
theorem wrap_u64_id {v : Int} (h0 : 0 ≤ v) (h1 : v ≤ 18446744073709551615) : IntKind.u64.wrap v = v := by
  have : IntKind.u64.wrap v = v % 18446744073709551616 := by simp [IntKind.wrap, IntKind.bits, IntKind.signed]
  omega
theorem setF_rest (s : Seen) (f v : Int) : (setF s f v).fP.fData = s.fP.fData ∧ (setF s f v).fP.fTo = s.fP.fTo ∧ (setF s f v).fP.fFrom = s.fP.fFrom ∧ (setF s f v).fP.fLife = s.fP.fLife := by
  unfold setF withVlan
  repeat' (first | exact ⟨rfl, rfl, rfl, rfl⟩ | split)
theorem setF_meta (s : Seen) (f v : Int) (h0 : 0 ≤ v) (h1 : v ≤ 18446744073709551615) (m0 : 0 ≤ s.fMeta) (m1 : s.fMeta ≤ 18446744073709551615) : 0 ≤ (setF s f v).fMeta ∧ (setF s f v).fMeta ≤ 18446744073709551615 := by
  unfold setF withVlan
  repeat' (first | exact ⟨m0, m1⟩ | exact ⟨h0, h1⟩ | split)
theorem setF_get (s : Seen) (f v : Int) (h0 : 0 ≤ v) (h1 : v ≤ 18446744073709551615) (hf : ¬ (f = 1 ∨ f = 4 ∨ f = 7 ∨ hasF s f = false)) (hg : ¬ (greatF f < v ∨ (f = 3 ∧ v < 4096)))
    (g : Int) (g1 : 1 ≤ g) (g9 : g ≤ 9) : (getF (setF s f v) g).2 = (getF s g).2 ∧ (g = f → (getF (setF s f v) g).1 = v) ∧ (g ≠ f → (getF (setF s f v) g).1 = (getF s g).1) := by
  have hw := wrap_u64_id h0 h1
  have e2 : greatF 2 = 18446744073709551615 := by decide
  have e3 : greatF 3 = 8191 := by decide
  have e5 : greatF 5 = 4294967295 := by decide
  have e6 : greatF 6 = 4294967295 := by decide
  have e8 : greatF 8 = 65535 := by decide
  have e9 : greatF 9 = 65535 := by decide
  have m2 : ((maskF 2 : Nat) : Int) = 18446744073709551616 := by decide
  have m3 : ((maskF 3 : Nat) : Int) = 8192 := by decide
  have m5 : ((maskF 5 : Nat) : Int) = 4294967296 := by decide
  have m6 : ((maskF 6 : Nat) : Int) = 4294967296 := by decide
  have m8 : ((maskF 8 : Nat) : Int) = 65536 := by decide
  have m9 : ((maskF 9 : Nat) : Int) = 65536 := by decide
  have hh : ∀ g, hasF (setF s f v) g = hasF s g := by
    intro g
    unfold hasF setF withVlan
    repeat' (first | rfl | split)
  obtain ⟨i0, n0, p⟩ := s
  obtain ⟨p0, p1, p2, p3, p4, p5, p6, p7, p8, p9, p10⟩ := p
  have hs := hh g
  unfold getF
  rw [hs]
  have hhf : hasF ⟨i0, n0, ⟨p0, p1, p2, p3, p4, p5, p6, p7, p8, p9, p10⟩⟩ f = true := by
    cases h : hasF ⟨i0, n0, ⟨p0, p1, p2, p3, p4, p5, p6, p7, p8, p9, p10⟩⟩ f
    · exact absurd (.inr (.inr (.inr h))) hf
    · rfl
  refine ⟨?_, ?_, ?_⟩
  · split <;> rfl
  · rintro rfl
    rw [hhf]
    simp only [if_true]
    have hr : rawF (setF ⟨i0, n0, ⟨p0, p1, p2, p3, p4, p5, p6, p7, p8, p9, p10⟩⟩ g v) g = v := by
      rcases fcases g with rfl | rfl | rfl | rfl | rfl | rfl | rfl | rfl | rfl | h
      all_goals first
        | (exfalso; omega)
        | (simp [rawF, setF, withVlan, hw])
    rw [hr]
    have hb := widthF_le g
    rcases fcases g with rfl | rfl | rfl | rfl | rfl | rfl | rfl | rfl | rfl | h
    all_goals first
      | omega
      | (simp only [m2, m3, m5, m6, m8, m9]; omega)
  · intro hne
    have hr : rawF (setF ⟨i0, n0, ⟨p0, p1, p2, p3, p4, p5, p6, p7, p8, p9, p10⟩⟩ f v) g = rawF ⟨i0, n0, ⟨p0, p1, p2, p3, p4, p5, p6, p7, p8, p9, p10⟩⟩ g := by
      rcases fcases f with rfl | rfl | rfl | rfl | rfl | rfl | rfl | rfl | rfl | ⟨_, _, _, _, _, _, _, _, _, h⟩ <;> rcases fcases g with rfl | rfl | rfl | rfl | rfl | rfl | rfl | rfl | rfl | ⟨_, _, _, _, _, _, _, _, _, h'⟩
      all_goals first
        | (exfalso; omega)
        | (exfalso; rw [hasF_none h] at hhf; cases hhf)
        | (simp [rawF, setF, withVlan])
        | (unfold rawF setF withVlan; repeat' (first | rfl | split))
    split
    · simp only [hr]
    · rfl
theorem push_bad (s : Seen) (v : Int) (h : (pushF s v).2 ≠ 0) : (pushF s v).1 = zeroSeen := by
  unfold pushF at *
  split at h
  · rename_i h1
    rw [if_pos h1]
    split at h
    · exact absurd rfl h
    · rename_i h2; rw [if_neg h2]
  · rename_i h1; rw [if_neg h1]
theorem push_good (s : Seen) (v : Int) (h0 : 0 ≤ v) (h : (pushF s v).2 = 0) : v ≤ 4095 ∧ popF (pushF s v).1 = (s, 0) ∧ getF (pushF s v).1 3 = (4096 + v, 0) ∧ (pushF s v).1.fMeta = s.fMeta := by
  unfold pushF at *
  by_cases h1 : s.fP.fVlan = 0
  · by_cases h2 : v ≤ 4095
    · rw [if_pos h1, if_pos h2] at *
      refine ⟨h2, ?_, ?_, rfl⟩
      · have e : ¬ (withVlan s (4096 + v)).fP.fVlan = 0 := by show ¬ (4096 + v = 0); omega
        unfold popF
        rw [if_neg e]
        obtain ⟨i0, n0, p⟩ := s
        obtain ⟨p0, p1, p2, p3, p4, p5, p6, p7, p8, p9, p10⟩ := p
        subst h1
        rfl
      · have hw := wrap_u64_id (v := 4096 + v) (by omega) (by omega)
        have m3 : ((maskF 3 : Nat) : Int) = 8192 := by decide
        have e1 : hasF (withVlan s (4096 + v)) 3 = true := by simp [hasF]
        have e2 : rawF (withVlan s (4096 + v)) 3 = 4096 + v := by simp [rawF, withVlan, hw]
        unfold getF
        rw [e1, e2]
        simp only [if_true]
        have : (4096 + v) % ((maskF 3 : Nat) : Int) = 4096 + v := by rw [m3]; omega
        rw [this]
    · rw [if_pos h1, if_neg h2] at h; cases h
  · rw [if_neg h1] at h; cases h
end Go.Proofs.Ytiolfccfkpggcaa
