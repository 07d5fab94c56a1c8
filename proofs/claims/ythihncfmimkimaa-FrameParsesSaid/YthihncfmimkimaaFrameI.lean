/- The walk of frame.Parse. -/
import Derived.Test.YthihncfmimkimaaFrameH
namespace Go.Proofs.Ythihncfmimkimaa
open Go.RowKit
set_option linter.unusedVariables false
set_option linter.unusedSimpArgs false

theorem numS_le (n : Int) (r : RS) : (numS n r).1.size ≤ r.1.size := takeR_left _ _ _ _
theorem bytS_le (n : Int) (r : RS) : (bytS n r).1.size ≤ r.1.size := takeR_left _ _ _ _
theorem dat_seems (s : ByteArray) : (dat (seemsP s).1).length ≤ s.size := by
  have h1 : ∀ r, (sRest r).1.size ≤ r.1.size := by
    intro r
    unfold sRest
    split
    · exact Nat.le_trans (numS_le _ _) (Nat.le_trans (numS_le _ _) (numS_le _ _))
    · exact numS_le _ _
  have h2 : ∀ ty r, (innH ty r).r.1.size ≤ r.1.size := by
    intro ty r
    unfold innH
    split
    · exact Nat.le_trans (numS_le _ _) (Nat.le_trans (numS_le _ _) (Nat.le_trans (numS_le _ _) (Nat.le_trans (numS_le _ _) (Nat.le_trans (numS_le _ _) (bytS_le _ _)))))
    · exact Nat.le_refl _
  have h3 : ∀ pr r, (innP pr r).r.1.size ≤ r.1.size := by
    intro pr r
    unfold innP
    split
    · exact Nat.le_trans (numS_le _ _) (Nat.le_trans (bytS_le _ _) (Nat.le_trans (numS_le _ _) (numS_le _ _)))
    · split
      · exact Nat.le_trans (bytS_le _ _) (Nat.le_trans (numS_le _ _) (Nat.le_trans (bytS_le _ _) (Nat.le_trans (numS_le _ _) (numS_le _ _))))
      · exact Nat.le_refl _
  have h4 : ∀ n r, (bytR n r).size ≤ r.1.size := fun n r => takeR_size _ _ _ _
  unfold dat seemsP
  simp only
  rw [size_data]
  exact Nat.le_trans (h4 _ _) (Nat.le_trans (h3 _ _) (Nat.le_trans (h2 _ _) (Nat.le_trans (h1 _) (Nat.le_trans (numS_le _ _) (numS_le _ _)))))

theorem neq_sums (W : World) (a b c d : Int) : (binOp .neq 39 (.agg #[.int .i64 a, .int .i64 b]) (.agg #[.int .i64 c, .int .i64 d])).run Try.prog W = .ok (.bool (!(a == c && b == d))) W := by
  have h1 : Try.prog.stoodInHeld 39 = false := by kernel_rfl
  simp [go_sem, Try.underlying39, Try.underlying3, h1]
  by_cases h2 : a = c
  · by_cases h3 : b = d
    · simp [h2, h3]
    · simp [h2, h3]
  · simp [h2]

theorem parse_ways (s : ByteArray) : okR (seemsP s) → (∃ x : Unit, decide ((1500 : Int) < (s.size : Int)) = true ∧ Hid (parseF s.data.toList (seemsP s) = (pkt0, 44))) ∨
    (∃ x : Unit, decide ((1500 : Int) < (s.size : Int)) = false ∧ decide (rightP (seemsP s).1) = false ∧ Hid (parseF s.data.toList (seemsP s) = (pkt0, 11))) ∨
    (∃ x : Unit, decide ((1500 : Int) < (s.size : Int)) = false ∧ decide (rightP (seemsP s).1) = true ∧ Hid (rightP (seemsP s).1) ∧ (laidB (seemsP s).1 (seemsP s).2.1.toNat (seemsP s).2.2.toNat == s.toList) = false ∧ Hid (parseF s.data.toList (seemsP s) = (pkt0, 11))) ∨
    (∃ x : Unit, decide ((1500 : Int) < (s.size : Int)) = false ∧ decide (rightP (seemsP s).1) = true ∧ Hid (rightP (seemsP s).1) ∧ Hid (str (laidB (seemsP s).1 (seemsP s).2.1.toNat (seemsP s).2.2.toNat) = s) ∧
      ∃ nb hb tb pb : Bool, Hid (nb = !((seemsP s).2.1 == (sumA (seemsP s).1 : Int) && (seemsP s).2.2 == (sumB (seemsP s).1 : Int))) ∧ ((seemsP s).1.fType == 2048) = tb ∧ ((seemsP s).2.1 != (sumA (seemsP s).1 : Int)) = hb ∧ portedF (seemsP s).1 = pb ∧
        Hid (parseF s.data.toList (seemsP s) = if (nb && tb && (hb || pb)) = true then (pkt0, 13) else ((seemsP s).1, 0))) := by
  intro hok
  have hsz := size_data s
  by_cases h1 : 1500 < s.size
  · exact .inl ⟨(), decide_eq_true (by omega), Lib.hid (by unfold parseF; rw [if_pos (by omega)])⟩
  have d1 : decide ((1500 : Int) < (s.size : Int)) = false := decide_eq_false (by omega)
  by_cases h2 : rightP (seemsP s).1
  case neg => exact .inr (.inl ⟨(), d1, decide_eq_false h2, Lib.hid (by unfold parseF; rw [if_neg (by omega), if_pos h2])⟩)
  have d2 := decide_eq_true h2
  by_cases h3 : laidB (seemsP s).1 (seemsP s).2.1.toNat (seemsP s).2.2.toNat = s.data.toList
  case neg =>
    refine .inr (.inr (.inl ⟨(), d1, d2, Lib.hid h2, ?_, Lib.hid (by unfold parseF; rw [if_neg (by omega), if_neg (by simpa using h2), if_pos h3])⟩))
    rw [beq_eq_false_iff_ne, ByteArray.toList_eq]
    exact h3
  refine .inr (.inr (.inr ⟨(), d1, d2, Lib.hid h2, Lib.hid (by rw [h3]; exact str_of s), _, _, _, _, Lib.hid rfl, rfl, rfl, rfl, Lib.hid ?_⟩))
  obtain ⟨hu, a0, a1, b0, b1⟩ := hok
  have hinj := laid_inj (seemsP s).1 (seemsP s).2.1.toNat (seemsP s).2.2.toNat (sumA (seemsP s).1) (sumB (seemsP s).1) h2 hu (by omega) (by omega) (sumA_lt _) (sumB_lt _) (by have := dat_seems s; omega)
  have hn : parseF s.data.toList (seemsP s) = if laidB (seemsP s).1 (sumA (seemsP s).1) (sumB (seemsP s).1) ≠ s.data.toList then (pkt0, 13) else ((seemsP s).1, 0) := by
    unfold parseF; rw [if_neg (by omega), if_neg (by simpa using h2), if_neg (by simpa using h3)]
  rw [hn]
  have hpb : portedF (seemsP s).1 = true ↔ ((seemsP s).1.fProto = 17 ∨ (seemsP s).1.fProto = 6) := by unfold portedF; simp; omega
  rw [← h3]
  have key : (laidB (seemsP s).1 (sumA (seemsP s).1) (sumB (seemsP s).1) ≠ laidB (seemsP s).1 (seemsP s).2.1.toNat (seemsP s).2.2.toNat) ↔
      (!((seemsP s).2.1 == (sumA (seemsP s).1 : Int) && (seemsP s).2.2 == (sumB (seemsP s).1 : Int)) && (seemsP s).1.fType == 2048 && ((seemsP s).2.1 != (sumA (seemsP s).1 : Int) || portedF (seemsP s).1)) = true := by
    rw [ne_comm, Ne, hinj, ← hpb]
    generalize portedF (seemsP s).1 = pb
    generalize sumA (seemsP s).1 = A at *
    generalize sumB (seemsP s).1 = B at *
    generalize (seemsP s).2.1 = a at *
    generalize (seemsP s).2.2 = b at *
    generalize (seemsP s).1.fType = ty at *
    simp only [Bool.and_eq_true, Bool.not_eq_true', Bool.and_eq_false_iff, beq_eq_false_iff_ne, ne_eq, beq_iff_eq, Bool.or_eq_true, bne_iff_ne]
    cases pb <;> simp <;> omega
  by_cases hk : laidB (seemsP s).1 (sumA (seemsP s).1) (sumB (seemsP s).1) ≠ laidB (seemsP s).1 (seemsP s).2.1.toNat (seemsP s).2.2.toNat
  · rw [if_pos hk, if_pos (key.1 hk)]
  · rw [if_neg hk, if_neg (fun h => hk (key.2 h))]
end Go.Proofs.Ythihncfmimkimaa
