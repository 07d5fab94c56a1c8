/- The walk of FieldValues. -/
import Derived.Test.YtiolfccfkpggcaaFieldVals
import Derived.Test.YtiolfccfkpggcaaAwake04
namespace Go.Proofs.Ytiolfccfkpggcaa
open Go.RowKit
set_option linter.unusedVariables false

set_option maxRecDepth 100000 in
set_option maxHeartbeats 4000000 in
theorem FieldValues_walk (w : World) (s : Seen) (ok : okSeen w s) :
    Calls Try.prog 4 #[valSeen s] w fun x w' => x = .returned (.bool true) ∧ Below w.heap.size w w' := by
  have hm := wf_u64 ok.2.1
  have HV := Lib.hid (fun W => Values_any W s hm.1 (by omega))
  have HR := Lib.hid (fun W => rValues_any W s hm.1 (by omega))
  have HP := Lib.hid (fun W => Plain_any W s)
  have hl := valsTo_length s 10
  clear hm ok
  generalize valsTo s 10 = xs at *
  go_enter Try.func4, Try.ntmps4
  go_upto_region 1 with fail
  refine one_box_wp ?_
  intro W hb1 hbel hsz
  have HK := Lib.hid (And.intro hbel hbel.size)
  have HB := Lib.hid hb1
  clear hbel hb1
  go_wp2_with (first
    | (refine wpList_load_row rfl 27 _ rfl _ rfl _ _ (0, 0) _ HB.out Try.underlying27 rfl (by kernel_rfl) ?_)
    | fail)
  refine (HV.out _).mono ?_
  rintro x w1 ⟨v1, B1, hB1, rfl, ho1, b1⟩
  have HB1 := Lib.hid (HB.out.below b1 hsz.out)
  have k1 := HK.out.1.trans (b1.mono HK.out.2)
  have K1 := Lib.hid (And.intro k1 k1.size)
  rcases ho1.form encU64_len with ⟨rfl, hnil⟩ | ⟨g1, c1, rfl, _, hlt1, _, _, _, hc1⟩
  · rw [hnil] at hl; simp at hl
  have HC1 := Lib.hid (And.intro hlt1 hc1)
  clear b1 k1 ho1 hlt1 hc1 hB1
  go_wp2_with (first
    | (refine wpList_load_row rfl 27 _ rfl _ rfl _ _ (0, 0) _ HB1.out Try.underlying27 rfl (by kernel_rfl) ?_)
    | fail)
  refine (HP.out _).mono ?_
  rintro x w2 ⟨rfl, b2⟩
  have k2 := K1.out.1.trans (b2.mono K1.out.2)
  have K2 := Lib.hid (And.intro k2 k2.size)
  have B2 := Lib.hid b2
  clear b2 k2
  go_wp2_with fail
  refine (HR.out _).mono ?_
  rintro x w3 ⟨v2, B2', hB2, rfl, ho2, b3⟩
  have k3 := K2.out.1.trans (b3.mono K2.out.2)
  have K3 := Lib.hid (And.intro k3 k3.size)
  rcases ho2.form encU64_len with ⟨rfl, hnil⟩ | ⟨g2, c2, rfl, _, hlt2, _, _, _, hc2⟩
  · rw [hnil] at hl; simp at hl
  have HC2 := Lib.hid hc2
  have HC1' : Hid (∀ i j u, (hi : i < xs.length) → (encU64 xs[i])[j]? = some u → w3.cell? ⟨g1, i * 1 + j, none⟩ = some u) := by
    show _
    intro i j u hi hu
    have h1 := HC1.out.2 i j u hi hu
    have h2 := B2.out.cell (p := ⟨g1, i * 1 + j, none⟩) HC1.out.1
    have h3 := b3.cell (p := ⟨g1, i * 1 + j, none⟩) (Nat.lt_of_lt_of_le HC1.out.1 B2.out.size)
    exact h3.trans (h2.trans h1)
  have HLT := Lib.hid (And.intro (Nat.lt_of_lt_of_le (Nat.lt_of_lt_of_le HC1.out.1 B2.out.size) b3.size) hlt2)
  clear b3 k3 ho2 hlt2 hc2 hB2
  have d0 : decide (xs.length = xs.length) = true := by simp
  go_wp2_with fail
  go_loopw [5] (fun iv wr => ∃ k : Nat, k ≤ xs.length ∧ iv = .int .i64 k ∧ Hid (Below w3.heap.size w3 wr)) (fun iv _ => xs.length - (intOf iv).toNat)
  case atStart => exact ⟨0, Nat.zero_le _, rfl, Lib.hid (Below.refl _ _)⟩
  case round =>
    obtain ⟨k, hk, rfl, hw⟩ := hrel
    by_cases hlt : k < xs.length
    · have d1 : decide (k < xs.length) = true := by simpa using hlt
      have c1 := (hw.out.cell (p := ⟨g1, k * 1 + 0, none⟩) HLT.out.1).trans (HC1'.out k 0 _ hlt rfl)
      have c2 := (hw.out.cell (p := ⟨g2, k * 1 + 0, none⟩) HLT.out.2).trans (HC2.out k 0 _ hlt rfl)
      simp only [Nat.mul_one, Nat.add_zero] at c1 c2
      generalize xs[k] = y at *
      have d2 : decide (y = y) = true := by simp
      go_wp2_with fail
      go_quiet (fail)
      go_wp2
      go_roundw
      case rel => exact ⟨k + 1, hlt, by go_num, Lib.hid (belowN hw.out _)⟩
      case measure => simp [intOf]; omega
    · have d1 : decide (k < xs.length) = false := by simpa using hlt
      go_wp2_with fail
      refine (awake04 _).mono ?_
      rintro x w6 ⟨rfl, b6⟩
      go_wp2
      go_ret
      have k4 := K3.out.1.trans (hw.out.mono K3.out.2)
      exact ⟨rfl, k4.trans (b6.mono k4.size)⟩
end Go.Proofs.Ytiolfccfkpggcaa
