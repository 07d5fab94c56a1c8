/- The walk of MeterBounds. -/
import Derived.Test.YtnemolbppebmkaaLaw09b
namespace Go.Proofs.Ytnemolbppebmkaa
open Go.RowKit
set_option linter.unusedVariables false

set_option maxRecDepth 100000 in
set_option maxHeartbeats 8000000 in
theorem MeterBounds_core (w : World) (R Bu F : Nat) (v : Value) (ops : List MOp) (hR : R ≤ 1048576) (hBu : Bu ≤ 1048576) (hL : ops.length ≤ 100) (hv : ReadL w 2 encMOp v ops) :
    Calls Try.prog 4 #[.agg #[.int .i64 R, .int .i64 Bu], v, .int .i64 F] w fun x w' => x = .returned (.bool true) ∧ Below w.heap.size w w' := by
  obtain ⟨a, cap, rfl, hcap, hmax, hcells⟩ := hv
  unfold maxLen at hmax
  have HC := Lib.hid hcells
  clear hcells
  have t1 : decide ((R : Int) < 0) = false := by simp
  have t2 : decide (1048576 < (R : Int)) = false := by simp; omega
  have t3 : decide ((Bu : Int) < 0) = false := by simp
  have t4 : decide (1048576 < (Bu : Int)) = false := by simp; omega
  have t5 : decide (100 < (ops.length : Int)) = false := by simp; omega
  have t6 : decide ((F : Int) < 0) = false := by simp
  go_enter Try.func4, Try.ntmps4
  go_wp2_with fail
  refine (MtNew_yes _ R Bu (by omega) (by omega)).mono ?_
  rintro e w1 ⟨g1, rfl, hg, hr1, b1⟩
  go_wp2_with fail
  have b0 : Below w.heap.size w (w.alloc (.cells #[.int .i64 R, .int .i64 Bu] 40)) := (Below.refl _ _).alloc (Nat.le_refl _) _
  have hgB : w.heap.size ≤ g1 := Nat.le_trans b0.size hg
  have hbb := b0.trans (b1.mono b0.size)
  have HX := Lib.hid (And.intro hr1 hbb)
  clear hr1 hbb b1 b0 hg
  generalize hB : w.heap.size = B at *
  have HB := Lib.hid hB
  go_loopw [11, 12, 13] (fun tv kv iv wr => ∃ (k l T K : Nat), k ≤ ops.length ∧ iv = .int .i64 k ∧ tv = .int .i64 T ∧ kv = .int .i64 K ∧ l ≤ Bu ∧ T ≤ k * 1048576 ∧ K ≤ k * 1048576 ∧ (k ≤ F → T = 0 ∧ K = 0) ∧ Hid (T + l ≤ Bu + R * K) ∧ MtAt wr g1 R Bu l ∧ Below B w wr) (fun _ _ iv _ => ops.length - (intOf iv).toNat)
  case atStart => exact ⟨0, Bu, 0, 0, Nat.zero_le _, rfl, rfl, rfl, Nat.le_refl _, Nat.zero_le _, Nat.zero_le _, fun _ => ⟨rfl, rfl⟩, by show _ ≤ _; omega, HX.out.1, HX.out.2⟩
  case round =>
    obtain ⟨k, l, T, K, hk, rfl, rfl, rfl, hl, hT, hK, hF, hinv, hr1, hbw⟩ := hrel
    have Hr1 := Lib.hid hr1
    have Hbw := Lib.hid hbw
    have HF := Lib.hid hF
    clear hr1 hbw hF
    by_cases hl1 : k < ops.length
    · have t7 : decide (k < ops.length) = true := by simpa using hl1
      rcases HC.out with hnil | ⟨b, off, rfl, hblt, hcell⟩
      · rw [hnil] at hl1; simp at hl1
      · obtain ⟨p, n, hpw, hnw⟩ : ∃ (p : Bool) (n : Int), wr.cell? ⟨b, off + k * 2, none⟩ = some (.bool p) ∧ wr.cell? ⟨b, off + k * 2 + 1, none⟩ = some (.int .i64 n) :=
          ⟨ops[k].fTick, ops[k].fN, (Hbw.out.cell hblt).trans (hcell k 0 _ hl1 rfl), (Hbw.out.cell hblt).trans (hcell k 1 _ hl1 rfl)⟩
        clear hcell HC HX
        by_cases hn0 : n < 0
        · have d1 : decide (n < 0) = true := by simpa using hn0
          clear hn0
          go_wp2_with fail
          refine (awake09 _).mono ?_
          rintro x w5 ⟨rfl, b5⟩
          go_wp2
          go_ret
          rw [HB.out]
          have k5 := Hbw.out.alloc (o := .cells #[.bool p, .int .i64 n] 32) (by rw [← HB.out]; exact Hbw.out.size)
          exact ⟨rfl, k5.trans (b5.mono (by have := k5.size; rw [HB.out] at this; exact this))⟩
        obtain ⟨m, rfl⟩ := Int.eq_ofNat_of_zero_le (show 0 ≤ n by omega)
        have d1 : decide ((m : Int) < 0) = false := by simp
        by_cases hn1 : 1048576 < m
        · have d2 : decide (1048576 < (m : Int)) = true := by simp; omega
          clear hn1 hn0
          go_wp2_with fail
          refine (awake09 _).mono ?_
          rintro x w5 ⟨rfl, b5⟩
          go_wp2
          go_ret
          rw [HB.out]
          have k5 := Hbw.out.alloc (o := .cells #[.bool p, .int .i64 m] 32) (by rw [← HB.out]; exact Hbw.out.size)
          exact ⟨rfl, k5.trans (b5.mono (by have := k5.size; rw [HB.out] at this; exact this))⟩
        have d2 : decide (1048576 < (m : Int)) = false := by simp; omega
        have hm : m ≤ 1048576 := by omega
        have hRK : ((R * K : Nat) : Int) = (R : Int) * K := Int.natCast_mul _ _
        have hRK2 : R * K ≤ 1048576 * 104857600 := Nat.mul_le_mul hR (by omega)
        have p0 : 0 ≤ (R : Int) * K := by omega
        have p1 : (R : Int) * K ≤ 1048576 * 104857600 := by omega
        have HRK := Lib.hid (And.intro hRK hRK2)
        have hBw : B ≤ wr.heap.size := by rw [← HB.out]; exact Hbw.out.size
        have hg1 : g1 < wr.heap.size := Hr1.out.lt
        have hbox : ∀ q, BlkAt (wr.alloc (.cells #[.bool q, .int .i64 m] 32)) wr.heap.size 32 #[.bool q, .int .i64 m] := fun q => BlkAt.new _ _ _
        have hst : ∀ q, MtAt (wr.alloc (.cells #[.bool q, .int .i64 m] 32)) g1 R Bu l := fun q => Hr1.out.alloc _
        have hbl : ∀ q, Below B w (wr.alloc (.cells #[.bool q, .int .i64 m] 32)) := fun q => Hbw.out.alloc hBw _
        have HBX := Lib.hid hbox
        have HST := Lib.hid hst
        have HBL := Lib.hid hbl
        have hT1 : T ≤ (k + 1) * 1048576 := Nat.le_trans hT (Nat.mul_le_mul_right _ (Nat.le_succ k))
        have hK1 : K ≤ (k + 1) * 1048576 := Nat.le_trans hK (Nat.mul_le_mul_right _ (Nat.le_succ k))
        have hTm : T + m ≤ (k + 1) * 1048576 := by omega
        have hKm : K + m ≤ (k + 1) * 1048576 := by omega
        have HNUM := Lib.hid (And.intro hT1 (And.intro hK1 (And.intro hTm hKm)))
        clear hRK hRK2 hbox hst hbl hn0 hn1 hT1 hK1 hTm hKm
        cases p with
        | true =>
          have hC := Lib.hid (fun W h => MtTick_any W g1 R Bu l m h (by omega) (by omega) hl (by omega))
          have e1 : tickE m = 0 := by unfold tickE; rw [if_neg (by omega)]
          have e2 : tickM R Bu l m = min Bu (l + R * m) := by unfold tickM; rw [if_neg (by omega)]; rfl
          rw [e1, e2] at hC
          clear e1 e2
          have hadd : R * (K + m) = R * K + R * m := Nat.mul_add _ _ _
          by_cases hfk : F ≤ k
          · have d3 : decide (F ≤ k) = true := by simpa using hfk
            have HN : Hid (T + min Bu (l + R * m) ≤ Bu + R * (K + m)) := by show _ ≤ _; rw [hadd]; have := hinv.out; omega
            clear hadd hfk
            go_wp2_with fail
            refine (hC.out _ (HST.out true)).mono ?_
            rintro x w5 ⟨rfl, h5, b5⟩
            have hx := (HBX.out true).bar b5 (by omega)
            have hx1 := hx.cell 1 _ rfl
            have HH := Lib.hid (And.intro h5 (b5.below (HBL.out true) hgB (by simp; omega)))
            clear h5 b5 hx
            go_wp2
            go_roundw
            case rel => exact ⟨k + 1, min Bu (l + R * m), T, K + m, hl1, by go_num, rfl, by go_num, Nat.min_le_left _ _, HNUM.out.1, HNUM.out.2.2.2, fun h => by have := of_decide_eq_true d3; omega, HN.out, HH.out.1, HH.out.2⟩
            case measure => simp [intOf]; omega
          · have d3 : decide (F ≤ k) = false := by simpa using hfk
            have HN : Hid (T + min Bu (l + R * m) ≤ Bu + R * K) := by show _ ≤ _; have := (HF.out (by omega)).1; omega
            clear hadd
            have hfk2 : k < F := by omega
            clear hfk
            go_wp2_with fail
            refine (hC.out _ (HST.out true)).mono ?_
            rintro x w5 ⟨rfl, h5, b5⟩
            have hx := (HBX.out true).bar b5 (by omega)
            have hx1 := hx.cell 1 _ rfl
            have HH := Lib.hid (And.intro h5 (b5.below (HBL.out true) hgB (by simp; omega)))
            clear h5 b5 hx
            go_wp2
            go_roundw
            case rel => exact ⟨k + 1, min Bu (l + R * m), T, K, hl1, by go_num, rfl, rfl, Nat.min_le_left _ _, HNUM.out.1, HNUM.out.2.1, fun h => HF.out (by omega), HN.out, HH.out.1, HH.out.2⟩
            case measure => simp [intOf]; omega
        | false =>
          have hC := Lib.hid (fun W h => MtTake_any W g1 R Bu l m h (by omega) (by omega))
          have hLf := Lib.hid (fun W h => MtLeft_any W g1 R Bu l h (by omega))
          have e1 : takeE m = 0 := by unfold takeE; rw [if_neg (by omega)]
          by_cases hml : m ≤ l
          · have e2 : takeOk l m = true := by unfold takeOk; simp; omega
            have e3 : takeM l m = l - m := by unfold takeM; rw [e2]; simp
            rw [e1, e2, e3] at hC
            have d4 : decide (m ≤ l) = true := by simpa using hml
            have hL2 := Lib.hid (fun W h => MtLeft_any W g1 R Bu (l - m) h (by omega))
            have s1 : decide (((l - m : Nat) : Int) < 0) = false := by simp
            have s2 : decide (Bu < l - m) = false := by simp; omega
            clear e1 e2 e3
            have hlm : l - m ≤ Bu := by omega
            by_cases hfk : F ≤ k
            · have d3 : decide (F ≤ k) = true := by simpa using hfk
              have d5 : decide ((Bu : Int) + (R : Int) * K < (T : Int) + m) = false := by have h1 := HRK.out.1; have h2 := hinv.out; simp; omega
              have HN : Hid (T + m + (l - m) ≤ Bu + R * K) := by show _ ≤ _; have := hinv.out; omega
              clear hfk
              have HML := Lib.hid hml
              clear hml
              generalize l - m = lm at *
              go_wp2_with fail
              refine (hLf.out _ (HST.out false)).mono ?_
              rintro x w5 ⟨rfl, rfl⟩
              go_wp2_with fail
              refine (hC.out _ (HST.out false)).mono ?_
              rintro x w5 ⟨rfl, h5, b5⟩
              have hx := (HBX.out false).bar b5 (by omega)
              have hx1 := hx.cell 1 _ rfl
              have HH := Lib.hid (And.intro h5 (b5.below (HBL.out false) hgB (by simp; omega)))
              clear h5 b5 hx
              go_wp2_with (go_at_call 16; refine (hL2.out _ HH.out.1).mono ?_; rintro x w6 ⟨rfl, rfl⟩)
              go_roundw
              case rel => exact ⟨k + 1, lm, T + m, K, hl1, by go_num, by go_num, rfl, hlm, HNUM.out.2.2.1, HNUM.out.2.1, fun h => by have := of_decide_eq_true d3; omega, HN.out, HH.out.1, HH.out.2⟩
              case measure => simp [intOf]; omega
            · have d3 : decide (F ≤ k) = false := by simpa using hfk
              have h0 := HF.out (by omega)
              have d5 : decide ((Bu : Int) + (R : Int) * K < (T : Int)) = false := by have h1 := HRK.out.1; have h2 := hinv.out; simp; omega
              have HN : Hid (T + (l - m) ≤ Bu + R * K) := by show _ ≤ _; have := hinv.out; omega
              have hfk2 : k < F := by omega
              have H0 := Lib.hid h0
              clear hfk h0
              have HML := Lib.hid hml
              clear hml
              generalize l - m = lm at *
              go_wp2_with fail
              refine (hLf.out _ (HST.out false)).mono ?_
              rintro x w5 ⟨rfl, rfl⟩
              go_wp2_with fail
              refine (hC.out _ (HST.out false)).mono ?_
              rintro x w5 ⟨rfl, h5, b5⟩
              have hx := (HBX.out false).bar b5 (by omega)
              have hx1 := hx.cell 1 _ rfl
              have HH := Lib.hid (And.intro h5 (b5.below (HBL.out false) hgB (by simp; omega)))
              clear h5 b5 hx
              go_wp2_with (go_at_call 16; refine (hL2.out _ HH.out.1).mono ?_; rintro x w6 ⟨rfl, rfl⟩)
              go_roundw
              case rel => exact ⟨k + 1, lm, T, K, hl1, by go_num, rfl, rfl, hlm, HNUM.out.1, HNUM.out.2.1, fun h => H0.out, HN.out, HH.out.1, HH.out.2⟩
              case measure => simp [intOf]; omega
          · have e2 : takeOk l m = false := by unfold takeOk; simp; omega
            have e3 : takeM l m = l := by unfold takeM; rw [e2]; rfl
            rw [e1, e2, e3] at hC
            have d4 : decide (m ≤ l) = false := by simpa using hml
            have s1 : decide ((l : Int) < 0) = false := by simp
            have s2 : decide (Bu < l) = false := by simp; omega
            have d5 : decide ((Bu : Int) + (R : Int) * K < (T : Int)) = false := by have h1 := HRK.out.1; have h2 := hinv.out; simp; omega
            clear e1 e2 e3
            have HML := Lib.hid hml
            clear hml
            go_wp2_with fail
            refine (hLf.out _ (HST.out false)).mono ?_
            rintro x w5 ⟨rfl, rfl⟩
            go_wp2_with fail
            refine (hC.out _ (HST.out false)).mono ?_
            rintro x w5 ⟨rfl, h5, b5⟩
            have hx := (HBX.out false).bar b5 (by omega)
            have hx1 := hx.cell 1 _ rfl
            have HH := Lib.hid (And.intro h5 (b5.below (HBL.out false) hgB (by simp; omega)))
            clear h5 b5 hx
            go_wp2_with (go_at_call 16; refine (hLf.out _ HH.out.1).mono ?_; rintro x w6 ⟨rfl, rfl⟩)
            go_roundw
            case rel => exact ⟨k + 1, l, T, K, hl1, by go_num, rfl, rfl, hl, HNUM.out.1, HNUM.out.2.1, fun h => HF.out (by omega), hinv.out, HH.out.1, HH.out.2⟩
            case measure => simp [intOf]; omega
    · have t7 : decide (k < ops.length) = false := by simpa using hl1
      clear hl1 HC HX Hr1 HF
      go_wp2_with fail
      refine (awake09 _).mono ?_
      rintro x w5 ⟨rfl, b5⟩
      go_wp2
      go_ret
      rw [HB.out]
      exact ⟨rfl, Hbw.out.trans (b5.mono (by rw [← HB.out]; exact Hbw.out.size))⟩

def BoundsBad (R Bu : Int) (n : Nat) (F : Int) : Prop := R < 0 ∨ 1048576 < R ∨ Bu < 0 ∨ 1048576 < Bu ∨ 100 < n ∨ F < 0
set_option maxRecDepth 100000 in
set_option maxHeartbeats 4000000 in
theorem MeterBounds_walk (w : World) (r : Int) (wr : (Lit.int .i64 r).wf = true) (b : Int) (wb : (Lit.int .i64 b).wf = true) (v : Value) (ops : List MOp) (hv : ReadL w 2 encMOp v ops) (hok : ∀ x ∈ ops, okMOp w x) (f : Int) (wf : (Lit.int .i64 f).wf = true) :
    Calls Try.prog 4 #[.agg #[.int .i64 r, .int .i64 b], v, .int .i64 f] w fun x w' => x = .returned (.bool true) ∧ Below w.heap.size w w' := by
  by_cases hc : 0 ≤ r ∧ r ≤ 1048576 ∧ 0 ≤ b ∧ b ≤ 1048576 ∧ ops.length ≤ 100 ∧ 0 ≤ f
  · obtain ⟨h1, h2, h3, h4, h5, h6⟩ := hc
    obtain ⟨R, rfl⟩ := Int.eq_ofNat_of_zero_le h1
    obtain ⟨Bu, rfl⟩ := Int.eq_ofNat_of_zero_le h3
    obtain ⟨F, rfl⟩ := Int.eq_ofNat_of_zero_le h6
    exact MeterBounds_core w R Bu F v ops (by omega) (by omega) h5 hv
  · obtain ⟨a, cap, rfl, hcap, hmax, hcells⟩ := hv
    clear hcells hok wr wb wf hcap hmax
    have hcase : (∃ x : Unit, decide (r < 0) = true) ∨ (∃ x : Unit, decide (r < 0) = false ∧ decide (1048576 < r) = true) ∨ (∃ x : Unit, decide (r < 0) = false ∧ decide (1048576 < r) = false ∧ decide (b < 0) = true) ∨
        (∃ x : Unit, decide (r < 0) = false ∧ decide (1048576 < r) = false ∧ decide (b < 0) = false ∧ decide (1048576 < b) = true) ∨
        (∃ x : Unit, decide (r < 0) = false ∧ decide (1048576 < r) = false ∧ decide (b < 0) = false ∧ decide (1048576 < b) = false ∧ decide (100 < (ops.length : Int)) = true) ∨
        (∃ x : Unit, decide (r < 0) = false ∧ decide (1048576 < r) = false ∧ decide (b < 0) = false ∧ decide (1048576 < b) = false ∧ decide (100 < (ops.length : Int)) = false ∧ decide (f < 0) = true) := by
      by_cases h1 : r < 0
      · exact .inl ⟨(), by simpa using h1⟩
      by_cases h2 : 1048576 < r
      · exact .inr (.inl ⟨(), by simpa using h1, by simpa using h2⟩)
      by_cases h3 : b < 0
      · exact .inr (.inr (.inl ⟨(), by simpa using h1, by simpa using h2, by simpa using h3⟩))
      by_cases h4 : 1048576 < b
      · exact .inr (.inr (.inr (.inl ⟨(), by simpa using h1, by simpa using h2, by simpa using h3, by simpa using h4⟩)))
      by_cases h5 : 100 < ops.length
      · exact .inr (.inr (.inr (.inr (.inl ⟨(), by simpa using h1, by simpa using h2, by simpa using h3, by simpa using h4, by simp; omega⟩))))
      exact .inr (.inr (.inr (.inr (.inr ⟨(), by simpa using h1, by simpa using h2, by simpa using h3, by simpa using h4, by simp; omega, by simp; omega⟩))))
    clear hc
    rcases hcase with ⟨_, h1⟩ | ⟨_, h1, h2⟩ | ⟨_, h1, h2, h3⟩ | ⟨_, h1, h2, h3, h4⟩ | ⟨_, h1, h2, h3, h4, h5⟩ | ⟨_, h1, h2, h3, h4, h5, h6⟩
    all_goals
      go_enter Try.func4, Try.ntmps4
      go_wp2_with fail
      refine (awake09 _).mono ?_
      rintro x w5 ⟨rfl, b5⟩
      go_wp2
      go_ret
      have b0 : Below w.heap.size w (w.alloc (.cells #[.int .i64 r, .int .i64 b] 40)) := (Below.refl _ _).alloc (Nat.le_refl _) _
      exact ⟨rfl, b0.trans (b5.mono b0.size)⟩
end Go.Proofs.Ytnemolbppebmkaa
