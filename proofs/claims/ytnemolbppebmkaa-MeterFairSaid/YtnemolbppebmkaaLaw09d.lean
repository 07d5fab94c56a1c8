/- The walk of MeterFair. -/
import Derived.Test.YtnemolbppebmkaaLaw09b
namespace Go.Proofs.Ytnemolbppebmkaa
open Go.RowKit
set_option linter.unusedVariables false

/-- Ticks of one, one behind the other. -/
theorem tick_next {R Bu l k : Nat} : min Bu (min Bu (l + R * k) + R * 1) = min Bu (l + R * (k + 1)) := by
  have : R * (k + 1) = R * k + R * 1 := Nat.mul_add _ _ _
  omega

set_option maxRecDepth 100000 in
set_option maxHeartbeats 8000000 in
theorem MeterFair_core (w : World) (R Bu : Nat) (v : Value) (ops : List MOp) (hR : R ≤ 4294967295) (hBu : Bu ≤ 4294967295) (hv : ReadL w 2 encMOp v ops) (hok : ∀ x ∈ ops, okMOp w x) :
    Calls Try.prog 5 #[.int .i64 R, .int .i64 Bu, v] w fun x w' => x = .returned (.bool true) ∧ Below w.heap.size w w' := by
  obtain ⟨a, cap, rfl, hcap, hmax, hcells⟩ := hv
  unfold maxLen at hmax
  have HC := Lib.hid hcells
  have HOK := Lib.hid hok
  clear hcells hok
  go_enter Try.func5, Try.ntmps5
  go_wp2_with fail
  refine (MtNew_yes _ R Bu hR hBu).mono ?_
  rintro e w1 ⟨g1, rfl, hg, hr1, b1⟩
  go_wp2_with fail
  refine (MtNew_yes _ R Bu hR hBu).mono ?_
  rintro e w2 ⟨g2, rfl, hg2, hf1, b2⟩
  go_wp2_with fail
  have hr1lt := hr1.lt
  have hne : g1 ≠ g2 := by omega
  have hB2 : w.heap.size ≤ g2 := Nat.le_trans b1.size hg2
  have hr2 : MtAt w2 g1 R Bu Bu := hr1.below b2 hr1lt
  have hbb := b1.trans (b2.mono b1.size)
  have HX := Lib.hid (And.intro hr2 (And.intro hf1 hbb))
  clear hr2 hf1 hbb hr1 b1 b2 hr1lt hg2
  generalize hB : w.heap.size = B at *
  have HB := Lib.hid hB
  go_loopw [11] (fun iv wr => ∃ (k l : Nat), k ≤ ops.length ∧ k ≤ 50 ∧ iv = .int .i64 k ∧ l ≤ Bu ∧ MtAt wr g1 R Bu l ∧ MtAt wr g2 R Bu l ∧ Below B w wr) (fun iv _ => 50 - (intOf iv).toNat)
  case atStart => exact ⟨0, Bu, Nat.zero_le _, by omega, rfl, Nat.le_refl _, HX.out.1, HX.out.2.1, HX.out.2.2⟩
  case round =>
    obtain ⟨k, l, hk, hk2, rfl, hl, hr1, hf1, hbw⟩ := hrel
    have Hr1 := Lib.hid hr1
    have Hf1 := Lib.hid hf1
    have Hbw := Lib.hid hbw
    clear hr1 hf1 hbw
    by_cases hlt : k < ops.length ∧ k < 50
    · obtain ⟨hl1, hl2⟩ := hlt
      have t1 : decide (k < ops.length) = true := by simpa using hl1
      have t2 : decide ((k : Int) < 50) = true := by simp; omega
      rcases HC.out with hnil | ⟨b, off, rfl, hblt, hcell⟩
      · rw [hnil] at hl1; simp at hl1
      · obtain ⟨p, n, hn, hpw, hnw⟩ : ∃ (p : Bool) (n : Int), n ≤ 9223372036854775807 ∧ wr.cell? ⟨b, off + k * 2, none⟩ = some (.bool p) ∧ wr.cell? ⟨b, off + k * 2 + 1, none⟩ = some (.int .i64 n) :=
          ⟨ops[k].fTick, ops[k].fN, (wf_i64 (HOK.out _ (List.getElem_mem hl1)).1).2, (Hbw.out.cell hblt).trans (hcell k 0 _ hl1 rfl), (Hbw.out.cell hblt).trans (hcell k 1 _ hl1 rfl)⟩
        clear hcell HC HX HOK
        have hBw : B ≤ wr.heap.size := by rw [← HB.out]; exact Hbw.out.size
        have HBW := Lib.hid hBw
        clear hBw
        cases p with
        | true =>
          by_cases h50 : 50 < n
          · have d1 : decide (50 < n) = true := by simpa using h50
            clear h50
            go_wp2_with fail
            refine (awake09 _).mono ?_
            rintro x w5 ⟨rfl, b5⟩
            go_wp2
            go_ret
            rw [HB.out]
            exact ⟨rfl, Hbw.out.trans (b5.mono HBW.out)⟩
          have d1 : decide (50 < n) = false := by simpa using h50
          have hC := Lib.hid (fun W h => MtTick_any W g1 R Bu l n h hR hBu hl hn)
          by_cases hn0 : n < 0
          · have d2 : decide (n < 0) = true := by simpa using hn0
            have e1 : tickE n = 1 := by unfold tickE; rw [if_pos hn0]
            have e2 : tickM R Bu l n = l := by unfold tickM; rw [if_pos hn0]
            rw [e1, e2] at hC
            clear e1 e2 hn0 h50
            go_wp2_with fail
            refine (hC.out _ Hr1.out).mono ?_
            rintro x w5 ⟨rfl, h5, b5⟩
            have HH := Lib.hid (And.intro h5 b5)
            clear h5 b5
            go_wp2_with fail
            refine (awake09 _).mono ?_
            rintro x w6 ⟨rfl, b6⟩
            go_wp2
            go_ret
            rw [HB.out]
            have k5 := HH.out.2.below Hbw.out hg HBW.out
            exact ⟨rfl, k5.trans (b6.mono (by rw [← HB.out]; exact k5.size))⟩
          · obtain ⟨m, rfl⟩ := Int.eq_ofNat_of_zero_le (show 0 ≤ n by omega)
            have e1 : tickE m = 0 := by unfold tickE; rw [if_neg hn0]
            have e2 : tickM R Bu l m = min Bu (l + R * m) := by unfold tickM; rw [if_neg hn0]; rfl
            rw [e1, e2] at hC
            have hm : m ≤ 50 := by omega
            clear e1 e2 hn0 h50 hn
            have hC1 := Lib.hid (fun W x (h : MtAt W g2 R Bu (min Bu (l + R * x))) => MtTick_any W g2 R Bu (min Bu (l + R * x)) 1 h hR hBu (Nat.min_le_left _ _) (by omega))
            go_wp2_with fail
            refine (hC.out _ Hr1.out).mono ?_
            rintro x w5 ⟨rfl, h5, b5⟩
            have HH := Lib.hid (And.intro h5 (And.intro (Hf1.out.bar b5 (Ne.symm hne)) (b5.below Hbw.out hg HBW.out)))
            clear h5 b5
            go_wp2
            go_loopw [13] (fun jv ws => ∃ j : Nat, j ≤ m ∧ jv = .int .i64 j ∧ MtAt ws g1 R Bu (min Bu (l + R * m)) ∧ MtAt ws g2 R Bu (min Bu (l + R * j)) ∧ Below B w ws) (fun jv _ => m - (intOf jv).toNat)
            case atStart => exact ⟨0, Nat.zero_le _, rfl, HH.out.1, by rw [Nat.mul_zero, Nat.add_zero, Nat.min_eq_right hl]; exact HH.out.2.1, HH.out.2.2⟩
            case round =>
              obtain ⟨j, hj, rfl, h1, h2, h3⟩ := hrel
              have HJ := Lib.hid (And.intro h1 (And.intro h2 h3))
              clear h1 h2 h3
              by_cases hjm : j < m
              · have d3 : decide (j < m) = true := by simpa using hjm
                go_wp2_with fail
                refine (hC1.out _ j HJ.out.2.1).mono ?_
                rintro x w7 ⟨rfl, h7, b7⟩
                have e4 : tickM R Bu (min Bu (l + R * j)) 1 = min Bu (l + R * (j + 1)) := tick_next
                rw [e4] at h7
                have HK := Lib.hid (And.intro (HJ.out.1.bar b7 hne) (And.intro h7 (b7.below HJ.out.2.2 hB2 (by rw [← HB.out]; exact HJ.out.2.2.size))))
                clear h7 b7 e4
                go_wp2
                go_roundw
                case rel => exact ⟨j + 1, hjm, by go_num, HK.out.1, HK.out.2.1, HK.out.2.2⟩
                case measure => simp [intOf]; omega
              · have d3 : decide (j < m) = false := by simpa using hjm
                obtain rfl : j = m := by omega
                have hL1 := Lib.hid (fun W h => MtLeft_any W g1 R Bu (min Bu (l + R * j)) h (by omega))
                have hL2 := Lib.hid (fun W h => MtLeft_any W g2 R Bu (min Bu (l + R * j)) h (by omega))
                have hmin := Nat.min_le_left Bu (l + R * j)
                generalize min Bu (l + R * j) = q at *
                go_wp2_with fail
                refine (hL1.out _ HJ.out.1).mono ?_
                rintro x w8 ⟨rfl, rfl⟩
                go_wp2_with fail
                refine (hL2.out _ HJ.out.2.1).mono ?_
                rintro x w8 ⟨rfl, rfl⟩
                have d4 : decide ((q : Int) = q) = true := by simp
                go_wp2
                go_roundw
                case rel => exact ⟨k + 1, q, hl1, hl2, by go_num, hmin, HJ.out.1, HJ.out.2.1, HJ.out.2.2⟩
                case measure => simp [intOf]; omega
        | false =>
          have hC := Lib.hid (fun W h => MtTake_any W g1 R Bu l n h (by omega) hn)
          have hC2 := Lib.hid (fun W h => MtTake_any W g2 R Bu l n h (by omega) hn)
          have hq := takeM_le (t := n) hl
          have hL1 := Lib.hid (fun W h => MtLeft_any W g1 R Bu (takeM l n) h (by omega))
          have hL2 := Lib.hid (fun W h => MtLeft_any W g2 R Bu (takeM l n) h (by omega))
          generalize takeM l n = q at *
          generalize takeOk l n = ok at *
          generalize takeE n = er at *
          go_wp2_with fail
          refine (hC.out _ Hr1.out).mono ?_
          rintro x w5 ⟨rfl, h5, b5⟩
          have HH := Lib.hid (And.intro h5 (And.intro (Hf1.out.bar b5 (Ne.symm hne)) (b5.below Hbw.out hg HBW.out)))
          clear h5 b5
          go_wp2_with fail
          refine (hC2.out _ HH.out.2.1).mono ?_
          rintro x w6 ⟨rfl, h6, b6⟩
          have HJ := Lib.hid (And.intro (HH.out.1.bar b6 hne) (And.intro h6 (b6.below HH.out.2.2 hB2 (by rw [← HB.out]; exact HH.out.2.2.size))))
          clear h6 b6
          have d5 : decide (er = er) = true := by simp
          go_wp2_with fail
          refine (hL1.out _ HJ.out.1).mono ?_
          rintro x w8 ⟨rfl, rfl⟩
          go_wp2_with fail
          refine (hL2.out _ HJ.out.2.1).mono ?_
          rintro x w8 ⟨rfl, rfl⟩
          have d4 : decide ((q : Int) = q) = true := by simp
          go_wp2
          go_roundw
          case rel => exact ⟨k + 1, q, hl1, hl2, by go_num, hq, HJ.out.1, HJ.out.2.1, HJ.out.2.2⟩
          case measure => simp [intOf]; omega
    · have hcase : (∃ x : Unit, decide (k < ops.length) = false) ∨ (∃ x : Unit, decide (k < ops.length) = true ∧ decide ((k : Int) < 50) = false) := by
        by_cases h1 : k < ops.length
        · exact .inr ⟨(), by simpa using h1, by simp; omega⟩
        · exact .inl ⟨(), by simpa using h1⟩
      clear hlt HC HX Hr1 Hf1
      rcases hcase with ⟨_, h1⟩ | ⟨_, h1, h2⟩
      all_goals
        go_wp2_with fail
        refine (awake09 _).mono ?_
        rintro x w5 ⟨rfl, b5⟩
        go_wp2
        go_ret
        rw [HB.out]
        exact ⟨rfl, Hbw.out.trans (b5.mono (by rw [← HB.out]; exact Hbw.out.size))⟩

theorem MeterFair_walk (w : World) (r : Int) (wr : (Lit.int .i64 r).wf = true) (b : Int) (wb : (Lit.int .i64 b).wf = true) (v : Value) (ops : List MOp) (hv : ReadL w 2 encMOp v ops) (hok : ∀ x ∈ ops, okMOp w x) :
    Calls Try.prog 5 #[.int .i64 r, .int .i64 b, v] w fun x w' => x = .returned (.bool true) ∧ Below w.heap.size w w' := by
  by_cases hc : newOk r b
  · obtain ⟨h1, h2, h3, h4⟩ := hc
    obtain ⟨R, rfl⟩ := Int.eq_ofNat_of_zero_le h1
    obtain ⟨Bu, rfl⟩ := Int.eq_ofNat_of_zero_le h3
    exact MeterFair_core w R Bu v ops (by omega) (by omega) hv hok
  · have hN := Lib.hid (fun W => MtNew_no W r b hc)
    obtain ⟨a, cap, rfl, hcap, hmax, hcells⟩ := hv
    clear hcells hok wr wb hcap hmax hc
    go_enter Try.func5, Try.ntmps5
    go_wp2_with fail
    refine (hN.out _).mono ?_
    rintro e w1 ⟨rfl, rfl⟩
    go_wp2_with fail
    refine (hN.out _).mono ?_
    rintro e w1 ⟨rfl, rfl⟩
    go_wp2_with fail
    refine (awake09 _).mono ?_
    rintro x w5 ⟨rfl, b5⟩
    go_wp2
    go_ret
    exact ⟨rfl, b5⟩
end Go.Proofs.Ytnemolbppebmkaa
