/- The walk of MeterPlays. -/
import Derived.Test.YtnemolbppebmkaaRef09
import Derived.Test.YtnemolbppebmkaaTOp09
namespace Go.Proofs.Ytnemolbppebmkaa
open Go.RowKit
set_option linter.unusedVariables false

theorem tickM_le {r b l : Nat} {t : Int} (h : l ≤ b) : tickM r b l t ≤ b := by unfold tickM; split <;> omega
theorem takeM_le {b l : Nat} {t : Int} (h : l ≤ b) : takeM l t ≤ b := by unfold takeM; split <;> omega

/-- Both buckets in one world, and the call's number. -/
def MR (B : Nat) (w : World) (g1 g2 : Nat) (a : Addr) (n : Int) (r b l l' : Nat) (W : World) : Prop :=
  MtAt W g1 r b l ∧ RmAt W g2 r b l' ∧ Below B w W ∧ B ≤ W.heap.size ∧ W.cell? a = some (.int .i64 n)
section
variable {B : Nat} {w : World} {g1 g2 : Nat} {a : Addr} {n : Int} {r b l l' : Nat} {W W' : World}
theorem MR.cell (h : MR B w g1 g2 a n r b l l' W) : W.cell? a = some (.int .i64 n) := h.2.2.2.2
theorem MR.ref (h : MR B w g1 g2 a n r b l l' W) : W.cell? ⟨g2, 2, none⟩ = some (.int .i64 l') := h.2.1.cell 2 _ rfl
theorem MR.drew (h : MR B w g1 g2 a n r b l l' W) : MR B w g1 g2 a n r b l l' W.drew := ⟨h.1, h.2.1, h.2.2.1.drew, h.2.2.2.1, h.cell⟩
theorem MR.drewN (h : MR B w g1 g2 a n r b l l' W) (k : Nat) : MR B w g1 g2 a n r b l l' (W.drewN k) := ⟨h.1, h.2.1, belowN h.2.2.1 k, h.2.2.2.1, h.cell⟩
theorem MR.one {m : Nat} (h : MR B w g1 g2 a n r b l l' W) (hb : Bar g1 W W') (hn : MtAt W' g1 r b m) (hne : g1 ≠ g2) (h1 : B ≤ g1) (ha : a.block < B) : MR B w g1 g2 a n r b m l' W' :=
  ⟨hn, h.2.1.bar hb (Ne.symm hne), hb.below h.2.2.1 h1 h.2.2.2.1, Nat.le_trans h.2.2.2.1 hb.size, by
    have := hb.below (Below.refl B W) h1 h.2.2.2.1
    rw [this.cell ha]; exact h.cell⟩
theorem MR.two {m : Nat} (h : MR B w g1 g2 a n r b l l' W) (hb : Bar g2 W W') (hn : RmAt W' g2 r b m) (hne : g1 ≠ g2) (h1 : B ≤ g2) (ha : a.block < B) : MR B w g1 g2 a n r b l m W' :=
  ⟨h.1.bar hb hne, hn, hb.below h.2.2.1 h1 h.2.2.2.1, Nat.le_trans h.2.2.2.1 hb.size, by
    have := hb.below (Below.refl B W) h1 h.2.2.2.1
    rw [this.cell ha]; exact h.cell⟩
end

set_option maxRecDepth 100000 in
set_option maxHeartbeats 8000000 in
theorem MeterPlays_core (w : World) (R Bu : Nat) (v : Value) (ops : List MOp) (hR : R ≤ 4294967295) (hBu : Bu ≤ 4294967295) (hv : ReadL w 2 encMOp v ops) (hok : ∀ x ∈ ops, okMOp w x) :
    Calls Try.prog 3 #[.int .i64 R, .int .i64 Bu, v] w fun x w' => x = .returned (.bool true) ∧ Below w.heap.size w w' := by
  obtain ⟨a, cap, rfl, hcap, hmax, hcells⟩ := hv
  unfold maxLen at hmax
  have HC := Lib.hid hcells
  have HOK := Lib.hid hok
  clear hcells hok
  go_enter Try.func3, Try.ntmps3
  go_wp2_with fail
  refine (MtNew_yes _ R Bu hR hBu).mono ?_
  rintro e w1 ⟨g1, rfl, hg, hr1, b1⟩
  go_wp2_with fail
  refine (rNew_yes _ R Bu hR hBu).mono ?_
  rintro e w2 ⟨g2, rfl, hg2, hf1, b2⟩
  go_wp2_with fail
  have hr1lt := hr1.lt
  have hne : g1 ≠ g2 := by omega
  have hB2 : w.heap.size ≤ g2 := Nat.le_trans b1.size hg2
  have hr2 : MtAt w2 g1 R Bu Bu := hr1.below b2 hr1lt
  have hbb := b1.trans (b2.mono b1.size)
  have HX := Lib.hid (And.intro hr2 (And.intro hf1 hbb))
  clear hr2 hf1 hbb hr1 b1 b2 hr1lt hg2
  generalize hB : w.heap.size = B at *
  go_loopw [11] (fun iv wr => ∃ (k l : Nat), k ≤ ops.length ∧ k ≤ 200 ∧ iv = .int .i64 k ∧ l ≤ Bu ∧ MtAt wr g1 R Bu l ∧ RmAt wr g2 R Bu l ∧ Below B w wr) (fun iv _ => 200 - (intOf iv).toNat)
  case atStart => exact ⟨0, Bu, Nat.zero_le _, by omega, rfl, Nat.le_refl _, HX.out.1, HX.out.2.1, HX.out.2.2⟩
  case round =>
    obtain ⟨k, l, hk, hk2, rfl, hl, hr1, hf1, hbw⟩ := hrel
    have Hr1 := Lib.hid hr1
    have Hf1 := Lib.hid hf1
    have Hbw := Lib.hid hbw
    clear hr1 hf1 hbw
    by_cases hlt : k < ops.length ∧ k < 200
    · obtain ⟨hl1, hl2⟩ := hlt
      have t1 : decide (k < ops.length) = true := by simpa using hl1
      have t2 : decide ((k : Int) < 200) = true := by simp; omega
      rcases HC.out with hnil | ⟨b, off, rfl, hblt, hcell⟩
      · rw [hnil] at hl1; simp at hl1
      · obtain ⟨p, n, hn, hpw, hnw⟩ : ∃ (p : Bool) (n : Int), n ≤ 9223372036854775807 ∧ wr.cell? ⟨b, off + k * 2, none⟩ = some (.bool p) ∧ wr.cell? ⟨b, off + k * 2 + 1, none⟩ = some (.int .i64 n) :=
          ⟨ops[k].fTick, ops[k].fN, (wf_i64 (HOK.out _ (List.getElem_mem hl1)).1).2, (Hbw.out.cell hblt).trans (hcell k 0 _ hl1 rfl), (Hbw.out.cell hblt).trans (hcell k 1 _ hl1 rfl)⟩
        clear hcell HC HX HOK
        have hNR : MR B w g1 g2 ⟨b, off + k * 2 + 1, none⟩ n R Bu l l wr := ⟨Hr1.out, Hf1.out, Hbw.out, by rw [← hB]; exact Hbw.out.size, hnw⟩
        cases p with
        | true =>
          have hll := tickM_le (r := R) (t := n) hl
          have CB : ∀ W l', MR B w g1 g2 ⟨b, off + k * 2 + 1, none⟩ n R Bu l l' W → Calls Try.prog 12 #[.pointer (some ⟨g1, 0, none⟩), .int .i64 n] W fun x w' =>
              x = .returned (.int .i64 (tickE n)) ∧ MR B w g1 g2 ⟨b, off + k * 2 + 1, none⟩ n R Bu (tickM R Bu l n) l' w' :=
            fun W l' h => (MtTick_any W g1 R Bu l n h.1 hR hBu hl hn).mono fun x w' ⟨h1, h2, h3⟩ => ⟨h1, h.one h3 h2 hne hg hblt⟩
          have CR : ∀ W l', MR B w g1 g2 ⟨b, off + k * 2 + 1, none⟩ n R Bu l' l W → Calls Try.prog 13 #[.pointer (some ⟨g2, 0, none⟩), .int .i64 n] W fun x w' =>
              x = .returned (.int .i64 (tickE n)) ∧ MR B w g1 g2 ⟨b, off + k * 2 + 1, none⟩ n R Bu l' (tickM R Bu l n) w' :=
            fun W l' h => (rTick_any W g2 R Bu l n h.2.1 hR hBu hl hn).mono fun x w' ⟨h1, h2, h3⟩ => ⟨h1, h.two h3 h2 hne hB2 hblt⟩
          generalize tickM R Bu l n = m at *
          generalize tickE n = te at *
          have CL : ∀ W, MR B w g1 g2 ⟨b, off + k * 2 + 1, none⟩ n R Bu m m W → Calls Try.prog 16 #[.pointer (some ⟨g1, 0, none⟩)] W fun x w' => x = .returned (.int .i64 m) ∧ W = w' :=
            fun W h => MtLeft_any W g1 R Bu m h.1 (by omega)
          have HCB := Lib.hid CB
          have HCR := Lib.hid CR
          have HCL := Lib.hid CL
          clear CB CR CL hnw
          go_wp2_with fail
          have hc0 := hNR.cell
          have hNR0 := hNR.drew
          clear hNR
          go_region_with (first
            | (go_at_call 12; go_must (refine (HCB.out _ _ (by assumption)).mono ?_; rintro x w5 ⟨rfl, hN5⟩; have hc5 := hN5.cell))
            | (go_at_call 13; go_must (refine (HCR.out _ _ (by assumption)).mono ?_; rintro x w6 ⟨rfl, hN6⟩; have hc6 := hN6.cell))
            | fail)
          all_goals
            go_wp2_with fail
            have hZ := (fun (W : World) (h : MR B w g1 g2 ⟨b, off + k * 2 + 1, none⟩ n R Bu m m W) => h) _ (by assumption)
            have hcz := hZ.ref
            go_quiet ((go_at_call 16; exact quiet_same (HCL.out _ (hZ.drewN _))))
            go_wp2
            go_roundw
            case rel => exact ⟨k + 1, m, by omega, by omega, by go_num, hll, (hZ.drewN _).1, (hZ.drewN _).2.1, (hZ.drewN _).2.2.1⟩
            case measure => simp [intOf]; omega
        | false =>
          have hll := takeM_le (t := n) hl
          have CB : ∀ W l', MR B w g1 g2 ⟨b, off + k * 2 + 1, none⟩ n R Bu l l' W → Calls Try.prog 14 #[.pointer (some ⟨g1, 0, none⟩), .int .i64 n] W fun x w' =>
              x = .returned (.tuple #[.bool (takeOk l n), .int .i64 (takeE n)]) ∧ MR B w g1 g2 ⟨b, off + k * 2 + 1, none⟩ n R Bu (takeM l n) l' w' :=
            fun W l' h => (MtTake_any W g1 R Bu l n h.1 (by omega) hn).mono fun x w' ⟨h1, h2, h3⟩ => ⟨h1, h.one h3 h2 hne hg hblt⟩
          have CR : ∀ W l', MR B w g1 g2 ⟨b, off + k * 2 + 1, none⟩ n R Bu l' l W → Calls Try.prog 15 #[.pointer (some ⟨g2, 0, none⟩), .int .i64 n] W fun x w' =>
              x = .returned (.tuple #[.bool (takeOk l n), .int .i64 (takeE n)]) ∧ MR B w g1 g2 ⟨b, off + k * 2 + 1, none⟩ n R Bu l' (takeM l n) w' :=
            fun W l' h => (rTake_any W g2 R Bu l n h.2.1 (by omega) hn).mono fun x w' ⟨h1, h2, h3⟩ => ⟨h1, h.two h3 h2 hne hB2 hblt⟩
          generalize takeM l n = m at *
          generalize takeE n = te at *
          generalize takeOk l n = tk at *
          have CL : ∀ W, MR B w g1 g2 ⟨b, off + k * 2 + 1, none⟩ n R Bu m m W → Calls Try.prog 16 #[.pointer (some ⟨g1, 0, none⟩)] W fun x w' => x = .returned (.int .i64 m) ∧ W = w' :=
            fun W h => MtLeft_any W g1 R Bu m h.1 (by omega)
          have HCB := Lib.hid CB
          have HCR := Lib.hid CR
          have HCL := Lib.hid CL
          clear CB CR CL
          go_wp2_with fail
          refine (HCB.out _ _ hNR).mono ?_
          rintro x w5 ⟨rfl, hN5⟩
          have hc5 := hN5.cell
          go_wp2_with fail
          refine (HCR.out _ _ hN5).mono ?_
          rintro x w6 ⟨rfl, hZ⟩
          have hcz := hZ.ref
          go_wp2_with fail
          go_quiet ((go_at_call 16; exact quiet_same (HCL.out _ (hZ.drewN _))))
          go_wp2
          go_roundw
          case rel => exact ⟨k + 1, m, by omega, by omega, by go_num, hll, (hZ.drewN _).1, (hZ.drewN _).2.1, (hZ.drewN _).2.2.1⟩
          case measure => simp [intOf]; omega
    · have hc : (∃ x : Unit, decide (k < ops.length) = false) ∨ (∃ x : Unit, decide (k < ops.length) = true ∧ decide ((k : Int) < 200) = false) := by
        by_cases h1 : k < ops.length
        · exact .inr ⟨(), by simpa using h1, by simp; omega⟩
        · exact .inl ⟨(), by simpa using h1⟩
      clear hlt HC HX Hr1 Hf1
      rcases hc with ⟨_, t1⟩ | ⟨_, t1, t2⟩
      all_goals
        go_wp2_with fail
        refine (awake09 _).mono ?_
        rintro x w5 ⟨rfl, b5⟩
        go_wp2
        go_ret
        rw [hB]
        exact ⟨rfl, Hbw.out.trans (b5.mono (by rw [← hB]; exact Hbw.out.size))⟩

set_option maxRecDepth 100000 in
theorem MeterPlays_walk (w : World) (r : Int) (wr : (Lit.int .i64 r).wf = true) (b : Int) (wb : (Lit.int .i64 b).wf = true) (v : Value) (ops : List MOp) (hv : ReadL w 2 encMOp v ops) (hok : ∀ x ∈ ops, okMOp w x) :
    Calls Try.prog 3 #[.int .i64 r, .int .i64 b, v] w fun x w' => x = .returned (.bool true) ∧ Below w.heap.size w w' := by
  by_cases h : newOk r b
  · obtain ⟨h1, h2, h3, h4⟩ := h
    obtain ⟨R, rfl⟩ := Int.eq_ofNat_of_zero_le h1
    obtain ⟨Bu, rfl⟩ := Int.eq_ofNat_of_zero_le h3
    exact MeterPlays_core w R Bu v ops (by omega) (by omega) hv hok
  · have hN := Lib.hid (fun w => MtNew_no w r b h)
    have hR := Lib.hid (fun w => rNew_no w r b h)
    clear h hok hv wr wb
    go_enter Try.func3, Try.ntmps3
    go_wp2_with fail
    refine (hN.out _).mono ?_
    rintro e w1 ⟨rfl, rfl⟩
    go_wp2_with fail
    refine (hR.out _).mono ?_
    rintro e w1 ⟨rfl, rfl⟩
    go_wp2_with fail
    refine (awake09 _).mono ?_
    rintro e w2 ⟨rfl, h2⟩
    go_wp2
    go_ret
    exact ⟨rfl, h2⟩
end Go.Proofs.Ytnemolbppebmkaa
