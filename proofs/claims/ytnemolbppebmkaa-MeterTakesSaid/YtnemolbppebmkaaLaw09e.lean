/- The walk of MeterTakes. -/
import Derived.Test.YtnemolbppebmkaaLaw09b
namespace Go.Proofs.Ytnemolbppebmkaa
open Go.RowKit
set_option linter.unusedVariables false

def tickOf (o : MOp) : Nat := if o.fTick = true then o.fN.toNat else 0
def askOf (o : MOp) : Nat := if o.fTick = true then 0 else o.fN.toNat
def preS (f : MOp → Nat) (ops : List MOp) (k : Nat) : Nat := ((ops.take k).map f).sum
theorem preS_succ (f : MOp → Nat) (ops : List MOp) (k : Nat) (h : k < ops.length) : preS f ops (k + 1) = preS f ops k + f ops[k] := by
  unfold preS
  rw [List.take_add_one, List.getElem?_eq_getElem h, List.map_append, List.sum_append]
  simp only [Option.toList, List.map_cons, List.map_nil, List.sum_cons, List.sum_nil, Nat.add_zero]
/-- Every number may be. -/
def Small (ops : List MOp) (k : Nat) : Prop := ∀ j, j < k → ∀ h : j < ops.length, 0 ≤ ops[j].fN ∧ ops[j].fN ≤ 1048576
/-- What is asked for from call i to call j is no more than may be. -/
def Fits (ops : List MOp) (R Bu i j : Nat) : Prop := ∀ h : j < ops.length, ops[j].fTick = false → preS askOf ops (j + 1) ≤ preS askOf ops i + (Bu + R * (preS tickOf ops j - preS tickOf ops i))
/-- What is left is what it was, when it was full, and less what was taken, and more what came. -/
def LeftIs (ops : List MOp) (R Bu k l : Nat) : Prop := l ≤ Bu ∧ ∃ i, i ≤ k ∧ preS tickOf ops i ≤ preS tickOf ops k ∧ Bu + R * (preS tickOf ops k - preS tickOf ops i) + preS askOf ops i ≤ l + preS askOf ops k
theorem LeftIs.start (ops : List MOp) (R Bu : Nat) : LeftIs ops R Bu 0 Bu := ⟨Nat.le_refl _, 0, Nat.le_refl _, Nat.le_refl _, by simp⟩
theorem LeftIs.tick {ops : List MOp} {R Bu k l n : Nat} (h : LeftIs ops R Bu k l) (hk : k < ops.length) (ht : ops[k].fTick = true) (hn : ops[k].fN = n) : LeftIs ops R Bu (k + 1) (min Bu (l + R * n)) := by
  obtain ⟨hl, i, hi, hm, hs⟩ := h
  have e1 := preS_succ tickOf ops k hk
  have e2 := preS_succ askOf ops k hk
  have e3 : tickOf ops[k] = n := by unfold tickOf; rw [if_pos ht, hn]; rfl
  have e4 : askOf ops[k] = 0 := by unfold askOf; rw [if_pos ht]
  rw [e3] at e1
  rw [e4, Nat.add_zero] at e2
  refine ⟨Nat.min_le_left _ _, ?_⟩
  by_cases hb : Bu ≤ l + R * n
  · refine ⟨k + 1, Nat.le_refl _, Nat.le_refl _, ?_⟩
    rw [Nat.min_eq_left hb, Nat.sub_self, Nat.mul_zero]
    exact Nat.le_refl _
  · refine ⟨i, by omega, by omega, ?_⟩
    rw [Nat.min_eq_right (by omega), e1, e2, show preS tickOf ops k + n - preS tickOf ops i = (preS tickOf ops k - preS tickOf ops i) + n by omega, Nat.mul_add]
    omega
theorem LeftIs.ask {ops : List MOp} {R Bu k l n : Nat} (h : LeftIs ops R Bu k l) (hk : k < ops.length) (ht : ops[k].fTick = false) (hn : ops[k].fN = n) (hf : ∀ i, i ≤ k → Fits ops R Bu i k) : n ≤ l ∧ LeftIs ops R Bu (k + 1) (l - n) := by
  obtain ⟨hl, i, hi, hm, hs⟩ := h
  have e1 := preS_succ tickOf ops k hk
  have e2 := preS_succ askOf ops k hk
  have e3 : tickOf ops[k] = 0 := by unfold tickOf; rw [if_neg (by simp [ht])]
  have e4 : askOf ops[k] = n := by unfold askOf; rw [if_neg (by simp [ht]), hn]; rfl
  have hff := hf i hi hk ht
  rw [e3] at e1
  replace e1 : preS tickOf ops (k + 1) = preS tickOf ops k := e1
  rw [e4] at e2
  rw [e2] at hff
  refine ⟨by omega, by omega, i, by omega, by omega, ?_⟩
  rw [e1, e2]
  omega
/-- Sums from call i on. -/
def From (ops : List MOp) (i k a t : Nat) : Prop := preS askOf ops k = preS askOf ops i + a ∧ preS tickOf ops k = preS tickOf ops i + t ∧ a ≤ k * 1048576 ∧ t ≤ k * 1048576
theorem From.tick {ops : List MOp} {i k a t n : Nat} (h : From ops i k a t) (hk : k < ops.length) (ht : ops[k].fTick = true) (hn : ops[k].fN = n) (hn2 : n ≤ 1048576) : From ops i (k + 1) a (t + n) := by
  have e1 := preS_succ tickOf ops k hk
  have e2 := preS_succ askOf ops k hk
  have e3 : tickOf ops[k] = n := by unfold tickOf; rw [if_pos ht, hn]; rfl
  have e4 : askOf ops[k] = 0 := by unfold askOf; rw [if_pos ht]
  obtain ⟨h1, h2, h3, h4⟩ := h
  exact ⟨by omega, by omega, Nat.le_trans h3 (Nat.mul_le_mul_right _ (Nat.le_succ k)), by rw [Nat.succ_mul]; exact Nat.add_le_add h4 hn2⟩
theorem From.ask {ops : List MOp} {i k a t n : Nat} (h : From ops i k a t) (hk : k < ops.length) (ht : ops[k].fTick = false) (hn : ops[k].fN = n) (hn2 : n ≤ 1048576) : From ops i (k + 1) (a + n) t := by
  have e1 := preS_succ tickOf ops k hk
  have e2 := preS_succ askOf ops k hk
  have e3 : tickOf ops[k] = 0 := by unfold tickOf; rw [if_neg (by simp [ht])]
  have e4 : askOf ops[k] = n := by unfold askOf; rw [if_neg (by simp [ht]), hn]; rfl
  obtain ⟨h1, h2, h3, h4⟩ := h
  exact ⟨by omega, by omega, by rw [Nat.succ_mul]; exact Nat.add_le_add h3 hn2, Nat.le_trans h4 (Nat.mul_le_mul_right _ (Nat.le_succ k))⟩
theorem Fits.of {ops : List MOp} {R Bu i k a t n : Nat} (h : From ops i k a t) (hk : k < ops.length) (hn : ops[k].fN = n) (hle : a + n ≤ Bu + R * t) : Fits ops R Bu i k := by
  intro _ ht
  have e2 := preS_succ askOf ops k hk
  have e4 : askOf ops[k] = n := by unfold askOf; rw [if_neg (by simp [ht]), hn]; rfl
  obtain ⟨h1, h2, h3, h4⟩ := h
  rw [e2, e4, h1, h2, Nat.add_sub_cancel_left]
  omega
theorem Fits.tick {ops : List MOp} {R Bu i k : Nat} (hk : k < ops.length) (ht : ops[k].fTick = true) : Fits ops R Bu i k := by
  intro _ h
  rw [ht] at h
  cases h

set_option maxRecDepth 100000 in
set_option maxHeartbeats 8000000 in
theorem MeterTakes_core (w : World) (R Bu : Nat) (v : Value) (ops : List MOp) (hR : R ≤ 1048576) (hBu : Bu ≤ 1048576) (hL : ops.length ≤ 60) (hv : ReadL w 2 encMOp v ops) :
    Calls Try.prog 8 #[.agg #[.int .i64 R, .int .i64 Bu], v] w fun x w' => x = .returned (.bool true) ∧ Below w.heap.size w w' := by
  obtain ⟨a, cap, rfl, hcap, hmax, hcells⟩ := hv
  unfold maxLen at hmax
  have t1 : decide ((R : Int) < 0) = false := by simp
  have t2 : decide (1048576 < (R : Int)) = false := by simp; omega
  have t3 : decide ((Bu : Int) < 0) = false := by simp
  have t4 : decide (1048576 < (Bu : Int)) = false := by simp; omega
  have t5 : decide (60 < (ops.length : Int)) = false := by simp; omega
  -- one element of the list
  have HC : Hid (∀ (wr : World) (k : Nat) (hk : k < ops.length), Below w.heap.size w wr → ∃ (b off : Nat) (p : Bool) (n : Int), a = some ⟨b, off, none⟩ ∧ ops[k].fTick = p ∧ ops[k].fN = n ∧ wr.cell? ⟨b, off + k * 2, none⟩ = some (.bool p) ∧ wr.cell? ⟨b, off + k * 2 + 1, none⟩ = some (.int .i64 n)) := by
    show _
    intro wr k hk hb
    rcases hcells with hnil | ⟨b, off, rfl, hblt, hcell⟩
    · rw [hnil] at hk; simp at hk
    · exact ⟨b, off, _, _, rfl, rfl, rfl, (hb.cell hblt).trans (hcell k 0 _ hk rfl), (hb.cell hblt).trans (hcell k 1 _ hk rfl)⟩
  clear hcells
  go_enter Try.func8, Try.ntmps8
  go_wp2_with fail
  have b0 : Below w.heap.size w (w.alloc (.cells #[.int .i64 R, .int .i64 Bu] 40)) := (Below.refl _ _).alloc (Nat.le_refl _) _
  have HX := Lib.hid b0
  clear b0
  generalize hB : w.heap.size = B at *
  have HB := Lib.hid hB
  go_loopw [7] (fun iv wr => ∃ (k : Nat), k ≤ ops.length ∧ iv = .int .i64 k ∧ Hid (Small ops k) ∧ Below B w wr) (fun iv _ => ops.length - (intOf iv).toNat)
  case atStart => exact ⟨0, Nat.zero_le _, rfl, (by show Small ops 0; intro j hj; omega), HX.out⟩
  case round =>
    obtain ⟨k, hk, rfl, hsm, hbw⟩ := hrel
    have Hbw := Lib.hid hbw
    clear hbw HX
    have hBw : Hid (B ≤ wr.heap.size) := by show _ ≤ _; rw [← HB.out]; exact Hbw.out.size
    by_cases hl1 : k < ops.length
    · have t7 : decide (k < ops.length) = true := by simpa using hl1
      obtain ⟨b, off, p, n, rfl, hp, hn, hpw, hnw⟩ := HC.out wr k hl1 Hbw.out
      have HN := Lib.hid hn
      clear hp hn
      by_cases hn0 : n < 0
      · have d1 : decide (n < 0) = true := by simpa using hn0
        clear hn0
        go_wp2_with fail
        refine (awake09 _).mono ?_
        rintro x w5 ⟨rfl, b5⟩
        go_wp2
        go_ret
        rw [HB.out]
        exact ⟨rfl, Hbw.out.trans (b5.mono hBw.out)⟩
      have d1 : decide (n < 0) = false := by simpa using hn0
      by_cases hn1 : 1048576 < n
      · have d2 : decide (1048576 < n) = true := by simpa using hn1
        clear hn1 hn0
        go_wp2_with fail
        refine (awake09 _).mono ?_
        rintro x w5 ⟨rfl, b5⟩
        go_wp2
        go_ret
        rw [HB.out]
        exact ⟨rfl, Hbw.out.trans (b5.mono hBw.out)⟩
      have d2 : decide (1048576 < n) = false := by simpa using hn1
      have hs2 : Hid (Small ops (k + 1)) := by
        show Small ops (k + 1)
        intro j hj hjl
        by_cases hjk : j = k
        · subst hjk; rw [HN.out]; exact ⟨by omega, by omega⟩
        · exact hsm.out j (by omega) hjl
      clear hn0 hn1 hsm
      go_wp2
      go_roundw
      case rel => exact ⟨k + 1, hl1, by go_num, hs2, Hbw.out⟩
      case measure => simp [intOf]; omega
    · have t7 : decide (k < ops.length) = false := by simpa using hl1
      obtain rfl : k = ops.length := by omega
      clear hl1 hk
      -- one element whose number may be
      have HE : Hid (∀ (wr : World) (k : Nat) (hk : k < ops.length), Below B w wr → ∃ (b off : Nat) (p : Bool) (n : Nat), a = some ⟨b, off, none⟩ ∧ n ≤ 1048576 ∧ Hid (ops[k].fTick = p ∧ ops[k].fN = n) ∧ wr.cell? ⟨b, off + k * 2, none⟩ = some (.bool p) ∧ wr.cell? ⟨b, off + k * 2 + 1, none⟩ = some (.int .i64 n)) := by
        show _
        intro wr k hk hb
        obtain ⟨b, off, p, n, h1, h2, h3, h4, h5⟩ := HC.out wr k hk hb
        have := hsm.out k hk hk
        rw [h3] at this
        obtain ⟨m, rfl⟩ := Int.eq_ofNat_of_zero_le this.1
        exact ⟨b, off, p, m, h1, by omega, Lib.hid ⟨h2, h3⟩, h4, h5⟩
      clear HC hsm
      go_wp2_with fail
      go_loopw [8] (fun iv ws => ∃ (i : Nat), i ≤ ops.length ∧ iv = .int .i64 i ∧ Hid (∀ i', i' < i → ∀ j, i' ≤ j → j < ops.length → Fits ops R Bu i' j) ∧ Below B w ws) (fun iv _ => ops.length - (intOf iv).toNat)
      case atStart => exact ⟨0, Nat.zero_le _, rfl, (by show _; intro i' hi; omega), Hbw.out⟩
      case round =>
        obtain ⟨i, hi, rfl, hfit, hbs⟩ := hrel
        have Hbs := Lib.hid hbs
        clear hbs
        have hBs : Hid (B ≤ wr.heap.size) := by show _ ≤ _; rw [← HB.out]; exact Hbs.out.size
        by_cases hl2 : i < ops.length
        · have t8 : decide (i < ops.length) = true := by simpa using hl2
          go_wp2_with fail
          go_loopw [9, 10, 11] (fun av tv kv wt => ∃ (k x t : Nat), i ≤ k ∧ k ≤ ops.length ∧ av = .int .i64 x ∧ tv = .int .i64 t ∧ kv = .int .i64 k ∧ Hid (From ops i k x t) ∧ Hid (∀ j, i ≤ j → j < k → Fits ops R Bu i j) ∧ Below B w wt) (fun _ _ kv _ => ops.length - (intOf kv).toNat)
          case atStart => exact ⟨i, 0, 0, Nat.le_refl _, hi, rfl, rfl, rfl, Lib.hid ⟨rfl, rfl, Nat.zero_le _, Nat.zero_le _⟩, (by show _; intro j h1 h2; omega), Hbs.out⟩
          case round =>
            obtain ⟨k, x, t, hik, hk, rfl, rfl, rfl, hfr, hfj, hbt⟩ := hrel
            have Hbt := Lib.hid hbt
            clear hbt
            have hBt : Hid (B ≤ wr.heap.size) := by show _ ≤ _; rw [← HB.out]; exact Hbt.out.size
            by_cases hl3 : k < ops.length
            · have t9 : decide (k < ops.length) = true := by simpa using hl3
              obtain ⟨b, off, p, n, rfl, hn2, hpn, hpw, hnw⟩ := HE.out wr k hl3 Hbt.out
              have hx1 := hfr.out.2.2.1
              have ht1 := hfr.out.2.2.2
              have hRK : ((R * t : Nat) : Int) = (R : Int) * t := Int.natCast_mul _ _
              have hRK2 : R * t ≤ 1048576 * 62914560 := Nat.mul_le_mul hR (by omega)
              have p0 : 0 ≤ (R : Int) * t := by omega
              have p1 : (R : Int) * t ≤ 1048576 * 62914560 := by omega
              have q0 : (x : Int) ≤ 62914560 := by omega
              have q1 : (t : Int) ≤ 62914560 := by omega
              have HRK := Lib.hid (And.intro hRK hRK2)
              clear hRK hRK2 hx1 ht1
              cases p with
              | true =>
                have HF2 := Lib.hid (hfr.out.tick hl3 hpn.out.1 hpn.out.2 hn2)
                have HFJ : Hid (∀ j, i ≤ j → j < k + 1 → Fits ops R Bu i j) := by
                  show _
                  intro j h1 h2
                  by_cases hjk : j = k
                  · subst hjk; exact Fits.tick hl3 hpn.out.1
                  · exact hfj.out j h1 (by omega)
                clear p0 p1
                have q2 : (n : Int) ≤ 1048576 := by omega
                have HQ := Lib.hid hn2
                clear hn2
                go_wp2
                go_roundw
                case rel => exact ⟨k + 1, x, t + n, by omega, hl3, rfl, by go_num, by go_num, HF2, HFJ, Hbt.out⟩
                case measure => simp [intOf]; omega
              | false =>
                by_cases hle : x + n ≤ Bu + R * t
                · have d4 : decide ((Bu : Int) + (R : Int) * t < (x : Int) + n) = false := by have h1 := HRK.out.1; simp; omega
                  have HF2 := Lib.hid (hfr.out.ask hl3 hpn.out.1 hpn.out.2 hn2)
                  have HFJ : Hid (∀ j, i ≤ j → j < k + 1 → Fits ops R Bu i j) := by
                    show _
                    intro j h1 h2
                    by_cases hjk : j = k
                    · subst hjk; exact Fits.of hfr.out hl3 hpn.out.2 hle
                    · exact hfj.out j h1 (by omega)
                  have q2 : (n : Int) ≤ 1048576 := by omega
                  have HQ := Lib.hid hn2
                  clear hn2 hle
                  go_wp2
                  go_roundw
                  case rel => exact ⟨k + 1, x + n, t, by omega, hl3, by go_num, rfl, by go_num, HF2, HFJ, Hbt.out⟩
                  case measure => simp [intOf]; omega
                · have d4 : decide ((Bu : Int) + (R : Int) * t < (x : Int) + n) = true := by have h1 := HRK.out.1; simp; omega
                  have q2 : (n : Int) ≤ 1048576 := by omega
                  have HQ := Lib.hid hn2
                  clear hn2 hle
                  go_wp2_with fail
                  refine (awake09 _).mono ?_
                  rintro x w5 ⟨rfl, b5⟩
                  go_wp2
                  go_ret
                  rw [HB.out]
                  exact ⟨rfl, Hbt.out.trans (b5.mono hBt.out)⟩
            · have t9 : decide (k < ops.length) = false := by simpa using hl3
              obtain rfl : k = ops.length := by omega
              have HFI : Hid (∀ i', i' < i + 1 → ∀ j, i' ≤ j → j < ops.length → Fits ops R Bu i' j) := by
                show _
                intro i' h1 j h2 h3
                by_cases hii : i' = i
                · subst hii; exact hfj.out j h2 h3
                · exact hfit.out i' (by omega) j h2 h3
              clear hl3 hk
              go_wp2
              go_roundw
              case rel => exact ⟨i + 1, hl2, by go_num, HFI, Hbt.out⟩
              case measure => simp [intOf]; omega
        · have t8 : decide (i < ops.length) = false := by simpa using hl2
          obtain rfl : i = ops.length := by omega
          clear hl2 hi
          go_wp2_with fail
          refine (MtNew_yes _ R Bu (by omega) (by omega)).mono ?_
          rintro e w1 ⟨g1, rfl, hg, hr1, b1⟩
          have hgB : B ≤ g1 := Nat.le_trans hBs.out hg
          have HY := Lib.hid (And.intro hr1 (Hbs.out.trans (b1.mono hBs.out)))
          clear hr1 b1 hg
          go_wp2_with fail
          go_loopw [14] (fun kv wt => ∃ (k l : Nat), k ≤ ops.length ∧ kv = .int .i64 k ∧ Hid (LeftIs ops R Bu k l) ∧ MtAt wt g1 R Bu l ∧ Below B w wt) (fun kv _ => ops.length - (intOf kv).toNat)
          case atStart => exact ⟨0, Bu, Nat.zero_le _, rfl, Lib.hid (LeftIs.start _ _ _), HY.out.1, HY.out.2⟩
          case round =>
            obtain ⟨k, l, hk, rfl, hle, hr1, hbt⟩ := hrel
            have Hr1 := Lib.hid hr1
            have Hbt := Lib.hid hbt
            clear hr1 hbt HY
            have hBt : Hid (B ≤ wr.heap.size) := by show _ ≤ _; rw [← HB.out]; exact Hbt.out.size
            have hl := hle.out.1
            by_cases hl3 : k < ops.length
            · have t9 : decide (k < ops.length) = true := by simpa using hl3
              obtain ⟨b, off, p, n, rfl, hn2, hpn, hpw, hnw⟩ := HE.out wr k hl3 Hbt.out
              cases p with
              | true =>
                have HL2 := Lib.hid (hle.out.tick hl3 hpn.out.1 hpn.out.2)
                have hC := Lib.hid (fun W h => MtTick_any W g1 R Bu l n h (by omega) (by omega) hl (by omega))
                have e2 : tickM R Bu l n = min Bu (l + R * n) := by unfold tickM; rw [if_neg (by omega)]; rfl
                rw [e2] at hC
                generalize min Bu (l + R * n) = q at *
                clear e2
                go_wp2_with fail
                refine (hC.out _ Hr1.out).mono ?_
                rintro x w5 ⟨rfl, h5, b5⟩
                have HH := Lib.hid (And.intro h5 (b5.below Hbt.out hgB hBt.out))
                clear h5 b5
                go_wp2
                go_roundw
                case rel => exact ⟨k + 1, q, hl3, by go_num, HL2, HH.out.1, HH.out.2⟩
                case measure => simp [intOf]; omega
              | false =>
                obtain ⟨hnl, hl2⟩ := hle.out.ask hl3 hpn.out.1 hpn.out.2 (fun i' hi' => hfit.out i' (by omega) k hi' hl3)
                have HL2 := Lib.hid hl2
                clear hl2
                have hC := Lib.hid (fun W h => MtTake_any W g1 R Bu l n h (by omega) (by omega))
                have e1 : takeE n = 0 := by unfold takeE; rw [if_neg (by omega)]
                have e2 : takeOk l n = true := by unfold takeOk; simp; omega
                have e3 : takeM l n = l - n := by unfold takeM; rw [e2]; simp
                rw [e1, e2, e3] at hC
                generalize l - n = q at *
                clear e1 e2 e3
                go_wp2_with fail
                refine (hC.out _ Hr1.out).mono ?_
                rintro x w5 ⟨rfl, h5, b5⟩
                have HH := Lib.hid (And.intro h5 (b5.below Hbt.out hgB hBt.out))
                clear h5 b5
                go_wp2
                go_roundw
                case rel => exact ⟨k + 1, q, hl3, by go_num, HL2, HH.out.1, HH.out.2⟩
                case measure => simp [intOf]; omega
            · have t9 : decide (k < ops.length) = false := by simpa using hl3
              clear hl3
              go_wp2_with fail
              refine (awake09 _).mono ?_
              rintro x w5 ⟨rfl, b5⟩
              go_wp2
              go_ret
              rw [HB.out]
              exact ⟨rfl, Hbt.out.trans (b5.mono hBt.out)⟩

set_option maxRecDepth 100000 in
set_option maxHeartbeats 4000000 in
theorem MeterTakes_walk (w : World) (r : Int) (wr : (Lit.int .i64 r).wf = true) (b : Int) (wb : (Lit.int .i64 b).wf = true) (v : Value) (ops : List MOp) (hv : ReadL w 2 encMOp v ops) (hok : ∀ x ∈ ops, okMOp w x) :
    Calls Try.prog 8 #[.agg #[.int .i64 r, .int .i64 b], v] w fun x w' => x = .returned (.bool true) ∧ Below w.heap.size w w' := by
  by_cases hc : 0 ≤ r ∧ r ≤ 1048576 ∧ 0 ≤ b ∧ b ≤ 1048576 ∧ ops.length ≤ 60
  · obtain ⟨h1, h2, h3, h4, h5⟩ := hc
    obtain ⟨R, rfl⟩ := Int.eq_ofNat_of_zero_le h1
    obtain ⟨Bu, rfl⟩ := Int.eq_ofNat_of_zero_le h3
    exact MeterTakes_core w R Bu v ops (by omega) (by omega) h5 hv
  · obtain ⟨a, cap, rfl, hcap, hmax, hcells⟩ := hv
    clear hcells hok wr wb hcap hmax
    have hcase : (∃ x : Unit, decide (r < 0) = true) ∨ (∃ x : Unit, decide (r < 0) = false ∧ decide (1048576 < r) = true) ∨ (∃ x : Unit, decide (r < 0) = false ∧ decide (1048576 < r) = false ∧ decide (b < 0) = true) ∨
        (∃ x : Unit, decide (r < 0) = false ∧ decide (1048576 < r) = false ∧ decide (b < 0) = false ∧ decide (1048576 < b) = true) ∨
        (∃ x : Unit, decide (r < 0) = false ∧ decide (1048576 < r) = false ∧ decide (b < 0) = false ∧ decide (1048576 < b) = false ∧ decide (60 < (ops.length : Int)) = true) := by
      by_cases h1 : r < 0
      · exact .inl ⟨(), by simpa using h1⟩
      by_cases h2 : 1048576 < r
      · exact .inr (.inl ⟨(), by simpa using h1, by simpa using h2⟩)
      by_cases h3 : b < 0
      · exact .inr (.inr (.inl ⟨(), by simpa using h1, by simpa using h2, by simpa using h3⟩))
      by_cases h4 : 1048576 < b
      · exact .inr (.inr (.inr (.inl ⟨(), by simpa using h1, by simpa using h2, by simpa using h3, by simpa using h4⟩)))
      exact .inr (.inr (.inr (.inr ⟨(), by simpa using h1, by simpa using h2, by simpa using h3, by simpa using h4, by simp; omega⟩)))
    clear hc
    rcases hcase with ⟨_, h1⟩ | ⟨_, h1, h2⟩ | ⟨_, h1, h2, h3⟩ | ⟨_, h1, h2, h3, h4⟩ | ⟨_, h1, h2, h3, h4, h5⟩
    all_goals
      go_enter Try.func8, Try.ntmps8
      go_wp2_with fail
      refine (awake09 _).mono ?_
      rintro x w5 ⟨rfl, b5⟩
      go_wp2
      go_ret
      have b0 : Below w.heap.size w (w.alloc (.cells #[.int .i64 r, .int .i64 b] 40)) := (Below.refl _ _).alloc (Nat.le_refl _) _
      exact ⟨rfl, b0.trans (b5.mono b0.size)⟩
end Go.Proofs.Ytnemolbppebmkaa
