/- The walk of NumsReads. -/
import Derived.Test.YtcjkkcapoldmmaaRef01R
import Derived.Test.YtcjkkcapoldmmaaTAsk
import Derived.Test.YtcjkkcapoldmmaaAwake01
import Derived.Deep.RegionWith
namespace Go.Proofs.Ytcjkkcapoldmmaa
open Go.RowKit
set_option linter.unusedVariables false

def encAsk (x : Bool × Int) : List Value := [.bool x.1, .int .i64 x.2]
theorem takeR_size2 (s : ByteArray) (e n : Int) (right : Bool) : (takeR s e n right).2.1.size ≤ s.size := by
  unfold takeR
  by_cases h1 : e ≠ 0
  · rw [if_pos h1]; exact Nat.le_refl _
  · rw [if_neg h1]
    by_cases h2 : right = false
    · rw [if_pos h2]; exact Nat.le_refl _
    · rw [if_neg h2]
      by_cases h3 : (s.size : Int) < n
      · rw [if_pos h3]; exact Nat.le_refl _
      · rw [if_neg h3, ByteArray.size_extract]; omega

/-- Both readers in one world, and the ask's number. -/
def NR (B : Nat) (w : World) (g1 g2 : Nat) (a : Addr) (n : Int) (s : ByteArray) (e : Int) (s' : ByteArray) (e' : Int) (W : World) : Prop :=
  RdAt W g1 s e ∧ RfAt W g2 s' e' ∧ Below B w W ∧ B ≤ W.heap.size ∧ W.cell? a = some (.int .i64 n)
section
variable {B : Nat} {w : World} {g1 g2 : Nat} {a : Addr} {n : Int} {s : ByteArray} {e : Int} {s' : ByteArray} {e' : Int} {W W' : World}
theorem NR.cell (h : NR B w g1 g2 a n s e s' e' W) : W.cell? a = some (.int .i64 n) := h.2.2.2.2
theorem NR.drew (h : NR B w g1 g2 a n s e s' e' W) : NR B w g1 g2 a n s e s' e' W.drew := ⟨h.1, h.2.1, h.2.2.1.drew, h.2.2.2.1, h.cell⟩
theorem NR.one {t : ByteArray} {f : Int} (h : NR B w g1 g2 a n s e s' e' W) (hb : Bar g1 W W') (hn : RdAt W' g1 t f) (hne : g1 ≠ g2) (h1 : B ≤ g1) (ha : a.block < B) : NR B w g1 g2 a n t f s' e' W' :=
  ⟨hn, h.2.1.bar hb (Ne.symm hne), hb.below h.2.2.1 h1 h.2.2.2.1, Nat.le_trans h.2.2.2.1 hb.size, by
    have := hb.below (Below.refl B W) h1 h.2.2.2.1
    rw [this.cell ha]; exact h.cell⟩
theorem NR.two {t : ByteArray} {f : Int} (h : NR B w g1 g2 a n s e s' e' W) (hb : Bar g2 W W') (hn : RfAt W' g2 t f) (hne : g1 ≠ g2) (h1 : B ≤ g2) (ha : a.block < B) : NR B w g1 g2 a n s e t f W' :=
  ⟨h.1.bar hb hne, hn, hb.below h.2.2.1 h1 h.2.2.2.1, Nat.le_trans h.2.2.2.1 hb.size, by
    have := hb.below (Below.refl B W) h1 h.2.2.2.1
    rw [this.cell ha]; exact h.cell⟩
end

set_option maxRecDepth 100000 in
set_option maxHeartbeats 8000000 in
theorem NumsReads_core (w : World) (t : ByteArray) (v : Value) (asks : List (Bool × Int)) (ht : t.size ≤ 140737488351232) (hv : ReadL w 2 encAsk v asks) :
    Calls Try.prog 6 #[.string t, v] w fun x w' => x = .returned (.bool true) ∧ Below w.heap.size w w' := by
  obtain ⟨a, cap, rfl, hcap, hmax, hcells⟩ := hv
  unfold maxLen at hmax
  have HC := Lib.hid hcells
  clear hcells
  by_cases hbig : t.size ≤ 10000
  · have d0 : decide (10000 < (t.size : Int)) = false := by simp; omega
    go_enter Try.func6, Try.ntmps6
    go_wp2_with fail
    refine (Read_any _ _).mono ?_
    rintro e w1 ⟨g1, rfl, hg, hr1, b1⟩
    go_wp2_with fail
    have hsz1 := hr1.lt
    have hfx : RfAt (w1.alloc (.cells #[.string t, .int .i64 0] 39)) w1.heap.size t 0 := BlkAt.new _ _ _
    have hr2 : RdAt (w1.alloc (.cells #[.string t, .int .i64 0] 39)) g1 t 0 := hr1.alloc _
    have hb2 : Below w.heap.size w (w1.alloc (.cells #[.string t, .int .i64 0] 39)) := b1.alloc b1.size _
    have hne : g1 ≠ w1.heap.size := by omega
    have hB1 : w.heap.size ≤ g1 := hg
    have hB2 : w.heap.size ≤ w1.heap.size := b1.size
    have HX := Lib.hid (And.intro hfx (And.intro hr2 hb2))
    clear hfx hr2 hb2 hr1 hg b1
    generalize hw2 : w1.alloc (.cells #[.string t, .int .i64 0] 39) = w2 at *
    generalize hg2 : w1.heap.size = g2 at *
    generalize hB : w.heap.size = B at *
    clear hw2 hg2 hsz1
    go_loopw [7] (fun iv wr => ∃ (k : Nat) (s : ByteArray) (e : Int), k ≤ asks.length ∧ k ≤ 60 ∧ iv = .int .i64 k ∧ s.size ≤ 140737488351232 ∧ RdAt wr g1 s e ∧ RfAt wr g2 s e ∧ Below B w wr) (fun iv _ => 60 - (intOf iv).toNat)
    case atStart => exact ⟨0, t, 0, Nat.zero_le _, by omega, rfl, ht, HX.out.2.1, HX.out.1, HX.out.2.2⟩
    case round =>
      obtain ⟨k, s, e, hk, hk60, rfl, hs, hr1, hf1, hbw⟩ := hrel
      have Hr1 := Lib.hid hr1
      have Hf1 := Lib.hid hf1
      have Hbw := Lib.hid hbw
      clear hr1 hf1 hbw
      by_cases hlt : k < asks.length ∧ k < 60
      · obtain ⟨hl1, hl2⟩ := hlt
        have t1 : decide (k < asks.length) = true := by simpa using hl1
        have t2 : decide ((k : Int) < 60) = true := by simp; omega
        rcases HC.out with hnil | ⟨b, off, rfl, hblt, hcell⟩
        · rw [hnil] at hl1; simp at hl1
        · obtain ⟨p, n, hp, hn⟩ : ∃ (p : Bool) (n : Int), (∀ W, Below B w W → W.cell? ⟨b, off + k * 2, none⟩ = some (.bool p)) ∧ (∀ W, Below B w W → W.cell? ⟨b, off + k * 2 + 1, none⟩ = some (.int .i64 n)) :=
            ⟨asks[k].1, asks[k].2, fun W hW => (hW.cell hblt).trans (hcell k 0 _ hl1 rfl), fun W hW => (hW.cell hblt).trans (hcell k 1 _ hl1 rfl)⟩
          have hpw := hp wr Hbw.out
          have hnw := hn wr Hbw.out
          have Hp := Lib.hid hp
          have Hn := Lib.hid hn
          clear hp hn hcell HC HX
          have hwr : wr.heap.size ≤ wr.heap.size := Nat.le_refl _
          have hNR : NR B w g1 g2 ⟨b, off + k * 2 + 1, none⟩ n s e s e wr := ⟨Hr1.out, Hf1.out, Hbw.out, by rw [← hB]; exact Hbw.out.size, hnw⟩
          cases p with
          | true =>
            have hsz2 := takeR_size2 s e n (decide (0 ≤ n))
            have CB : ∀ W s' e', NR B w g1 g2 ⟨b, off + k * 2 + 1, none⟩ n s e s' e' W → Calls Try.prog 12 #[.pointer (some ⟨g1, 0, none⟩), .int .i64 n] W fun x w' =>
                x = .returned (.string (takeR s e n (decide (0 ≤ n))).1) ∧ NR B w g1 g2 ⟨b, off + k * 2 + 1, none⟩ n (takeR s e n (decide (0 ≤ n))).2.1 (takeR s e n (decide (0 ≤ n))).2.2 s' e' w' :=
              fun W s' e' h => (Bytes_any W g1 s e n h.1 hs).mono fun x w' ⟨h1, h2, h3⟩ => ⟨h1, h.one h3 h2 hne hB1 hblt⟩
            have CR : ∀ W s' e', NR B w g1 g2 ⟨b, off + k * 2 + 1, none⟩ n s' e' s e W → Calls Try.prog 16 #[.pointer (some ⟨g2, 0, none⟩), .int .i64 n] W fun x w' =>
                x = .returned (.string (takeR s e n (decide (0 ≤ n))).1) ∧ NR B w g1 g2 ⟨b, off + k * 2 + 1, none⟩ n s' e' (takeR s e n (decide (0 ≤ n))).2.1 (takeR s e n (decide (0 ≤ n))).2.2 w' :=
              fun W s' e' h => (rBytes_any W g2 s e n h.2.1).mono fun x w' ⟨h1, h2, h3⟩ => ⟨h1, h.two h3 h2 hne hB2 hblt⟩
            obtain ⟨T, hT⟩ : ∃ T, T = takeR s e n (decide (0 ≤ n)) := ⟨_, rfl⟩
            rw [← hT] at CB CR hsz2
            clear hT hnw
            have HCB := Lib.hid CB
            have HCR := Lib.hid CR
            clear CB CR
            have HL1 := Lib.hid (fun W (h : NR B w g1 g2 ⟨b, off + k * 2 + 1, none⟩ n T.2.1 T.2.2 T.2.1 T.2.2 W) => Left_any W g1 T.2.1 T.2.2 h.1)
            have HL2 := Lib.hid (fun W (h : NR B w g1 g2 ⟨b, off + k * 2 + 1, none⟩ n T.2.1 T.2.2 T.2.1 T.2.2 W) => rLeft_any W g2 T.2.1 T.2.2 h.2.1)
            have HE1 := Lib.hid (fun W (h : NR B w g1 g2 ⟨b, off + k * 2 + 1, none⟩ n T.2.1 T.2.2 T.2.1 T.2.2 W) => End_any W g1 T.2.1 T.2.2 h.1)
            have HE2 := Lib.hid (fun W (h : NR B w g1 g2 ⟨b, off + k * 2 + 1, none⟩ n T.2.1 T.2.2 T.2.1 T.2.2 W) => rEnd_any W g2 T.2.1 T.2.2 h.2.1)
            go_wp2_with fail
            have hc0 := hNR.cell
            have hNR0 := hNR.drew
            clear hNR
            go_region_with (first
              | (go_at_call 12; go_must (refine (HCB.out _ _ _ (by assumption)).mono ?_; rintro x w5 ⟨rfl, hN5⟩; have hc5 := hN5.cell))
              | (go_at_call 16; go_must (refine (HCR.out _ _ _ (by assumption)).mono ?_; rintro x w6 ⟨rfl, hN6⟩; have hc6 := hN6.cell))
              | fail)
            all_goals go_wp2_with (first
              | (go_at_call 13; go_must (refine (HL1.out _ (by assumption)).mono ?_; rintro x w7 ⟨rfl, rfl⟩))
              | (go_at_call 18; go_must (refine (HL2.out _ (by assumption)).mono ?_; rintro x w7 ⟨rfl, rfl⟩))
              | (go_at_call 14; go_must (refine (HE1.out _ (by assumption)).mono ?_; rintro x w7 ⟨rfl, rfl⟩))
              | (go_at_call 19; go_must (refine (HE2.out _ (by assumption)).mono ?_; rintro x w7 ⟨rfl, rfl⟩)))
            all_goals
              go_roundw
              case rel => exact (fun (h : NR B w g1 g2 ⟨b, off + k * 2 + 1, none⟩ n T.2.1 T.2.2 T.2.1 T.2.2 _) => ⟨k + 1, T.2.1, T.2.2, by omega, by omega, by go_num, Nat.le_trans hsz2 hs, h.1, h.2.1, h.2.2.1⟩) (by assumption)
              case measure => simp [intOf]; omega
          | false =>
            have hsz2 := takeR_size2 s e n (decide (1 ≤ n ∧ n ≤ 8))
            have CB : ∀ W s' e', NR B w g1 g2 ⟨b, off + k * 2 + 1, none⟩ n s e s' e' W → Calls Try.prog 11 #[.pointer (some ⟨g1, 0, none⟩), .int .i64 n] W fun x w' =>
                x = .returned (.int .u64 (numG (takeR s e n (decide (1 ≤ n ∧ n ≤ 8))).1.data.toList)) ∧ NR B w g1 g2 ⟨b, off + k * 2 + 1, none⟩ n (takeR s e n (decide (1 ≤ n ∧ n ≤ 8))).2.1 (takeR s e n (decide (1 ≤ n ∧ n ≤ 8))).2.2 s' e' w' :=
              fun W s' e' h => (Num_any W g1 s e n h.1 hs).mono fun x w' ⟨h1, h2, h3⟩ => ⟨h1, h.one h3 h2 hne hB1 hblt⟩
            have CR : ∀ W s' e', NR B w g1 g2 ⟨b, off + k * 2 + 1, none⟩ n s' e' s e W → Calls Try.prog 17 #[.pointer (some ⟨g2, 0, none⟩), .int .i64 n] W fun x w' =>
                x = .returned (.int .u64 (numG (takeR s e n (decide (1 ≤ n ∧ n ≤ 8))).1.data.toList)) ∧ NR B w g1 g2 ⟨b, off + k * 2 + 1, none⟩ n s' e' (takeR s e n (decide (1 ≤ n ∧ n ≤ 8))).2.1 (takeR s e n (decide (1 ≤ n ∧ n ≤ 8))).2.2 w' :=
              fun W s' e' h => (rNum_any W g2 s e n h.2.1 hs).mono fun x w' ⟨h1, h2, h3⟩ => ⟨h1, h.two h3 h2 hne hB2 hblt⟩
            obtain ⟨T, hT⟩ : ∃ T, T = takeR s e n (decide (1 ≤ n ∧ n ≤ 8)) := ⟨_, rfl⟩
            rw [← hT] at CB CR hsz2
            clear hT hnw
            have HCB := Lib.hid CB
            have HCR := Lib.hid CR
            clear CB CR
            have HL1 := Lib.hid (fun W (h : NR B w g1 g2 ⟨b, off + k * 2 + 1, none⟩ n T.2.1 T.2.2 T.2.1 T.2.2 W) => Left_any W g1 T.2.1 T.2.2 h.1)
            have HL2 := Lib.hid (fun W (h : NR B w g1 g2 ⟨b, off + k * 2 + 1, none⟩ n T.2.1 T.2.2 T.2.1 T.2.2 W) => rLeft_any W g2 T.2.1 T.2.2 h.2.1)
            have HE1 := Lib.hid (fun W (h : NR B w g1 g2 ⟨b, off + k * 2 + 1, none⟩ n T.2.1 T.2.2 T.2.1 T.2.2 W) => End_any W g1 T.2.1 T.2.2 h.1)
            have HE2 := Lib.hid (fun W (h : NR B w g1 g2 ⟨b, off + k * 2 + 1, none⟩ n T.2.1 T.2.2 T.2.1 T.2.2 W) => rEnd_any W g2 T.2.1 T.2.2 h.2.1)
            go_wp2_with fail
            have hc0 := hNR.cell
            have hNR0 := hNR.drew
            clear hNR
            go_region_with (first
              | (go_at_call 11; go_must (refine (HCB.out _ _ _ (by assumption)).mono ?_; rintro x w5 ⟨rfl, hN5⟩; have hc5 := hN5.cell))
              | (go_at_call 17; go_must (refine (HCR.out _ _ _ (by assumption)).mono ?_; rintro x w6 ⟨rfl, hN6⟩; have hc6 := hN6.cell))
              | fail)
            all_goals go_wp2_with (first
              | (go_at_call 13; go_must (refine (HL1.out _ (by assumption)).mono ?_; rintro x w7 ⟨rfl, rfl⟩))
              | (go_at_call 18; go_must (refine (HL2.out _ (by assumption)).mono ?_; rintro x w7 ⟨rfl, rfl⟩))
              | (go_at_call 14; go_must (refine (HE1.out _ (by assumption)).mono ?_; rintro x w7 ⟨rfl, rfl⟩))
              | (go_at_call 19; go_must (refine (HE2.out _ (by assumption)).mono ?_; rintro x w7 ⟨rfl, rfl⟩)))
            all_goals
              go_roundw
              case rel => exact (fun (h : NR B w g1 g2 ⟨b, off + k * 2 + 1, none⟩ n T.2.1 T.2.2 T.2.1 T.2.2 _) => ⟨k + 1, T.2.1, T.2.2, by omega, by omega, by go_num, Nat.le_trans hsz2 hs, h.1, h.2.1, h.2.2.1⟩) (by assumption)
              case measure => simp [intOf]; omega
      · have hc : (∃ x : Unit, decide (k < asks.length) = false) ∨ (∃ x : Unit, decide (k < asks.length) = true ∧ decide ((k : Int) < 60) = false) := by
          by_cases h1 : k < asks.length
          · exact .inr ⟨(), by simpa using h1, by simp; omega⟩
          · exact .inl ⟨(), by simpa using h1⟩
        clear hlt HC HX Hr1 Hf1
        rcases hc with ⟨_, t1⟩ | ⟨_, t1, t2⟩
        all_goals
          go_wp2_with fail
          refine (awake01 _).mono ?_
          rintro x w5 ⟨rfl, b5⟩
          go_wp2
          go_ret
          rw [hB]
          exact ⟨rfl, Hbw.out.trans (b5.mono (by rw [← hB]; exact Hbw.out.size))⟩
  · have d0 : decide (10000 < (t.size : Int)) = true := by simp; omega
    clear hbig ht
    go_enter Try.func6, Try.ntmps6
    go_wp2_with fail
    refine (awake01 _).mono ?_
    rintro e w5 ⟨rfl, g5⟩
    go_wp2
    go_ret
    exact ⟨rfl, g5⟩

theorem NumsReads_walk (w : World) (t : ByteArray) (ht : t.size ≤ 140737488351232) (v : Value) (asks : List (Bool × Int)) (hv : ReadL w 2 encAsk v asks) :
    Calls Try.prog 6 #[.string t, v] w fun x w' => x = .returned (.bool true) ∧ Below w.heap.size w w' := NumsReads_core w t v asks ht hv
end Go.Proofs.Ytcjkkcapoldmmaa
