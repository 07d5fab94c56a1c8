/- TopoBack: a Peer's Peer is where one was, and a host's home leads to it. -/
import Derived.Test.YtggcmhjeflofmaaTopoAA
import Derived.Test.YtggcmhjeflofmaaTopoS
namespace Go.Proofs.Ytggcmhjeflofmaa
open Go.RowKit Go.Maps
set_option linter.unusedVariables false
set_option linter.unusedSimpArgs false

set_option maxRecDepth 100000 in
set_option maxHeartbeats 8000000 in
theorem TopoBack_walk (w : World) (n : Int) (wn : (Lit.int .i64 n).wf = true) (v : Value) (l : List Link) (hv : ReadL w 5 encLink v l) (okl : ∀ x ∈ l, okLink w x) :
    Calls Try.prog 7 #[.int .i64 n, v] w fun x w' => x = .returned (.bool true) ∧ Below w.heap.size w w' := by
  have HV := Lib.hid hv
  obtain ⟨a, cap, rfl, hcap, hmax⟩ := hv.slice
  clear hv okl wn
  unfold maxLen at hmax
  by_cases hx : (100 : Int) < l.length
  · have t1 : decide ((100 : Int) < (l.length : Int)) = true := decide_eq_true hx
    go_enter Try.func7, Try.ntmps7
    go_wp2_with fail
    refine (awake_any _).mono ?_
    rintro e w8 ⟨rfl, hb⟩
    have HB := Lib.hid hb
    clear hb
    go_wp2_with fail
    go_ret
    exact ⟨rfl, HB.out⟩
  have t1 : decide ((100 : Int) < (l.length : Int)) = false := decide_eq_false hx
  clear hx
  go_enter Try.func7, Try.ntmps7
  go_wp2_with fail
  refine (New_any w n _ l HV.out).mono ?_
  rintro e w1 ⟨hb1, hr1⟩
  have HB := Lib.hid hb1
  clear hb1 t1 HV
  rcases hr1 with ⟨h0, rfl⟩ | ⟨s, tb, eb, hb, cv, h0, rfl, hT⟩
  · clear h0
    go_wp2_with fail
    refine (Size_nil _).mono ?_
    rintro e w2 ⟨rfl, hb2⟩
    replace HB := Lib.hid (HB.out.trans (hb2.mono HB.out.size))
    clear hb2
    go_wp2_with fail
    refine (awake_any _).mono ?_
    rintro e w8 ⟨rfl, hb⟩
    replace HB := Lib.hid (HB.out.trans (hb.mono HB.out.size))
    clear hb
    go_wp2_with fail
    go_ret
    exact ⟨rfl, HB.out⟩
  have HFac := Lib.hid (fun (sw p : Int) (hp : p ∈ portsF s sw) => port_facts h0 hp)
  have HCnt := Lib.hid (newF_cnt h0)
  have hri := newF_right h0
  have hz1 := hri.2.1
  have hz2 := hri.2.2.1
  have hz3 := hri.2.2.2
  have HSz := Lib.hid (newF_ok h0).2
  have HT := Lib.hid hT
  clear h0 hT hri
  obtain ⟨m, rfl⟩ : ∃ m : Nat, n = m := ⟨n.toNat, by omega⟩
  rw [Int.toNat_natCast] at HCnt
  go_wp2_with fail
  go_loopw [7, 8] (fun mv sv wr => ∃ (k : Nat) (c : Int), k ≤ m ∧ sv = .int .i64 ((k : Int) + 1) ∧ mv = .int .i64 c ∧ Hid (c = cntS s k) ∧ Hid (Below w1.heap.size w1 wr)) (fun _ sv _ => (m + 1 - (intOf sv).toNat))
  case atStart => exact ⟨0, 0, Nat.zero_le _, rfl, rfl, Lib.hid rfl, Lib.hid (Below.refl _ _)⟩
  case round =>
    obtain ⟨k, c, hk, rfl, rfl, HC, HB1⟩ := hrel
    have hcb := cntS_bound s k
    rw [← HC.out] at hcb
    go_wp2_with fail
    refine (Size_any wr _ tb eb hb cv s (HT.out.below HB1.out (Nat.le_refl _))).mono ?_
    rintro e w2 ⟨rfl, hb2⟩
    rw [HSz.out]
    have HB2 := Lib.hid (HB1.out.trans (hb2.mono HB1.out.size))
    clear hb2 HB1
    by_cases hlt : k < m
    · have d2 : decide ((k : Int) + 1 ≤ (m : Int)) = true := decide_eq_true (by omega)
      go_wp2_with fail
      refine (Ports_any w2 _ tb eb hb cv s (HT.out.below HB2.out (Nat.le_refl _)) ((k : Int) + 1) (wfI_of (by omega) (by omega))).mono ?_
      rintro e w3 ⟨pv, C, hC, rfl, hown, hb3⟩
      have HB3 := Lib.hid (HB2.out.trans (hb3.mono HB2.out.size))
      have HL := Lib.hid (ReadL.of_own hown encI_len)
      have HFs : Hid (∀ p ∈ portsF s ((k : Int) + 1), _) := Lib.hid (fun p hp => And.intro (portsTo_mem hp) (HFac.out _ p hp))
      have HCk : Hid (cntS s (k + 1) = c + cntP s ((k : Int) + 1) (portsF s ((k : Int) + 1))) := Lib.hid (by rw [HC.out]; rfl)
      have hpl : (portsF s ((k : Int) + 1)).length ≤ 16 := portsTo_len s ((k : Int) + 1) 16
      clear hb3 HB2 hown
      generalize portsF s ((k : Int) + 1) = L at *
      obtain ⟨pa, pcap, rfl, hp1, hp2⟩ := HL.out.slice
      go_wp2_with fail
      go_loopw [7, 10] (fun mv iv wr => ∃ (i : Nat) (c1 : Int), i ≤ L.length ∧ iv = .int .i64 i ∧ mv = .int .i64 c1 ∧ Hid (c1 = c + cntP s ((k : Int) + 1) (L.take i)) ∧ Hid (Below w3.heap.size w3 wr)) (fun _ iv _ => L.length - (intOf iv).toNat)
      case atStart => exact ⟨0, c, Nat.zero_le _, rfl, rfl, Lib.hid (by simp [cntP]), Lib.hid (Below.refl _ _)⟩
      case round =>
        obtain ⟨i, c1, hi, rfl, rfl, HC1, HB4⟩ := hrel
        have hcb1 : 0 ≤ c1 ∧ c1 ≤ 1200 := by
          have h1 := cntP_bound s ((k : Int) + 1) (L.take i)
          have h2 : (L.take i).length ≤ 16 := by rw [List.length_take]; omega
          have := HC1.out
          omega
        have hcb2 := hcb1.1
        have hcb3 := hcb1.2
        clear hcb1
        by_cases hil : i < L.length
        · have d3 : decide (i < L.length) = true := by simpa using hil
          obtain ⟨b, off, cap', hvv, _, _, hblt, hcell⟩ := HL.out.cells (by omega)
          cases hvv
          have HCp : Hid (∀ W : World, Below w3.heap.size w3 W → W.cell? ⟨b, off + i, none⟩ = some (.int .i64 L[i])) := Lib.hid (fun W hW => by
            rw [hW.cell (p := ⟨b, off + i, none⟩) hblt]
            have := hcell i 0 (.int .i64 L[i]) hil rfl
            simpa using this)
          have cp := HCp.out wr HB4.out
          obtain ⟨hp16, hf⟩ := HFs.out L[i] (List.getElem_mem hil)
          have HC2 : Hid (cntP s ((k : Int) + 1) (L.take (i + 1)) = cntP s ((k : Int) + 1) (L.take i) + wtI (peerF s ((k : Int) + 1, L[i])).1) := Lib.hid (cntP_step hil)
          clear hcell
          generalize L[i] = p at *
          have HTr := Lib.hid (HT.out.below (HB3.out.trans (HB4.out.mono HB3.out.size)) (Nat.le_refl _))
          have hwp : wfI p := wfI_of (by omega) (by omega)
          have HP := Lib.hid (Peer_any wr _ tb eb hb cv s HTr.out ((k : Int) + 1) p (wfI_of (by omega) (by omega)) hwp)
          generalize peerF s ((k : Int) + 1, p) = R at *
          obtain ⟨d, pt, lk⟩ := R
          simp only at hf HC2 HP
          obtain ⟨f1, f2, f3, f4, f5, f6, f7, f8⟩ := hf
          have HF8 := Lib.hid f8
          have t1 : decide (lk < 1) = false := decide_eq_false (by omega)
          have t2 : decide ((l.length : Int) < lk) = false := decide_eq_false (by omega)
          clear f8 f1 f2 hp16
          go_wp2_with fail
          refine HP.out.mono ?_
          rintro e w5 ⟨rfl, hb5⟩
          have HB5 := Lib.hid (HB4.out.trans (hb5.mono HB4.out.size))
          have HT5 := Lib.hid (HTr.out.below hb5 (Nat.le_refl _))
          clear hb5 HB4 HTr HP cp
          by_cases hneg : d < 0
          · have t3 : decide (d < 0) = true := decide_eq_true hneg
            obtain ⟨rfl, hhome⟩ := f7 hneg
            have hng : IntKind.i64.wrap (-d) = -d := IntWalk.i64_in _ (by omega)
            have HH := Lib.hid (Home_any w5 _ tb eb hb cv s HT5.out (-d) (wfI_of (by omega) (by omega)))
            rw [hhome] at HH
            have HC3 : Hid (c1 + 2 = c + cntP s ((k : Int) + 1) (L.take (i + 1))) := Lib.hid (by
              rw [HC2.out, HC1.out]
              unfold wtI
              rw [if_pos hneg]
              omega)
            clear hhome HC2 HC1 f7 HF8 hneg
            go_wp2_with fail
            refine HH.out.mono ?_
            rintro e w6 ⟨rfl, hb6⟩
            have HB6 := Lib.hid (HB5.out.trans (hb6.mono HB5.out.size))
            clear hb6 HB5 HT5 HH
            have cp := HCp.out w6 HB6.out
            go_wp2_with fail
            go_roundw
            case rel => exact ⟨i + 1, c1 + 2, by omega, by go_num, by go_num, HC3, HB6⟩
            case measure => simp [intOf]; omega
          · have t3 : decide (d < 0) = false := decide_eq_false hneg
            obtain ⟨f9, hpeer⟩ := HF8.out (by omega)
            have HP2 := Lib.hid (Peer_any w5 _ tb eb hb cv s HT5.out d pt (wfI_of (by omega) (by omega)) (wfI_of (by omega) (by omega)))
            rw [hpeer] at HP2
            have HC3 : Hid (c1 + 1 = c + cntP s ((k : Int) + 1) (L.take (i + 1))) := Lib.hid (by
              rw [HC2.out, HC1.out]
              unfold wtI
              rw [if_neg hneg]
              omega)
            have t4 : (d == (k : Int) + 1) = false := by simpa using f9
            clear hpeer HC2 HC1 f7 HF8 hneg f9
            go_wp2_with fail
            refine HP2.out.mono ?_
            rintro e w6 ⟨rfl, hb6⟩
            have HB6 := Lib.hid (HB5.out.trans (hb6.mono HB5.out.size))
            clear hb6 HB5 HT5 HP2
            have cp := HCp.out w6 HB6.out
            go_wp2_with fail
            go_roundw
            case rel => exact ⟨i + 1, c1 + 1, by omega, by go_num, by go_num, HC3, HB6⟩
            case measure => simp [intOf]; omega
        · have d3 : decide (i < L.length) = false := by simpa using hil
          obtain rfl : i = L.length := by omega
          have HCn : Hid (c1 = cntS s (k + 1)) := Lib.hid (by rw [HCk.out, HC1.out, List.take_length])
          have HB5 := Lib.hid (HB3.out.trans (HB4.out.mono HB3.out.size))
          clear HC1 HCk HC HB4 HB3 HFs HFac HL
          go_wp2_with fail
          go_roundw
          case rel => exact ⟨k + 1, c1, by omega, by go_num, rfl, HCn, HB5⟩
          case measure => simp [intOf]; omega
    · have d2 : decide ((k : Int) + 1 ≤ (m : Int)) = false := decide_eq_false (by omega)
      obtain rfl : k = m := by omega
      obtain rfl : c = 2 * (l.length : Int) := by rw [HC.out, HCnt.out]
      have e1 : (2 * (l.length : Int) == 2 * (l.length : Int)) = true := by simp
      clear HC HCnt HFac HSz hlt
      go_wp2_with fail
      refine (awake_any _).mono ?_
      rintro e w8 ⟨rfl, hb⟩
      have HB3 := Lib.hid (HB.out.trans ((HB2.out.trans (hb.mono HB2.out.size)).mono HB.out.size))
      clear hb
      go_wp2_with fail
      go_ret
      exact ⟨rfl, HB3.out⟩
end Go.Proofs.Ytggcmhjeflofmaa
