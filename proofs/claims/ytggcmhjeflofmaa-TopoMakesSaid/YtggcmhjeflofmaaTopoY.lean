/- The reference of topologies: Reach. -/
import Derived.Test.YtggcmhjeflofmaaTopoX
import Derived.Test.YtggcmhjeflofmaaTopoS
import Derived.Test.YtggcmhjeflofmaaTopoO
namespace Go.Proofs.Ytggcmhjeflofmaa
open Go.RowKit Go.Maps
set_option linter.unusedVariables false
set_option linter.unusedSimpArgs false

def boolsA (T : List Bool) : Array Value := (T.map Value.bool).toArray
theorem boolsA_get (T : List Bool) (k : Nat) (h : k < T.length) : (boolsA T)[k]? = some (.bool (T.getD k false)) := by
  unfold boolsA
  simp [List.getD, h]
theorem boolsA_set (T : List Bool) (k : Nat) : (boolsA T).setIfInBounds k (.bool true) = boolsA (T.set k true) := by
  unfold boolsA
  apply Array.ext'
  simp [List.map_set]
theorem boolInfo : (Try.prog.info? 4).map (fun i => (i.zero, i.size, i.bytes)) = some (some (.bool false), 1, 1) := by kernel_rfl
theorem made_bools (n : Nat) : madeCells (Value.cells (.bool false)) (n * 1) = boolsA (List.replicate n false) := by
  unfold madeCells boolsA
  apply Array.ext
  · simp
  · intro i h1 h2
    simp [Value.cells, Nat.mod_one]
theorem bool_make (W : World) (c : Nat) (h : c ≤ 1000) : (Instr.makeSlice 63 (.int .i64 ((c : Int) + 1)) (.int .i64 ((c : Int) + 1))).run Try.prog W = .ok (.slice (some ⟨W.heap.size, 0, none⟩) (c + 1) (c + 1)) (W.alloc (.cells (boolsA (List.replicate (c + 1) false)) 4)) := by
  obtain ⟨i0, hi, hz0, hz1, hz2⟩ := info_parts boolInfo
  have := run_make (P := Try.prog) W 63 4 i0 (.bool false) Try.underlying63 hi hz0 .i64 .i64 ((c : Int) + 1) ((c : Int) + 1) (by omega) (by omega) (by rw [hz2]; omega) (by omega)
  rw [this, hz1, show ((c : Int) + 1).toNat = c + 1 by omega]
  simp only [made_bools]
theorem sweep_step {down : List Int} {l : List Link} {i : Nat} {T : List Bool} (h : i < l.length) : sweepR down i (l.drop i) T = sweepR down (i + 1) (l.drop (i + 1)) (markR down i l[i] T) := by
  rw [List.drop_eq_getElem_cons h]
  rfl
theorem outT_step (T : List Bool) {k : Nat} (h : 1 ≤ k) : outT T k = outT T (k - 1) ++ if T.getD k false = true then [(k : Int)] else [] := by
  obtain ⟨j, rfl⟩ : ∃ j, k = j + 1 := ⟨k - 1, by omega⟩
  rfl
theorem KR.grownV {B : Nat} {w W W' : World} {l : List (Nat × TypeId × Array Value)} (h : KR B w l W) {row : Option Nat} (hg : W.grownBy W' row) (hne : ∀ x ∈ l, some x.1 ≠ row) (hr : ∀ k, row = some k → B ≤ k) : KR B w l W' :=
  ⟨fun x hx => (hg.block x.1 (h.1 x hx).lt (hne x hx)).trans (h.1 x hx), h.2.1.grown hg h.2.2 hr, Nat.le_trans h.2.2 hg.size⟩
theorem outT_len (T : List Bool) : ∀ k : Nat, (outT T k).length ≤ k
  | 0 => Nat.le_refl _
  | k + 1 => by
    have := outT_len T k
    unfold outT
    rw [List.length_append]
    split <;> simp <;> omega

set_option maxRecDepth 100000 in
set_option maxHeartbeats 8000000 in
theorem rReach_any (w : World) (rb : Nat) (lv : Value) (n : Int) (l : List Link) (h : RefW w rb lv n l) (hl : ∀ x ∈ l, rightL x n = true) (hn1 : 1 ≤ n) (hn2 : n ≤ 32) (hll : l.length ≤ 64) (sw : Int) (dv : Value) (down : List Int) (hd : ReadL w 1 encI dv down) :
    Calls Try.prog 15 #[ptr rb, .int .i64 sw, dv] w fun e w' => ∃ v C, w.heap.size ≤ C ∧ e = .returned v ∧ OwnL w' C 3 1 encI v (rReachF l n down sw) ∧ Below w.heap.size w w' := by
  have HRight := Lib.hid hl
  have HD := Lib.hid hd
  have HRW := Lib.hid h
  obtain ⟨hb1, a, cap, rfl, hcap, hmax, hc⟩ := h
  obtain ⟨m, rfl⟩ : ∃ m : Nat, n = m := ⟨n.toNat, by omega⟩
  have c0 := hb1.cell 0 _ rfl
  have c1 := hb1.cell 1 _ rfl
  have HBk := Lib.hid hb1
  have HC := Lib.hid hc
  have HR : Hid (rReachF l m down sw = if (decide (1 ≤ sw) && decide (sw ≤ (m : Int))) = true then outT (roundsR down l m (startR m sw)) m else []) := Lib.hid rfl
  generalize rReachF l m down sw = R at *
  clear hl hd hc hb1
  by_cases hsw : 1 ≤ sw ∧ sw ≤ (m : Int)
  case neg =>
    have hin : inF sw 1 m = false := by unfold inF; simp; omega
    have HRn : Hid (R = []) := Lib.hid (by rw [HR.out, if_neg (by simpa using hsw)])
    have K : Hid (Below w.heap.size w w) := Lib.hid (Below.refl _ _)
    clear HR hsw
    go_enter Try.func15, Try.ntmps15
    go_wp2_with fail
    refine (in_any w sw 1 m).mono ?_
    rintro e w' ⟨rfl, hw⟩
    subst hw
    rw [hin]
    go_wp2_with fail
    go_ret
    exact ⟨_, w.heap.size, Nat.le_refl _, rfl, by rw [HRn.out]; exact OwnL.nil _ _ _ _ _, K.out⟩
  have hin : inF sw 1 m = true := by unfold inF; simp; omega
  obtain ⟨q, rfl⟩ : ∃ q : Nat, sw = q := ⟨sw.toNat, by omega⟩
  have HR2 : Hid (R = outT (roundsR down l m (startR m q)) m) := Lib.hid (by rw [HR.out, if_pos (by simpa using hsw)])
  have hq1 : q < m + 1 := by omega
  have hq2 : (boolsA (List.replicate (m + 1) false))[q]? = some (.bool false) := by
    rw [boolsA_get _ _ (by simpa using hq1)]
    simp [List.getD_eq_getElem?_getD, List.getElem?_replicate, hq1]
  have hmk := fun W : World => bool_make W m (by omega)
  have HSt : Hid (startR m q = (List.replicate (m + 1) false).set q true) := Lib.hid rfl
  generalize startR m q = T0 at *
  clear HR hsw
  go_enter Try.func15, Try.ntmps15
  go_wp2_with fail
  refine (in_any w q 1 m).mono ?_
  rintro e w' ⟨rfl, hw⟩
  subst hw
  rw [hin]
  go_upto_region 5 with fail
  rw [boolsA_set, ← HSt.out]
  have K : Hid (KR w.heap.size w [(w.heap.size, 4, boolsA T0)] (w.alloc (.cells (boolsA T0) 4))) := Lib.hid (KR.box (KR.start (Below.refl _ _) (Nat.le_refl _)) _ _)
  have HLen : Hid (T0.length = m + 1) := Lib.hid (by rw [HSt.out]; simp)
  have HLI : Hid (∀ x ∈ l, 1 ≤ x.fA ∧ x.fA ≤ m ∧ (0 < x.fB → x.fB ≤ m)) := Lib.hid (fun x hx => by
    have h1 := rightL_facts (HRight.out x hx)
    have h2 := rightL_basic (HRight.out x hx)
    refine ⟨h2.1, h2.2.1, fun h0 => ?_⟩
    rcases h1 with h | h <;> omega)
  generalize w.alloc (.cells (boolsA T0) 4) = W0 at *
  generalize HF0 : roundsR down l m T0 = F at *
  have HF : Hid (roundsR down l (m - 0) T0 = F) := Lib.hid HF0
  clear HSt hq1 hq2 hmk hin HF0
  go_wp2_with fail
  go_loopw [8] (fun rv wr => ∃ (r : Nat) (T : List Bool), r ≤ m ∧ rv = .int .i64 r ∧ Hid (roundsR down l (m - r) T = F) ∧ Hid (T.length = m + 1) ∧ Hid (KR w.heap.size w [(w.heap.size, 4, boolsA T)] wr)) (fun rv _ => m - (intOf rv).toNat)
  case atStart => exact ⟨0, T0, Nat.zero_le _, rfl, HF, HLen, K⟩
  case round =>
    obtain ⟨r, T, hr, rfl, HFr, HLr, Kr⟩ := hrel
    clear K HF HLen
    have K := Kr
    clear Kr
    have cr0 := (HBk.out.below K.out.below HBk.out.lt).cell 0 _ rfl
    by_cases hlt : r < m
    · have d2 : decide (r < m) = true := by simpa using hlt
      have HFs : Hid (roundsR down l (m - (r + 1)) (sweepR down 0 (l.drop 0) T) = F) := Lib.hid (by
        rw [← HFr.out, show m - r = (m - (r + 1)) + 1 by omega]; rfl)
      clear HFr
      go_wp2_with fail
      go_loopw [9] (fun iv wr => ∃ (i : Nat) (T : List Bool), i ≤ l.length ∧ iv = .int .i64 i ∧ Hid (roundsR down l (m - (r + 1)) (sweepR down i (l.drop i) T) = F) ∧ Hid (T.length = m + 1) ∧ Hid (KR w.heap.size w [(w.heap.size, 4, boolsA T)] wr)) (fun iv _ => l.length - (intOf iv).toNat)
      case atStart => exact ⟨0, T, Nat.zero_le _, rfl, HFs, HLr, K⟩
      case round =>
        obtain ⟨i, T1, hi, rfl, HFi, HLi, Ki⟩ := hrel
        clear K HFs HLr cr0
        have K := Ki
        clear Ki
        have cr1 := (HBk.out.below K.out.below HBk.out.lt).cell 1 _ rfl
        by_cases hil : i < l.length
        · have d3 : decide (i < l.length) = true := by simpa using hil
          rcases HC.out with hnil | ⟨b, off, rfl, hblt, hcell⟩
          · rw [hnil] at hil; simp at hil
          have r1 := range_of hcell K.out.below hblt i hil
          have HFx : Hid (roundsR down l (m - (r + 1)) (sweepR down (i + 1) (l.drop (i + 1)) (markR down i l[i] T1)) = F) := Lib.hid (by rw [← HFi.out, sweep_step hil])
          have hx := HLI.out _ (List.getElem_mem hil)
          clear HFi hcell
          generalize l[i] = x at *
          obtain ⟨x1, x2, x3, x4, x5⟩ := x
          simp only [encLink] at r1
          simp only at hx
          obtain ⟨ka, rfl⟩ : ∃ ka : Nat, x1 = ka := ⟨x1.toNat, by omega⟩
          have hka : ka < m + 1 := by omega
          have HX := Lib.hid hx
          clear hx
          go_wp2_with (first
            | (refine wpList_load_mid rfl 52 _ rfl _ _ rfl _ _ r1 Try.underlying52 rfl (by kernel_rfl) ?_)
            | (refine wpList_store_row rfl 52 _ _ rfl _ rfl #[.int .i64 ka, .int .i64 x2, .int .i64 x3, .int .i64 x4, .float .f64 x5] rfl _ _ ((K.out.box _ _).at 0 rfl) rfl (by kernel_rfl) (by simp [Value.oneCell']) ?_)
            | fail)
          intro Wi hbi hbari
          have hge : w.heap.size < wr.heap.size := (K.out.at 0 rfl).lt
          replace K := Lib.hid (K.out.into hbari hbi)
          clear hbi hbari r1 cr1
          generalize wr.heap.size = g1 at *
          have cx0 := (K.out.at 0 rfl).cell 0 _ rfl
          have cx2 := (K.out.at 0 rfl).cell 2 _ rfl
          by_cases h0 : 0 < x3
          · obtain ⟨kb, rfl⟩ : ∃ kb : Nat, x3 = kb := ⟨x3.toNat, by omega⟩
            have hkb : kb < m + 1 := by have := HX.out.2.2 h0; omega
            have t0 : decide ((0 : Int) < (kb : Int)) = true := decide_eq_true h0
            have HHas := Lib.hid (Has_any Wi dv down (HD.out.below K.out.below (Nat.le_refl _)) ((i : Int) + 1))
            cases hcc : down.contains ((i : Int) + 1)
            · rw [hcc] at HHas
              have ca := (K.out.at 1 rfl).cell ka (.bool (T1.getD ka false)) (boolsA_get _ _ (by have := HLi.out; omega))
              have cb := (K.out.at 1 rfl).cell kb (.bool (T1.getD kb false)) (boolsA_get _ _ (by have := HLi.out; omega))
              cases hA : T1.getD ka false
              · rw [hA] at ca
                cases hB : T1.getD kb false
                · rw [hB] at cb
                  go_wp2_with fail
                  refine HHas.out.mono ?_
                  rintro e w' ⟨rfl, hw⟩
                  subst hw
                  clear HHas
                  have HFn : Hid (roundsR down l (m - (r + 1)) (sweepR down (i + 1) (l.drop (i + 1)) T1) = F) := Lib.hid (by
                    rw [← HFx.out]
                    have : onR down i ⟨ka, x2, kb, x4, x5⟩ T1 = false := by unfold onR; simp only [Int.toNat_natCast, hA, hB]; simp
                    unfold markR
                    rw [this]; rfl)
                  clear HFx
                  go_wp2_with fail
                  go_roundw
                  case rel => exact ⟨i + 1, T1, by omega, by go_num, HFn, HLi, Lib.hid (K.out.sub (fun x hx => .tail _ hx))⟩
                  case measure => simp [intOf]; omega
                · rw [hB] at cb
                  go_wp2_with fail
                  refine HHas.out.mono ?_
                  rintro e w' ⟨rfl, hw⟩
                  subst hw
                  clear HHas
                  have HFn : Hid (roundsR down l (m - (r + 1)) (sweepR down (i + 1) (l.drop (i + 1)) ((T1.set ka true).set kb true)) = F) := Lib.hid (by
                    rw [← HFx.out]
                    have : onR down i ⟨ka, x2, kb, x4, x5⟩ T1 = true := by unfold onR; simp only [h0, hcc, hB, decide_true, Bool.true_and, Bool.not_false, Int.toNat_natCast, Bool.or_true]
                    unfold markR
                    rw [this]; rfl)
                  clear HFx
                  have fa := (K.out.at 1 rfl).frozen ka
                  go_upto_region 14 with fail
                  have K2 : Hid (KR w.heap.size w [(w.heap.size, 4, boolsA (T1.set ka true)), (g1, 52, #[.int .i64 ka, .int .i64 x2, .int .i64 kb, .int .i64 x4, .float .f64 x5])] (Wi.setCell ⟨w.heap.size, ka, none⟩ (.bool true))) := Lib.hid (by
                    rw [← boolsA_set]
                    exact (K.out.sub (l' := [(w.heap.size, 4, boolsA T1), (g1, 52, #[.int .i64 ka, .int .i64 x2, .int .i64 kb, .int .i64 x4, .float .f64 x5])]) (fun x hx => by
                      rcases List.mem_cons.1 hx with rfl | hx
                      · exact .tail _ (.head _)
                      · obtain rfl := List.mem_singleton.1 hx; exact .head _)).set0 ka _ (Nat.le_refl _) (fun x hx => by obtain rfl := List.mem_singleton.1 hx; simp only; omega))
                  generalize Wi.setCell ⟨w.heap.size, ka, none⟩ (.bool true) = Wj at *
                  clear K cx0 cx2 ca cb fa
                  have cx2 := (K2.out.at 1 rfl).cell 2 _ rfl
                  have fb := (K2.out.at 0 rfl).frozen kb
                  obtain ⟨bb, cb⟩ : ∃ bb, Wj.cell? ⟨w.heap.size, kb, none⟩ = some (.bool bb) := ⟨_, (K2.out.at 0 rfl).cell kb (.bool ((T1.set ka true).getD kb false)) (boolsA_get _ _ (by have := HLi.out; simp; omega))⟩
                  go_wp2_with fail
                  go_roundw
                  case rel => exact ⟨i + 1, (T1.set ka true).set kb true, by omega, by go_num, HFn, Lib.hid (by have := HLi.out; simpa using this), Lib.hid (by
                    rw [← boolsA_set]
                    exact (K2.out.set0 kb _ (Nat.le_refl _) (fun x hx => by obtain rfl := List.mem_singleton.1 hx; simp only; omega)).sub (fun x hx => by obtain rfl := List.mem_singleton.1 hx; exact .head _))⟩
                  case measure => simp [intOf]; omega
              · rw [hA] at ca
                go_wp2_with fail
                refine HHas.out.mono ?_
                rintro e w' ⟨rfl, hw⟩
                subst hw
                clear HHas
                have HFn : Hid (roundsR down l (m - (r + 1)) (sweepR down (i + 1) (l.drop (i + 1)) ((T1.set ka true).set kb true)) = F) := Lib.hid (by
                  rw [← HFx.out]
                  have : onR down i ⟨ka, x2, kb, x4, x5⟩ T1 = true := by unfold onR; simp only [h0, hcc, hA, decide_true, Bool.true_and, Bool.not_false, Int.toNat_natCast, Bool.true_or]
                  unfold markR
                  rw [this]; rfl)
                clear HFx
                have fa := (K.out.at 1 rfl).frozen ka
                go_upto_region 14 with fail
                have K2 : Hid (KR w.heap.size w [(w.heap.size, 4, boolsA (T1.set ka true)), (g1, 52, #[.int .i64 ka, .int .i64 x2, .int .i64 kb, .int .i64 x4, .float .f64 x5])] (Wi.setCell ⟨w.heap.size, ka, none⟩ (.bool true))) := Lib.hid (by
                  rw [← boolsA_set]
                  exact (K.out.sub (l' := [(w.heap.size, 4, boolsA T1), (g1, 52, #[.int .i64 ka, .int .i64 x2, .int .i64 kb, .int .i64 x4, .float .f64 x5])]) (fun x hx => by
                    rcases List.mem_cons.1 hx with rfl | hx
                    · exact .tail _ (.head _)
                    · obtain rfl := List.mem_singleton.1 hx; exact .head _)).set0 ka _ (Nat.le_refl _) (fun x hx => by obtain rfl := List.mem_singleton.1 hx; simp only; omega))
                generalize Wi.setCell ⟨w.heap.size, ka, none⟩ (.bool true) = Wj at *
                clear K cx0 cx2 ca cb fa
                have cx2 := (K2.out.at 1 rfl).cell 2 _ rfl
                have fb := (K2.out.at 0 rfl).frozen kb
                obtain ⟨bb, cb⟩ : ∃ bb, Wj.cell? ⟨w.heap.size, kb, none⟩ = some (.bool bb) := ⟨_, (K2.out.at 0 rfl).cell kb (.bool ((T1.set ka true).getD kb false)) (boolsA_get _ _ (by have := HLi.out; simp; omega))⟩
                go_wp2_with fail
                go_roundw
                case rel => exact ⟨i + 1, (T1.set ka true).set kb true, by omega, by go_num, HFn, Lib.hid (by have := HLi.out; simpa using this), Lib.hid (by
                  rw [← boolsA_set]
                  exact (K2.out.set0 kb _ (Nat.le_refl _) (fun x hx => by obtain rfl := List.mem_singleton.1 hx; simp only; omega)).sub (fun x hx => by obtain rfl := List.mem_singleton.1 hx; exact .head _))⟩
                case measure => simp [intOf]; omega
            · rw [hcc] at HHas
              go_wp2_with fail
              refine HHas.out.mono ?_
              rintro e w' ⟨rfl, hw⟩
              subst hw
              clear HHas
              have HFn : Hid (roundsR down l (m - (r + 1)) (sweepR down (i + 1) (l.drop (i + 1)) T1) = F) := Lib.hid (by
                rw [← HFx.out]
                have : onR down i ⟨ka, x2, kb, x4, x5⟩ T1 = false := by unfold onR; rw [hcc]; simp
                unfold markR
                rw [this]; rfl)
              clear HFx
              go_wp2_with fail
              go_roundw
              case rel => exact ⟨i + 1, T1, by omega, by go_num, HFn, HLi, Lib.hid (K.out.sub (fun x hx => .tail _ hx))⟩
              case measure => simp [intOf]; omega
          · have t0 : decide (0 < x3) = false := decide_eq_false h0
            have HFn : Hid (roundsR down l (m - (r + 1)) (sweepR down (i + 1) (l.drop (i + 1)) T1) = F) := Lib.hid (by
              rw [← HFx.out]
              have : onR down i ⟨ka, x2, x3, x4, x5⟩ T1 = false := by unfold onR; simp [h0]
              unfold markR
              rw [this]; rfl)
            clear HFx
            go_wp2_with fail
            go_roundw
            case rel => exact ⟨i + 1, T1, by omega, by go_num, HFn, HLi, Lib.hid (K.out.sub (fun x hx => .tail _ hx))⟩
            case measure => simp [intOf]; omega
        · have d3 : decide (i < l.length) = false := by simpa using hil
          have HFn : Hid (roundsR down l (m - (r + 1)) T1 = F) := Lib.hid (by
            rw [← HFi.out, List.drop_eq_nil_of_le (by omega)]; rfl)
          clear HFi
          go_wp2_with fail
          go_roundw
          case rel => exact ⟨r + 1, T1, by omega, by go_num, HFn, HLi, K⟩
          case measure => simp [intOf]; omega
    · have d2 : decide (r < m) = false := by simpa using hlt
      obtain rfl : r = m := by omega
      obtain rfl : T = F := by have := HFr.out; rw [Nat.sub_self] at this; exact this
      clear HFr
      go_wp2_with fail
      clear HC HRight HRW HD c0 c1 cr0 hlt d2 HLI
      go_loopw [11, 12] (fun ov iv wq => ∃ k : Nat, 1 ≤ k ∧ k ≤ r + 1 ∧ iv = .int .i64 k ∧ Hid (KR w.heap.size w [(w.heap.size, 4, boolsA T)] wq) ∧ Hid (OwnL wq (w.heap.size + 1) 3 1 encI ov (outT T (k - 1)))) (fun _ iv _ => (r + 1) - (intOf iv).toNat)
      case atStart => exact ⟨1, Nat.le_refl _, by omega, rfl, K, Lib.hid (OwnL.nil _ _ _ _ _)⟩
      case round =>
        obtain ⟨k, hk1, hk2, rfl, Kq, Hown⟩ := hrel
        clear K
        have K := Kq
        clear Kq
        have cr0 := (HBk.out.below K.out.below HBk.out.lt).cell 0 _ rfl
        by_cases hlt : k ≤ r
        · have d2 : decide ((k : Int) ≤ (r : Int)) = true := decide_eq_true (by omega)
          have d2' : decide (k ≤ r) = true := decide_eq_true hlt
          have ck := (K.out.at 0 rfl).cell k (.bool (T.getD k false)) (boolsA_get _ _ (by have := HLr.out; omega))
          have hkr : k < r + 1 := by omega
          have HP := Lib.hid (outT_step T hk1)
          have hlen := outT_len T (k - 1)
          generalize outT T (k - 1) = L at *
          cases hb : T.getD k false
          · rw [hb] at ck
            have Hown1 : Hid (OwnL wr (w.heap.size + 1) 3 1 encI u11 (outT T (k + 1 - 1))) := Lib.hid (by
              rw [show k + 1 - 1 = k by omega, HP.out, hb, if_neg (by simp), List.append_nil]; exact Hown.out)
            clear HP Hown
            go_wp2_with fail
            go_roundw
            case rel => exact ⟨k + 1, by omega, by omega, by go_num, K, Hown1⟩
            case measure => simp [intOf]; omega
          · rw [hb] at ck
            go_wp2_with (first | (at_builtin; go_must (refine app_one Hown.out (k : Int) Try.underlying23 intInfo rfl (by decide) encI_len encI_one rfl rfl rfl rfl ?c1 ?c2 ?c3 ?_)) | fail)
            case c1 => omega
            case c2 => omega
            case c3 => exact (K.out.at 0 rfl).lt
            intro v' w6 hown1 hgrow _
            have K6 : Hid (KR w.heap.size w [(w.heap.size, 4, boolsA T)] w6) := Lib.hid (K.out.grownV hgrow (fun x hx e => by
              obtain rfl := List.mem_singleton.1 hx
              have h9 : w.heap.size + 1 ≤ w.heap.size := (Hown.out.block _ e.symm).1
              omega) (fun k' hk' => Nat.le_of_succ_le (Hown.out.block k' hk').1))
            have Hown6 : Hid (OwnL w6 (w.heap.size + 1) 3 1 encI v' (outT T (k + 1 - 1))) := Lib.hid (by
              rw [show k + 1 - 1 = k by omega, HP.out, hb, if_pos rfl]; exact hown1)
            clear hown1 hgrow Hown HP K
            go_wp2_with fail
            go_roundw
            case rel => exact ⟨k + 1, by omega, by omega, by go_num, K6, Hown6⟩
            case measure => simp [intOf]; omega
        · have d2 : decide ((k : Int) ≤ (r : Int)) = false := decide_eq_false (by omega)
          have d2' : decide (k ≤ r) = false := decide_eq_false hlt
          obtain rfl : k = r + 1 := by omega
          have Hown1 : Hid (OwnL wr (w.heap.size + 1) 3 1 encI u11 R) := Lib.hid (by rw [HR2.out]; exact Hown.out)
          clear Hown
          go_wp2_with fail
          go_ret
          exact ⟨_, w.heap.size + 1, by omega, rfl, Hown1.out, K.out.below⟩
end Go.Proofs.Ytggcmhjeflofmaa
