/- The walk of the reference's Parse. -/
import Derived.Test.YthihncfmimkimaaFrameRF
import Derived.Test.YthihncfmimkimaaLaw03a
namespace Go.Proofs.Ythihncfmimkimaa
open Go.RowKit
set_option linter.unusedVariables false
set_option linter.unusedSimpArgs false

theorem dat_seemsR (l : List UInt8) : (dat (seemsR l).1).length ≤ l.length := by
  unfold seemsR
  dsimp only
  split
  · simp [dat, str]
  · split
    · simp [dat, str]
    · split <;> simp [dat, str]
theorem rparse_ways (l : List UInt8) (p : Pkt) (a b : Nat) (hl : ¬ 1500 < l.length) :
    (∃ x : Unit, decide (rightP p) = false ∧ Hid (parseF l (p, (a : Int), (b : Int)) = (pkt0, 11))) ∨
    (∃ x : Unit, decide (rightP p) = true ∧ Hid (rightP p) ∧ (laidB p a b != l) = true ∧ Hid (parseF l (p, (a : Int), (b : Int)) = (pkt0, 11))) ∨
    (∃ x : Unit, decide (rightP p) = true ∧ Hid (rightP p) ∧ Hid (laidB p a b = l) ∧ ∃ t : List UInt8, Hid (bytesF p = (t, 0)) ∧
      ((∃ x : Unit, (t != l) = true ∧ Hid (parseF l (p, (a : Int), (b : Int)) = (pkt0, 13))) ∨ (t = l ∧ Hid (parseF l (p, (a : Int), (b : Int)) = (p, 0))))) := by
  by_cases hr : rightP p
  · by_cases h1 : laidB p a b = l
    · have h2 := laidB_len0 p a b (sumA p) (sumB p)
      have h3 := dat_le p a b
      rw [h1] at h2 h3
      refine .inr (.inr ⟨(), decide_eq_true hr, Lib.hid hr, Lib.hid h1, laidB p (sumA p) (sumB p), Lib.hid ?_, ?_⟩)
      · unfold bytesF; rw [if_neg (by simpa using hr), if_neg (by omega), if_neg (by omega)]
      · by_cases h4 : laidB p (sumA p) (sumB p) = l
        · refine .inr ⟨h4, Lib.hid ?_⟩
          unfold parseF; simp only [Int.toNat_natCast]
          rw [if_neg hl, if_neg (by simpa using hr), if_neg (by simpa using h1), if_neg (by simpa using h4)]
        · refine .inl ⟨(), by simpa using h4, Lib.hid ?_⟩
          unfold parseF; simp only [Int.toNat_natCast]
          rw [if_neg hl, if_neg (by simpa using hr), if_neg (by simpa using h1), if_pos h4]
    · refine .inr (.inl ⟨(), decide_eq_true hr, Lib.hid hr, by simpa using h1, Lib.hid ?_⟩)
      unfold parseF; simp only [Int.toNat_natCast]
      rw [if_neg hl, if_neg (by simpa using hr), if_pos h1]
  · refine .inl ⟨(), decide_eq_false hr, Lib.hid ?_⟩
    unfold parseF; simp only [Int.toNat_natCast]
    rw [if_neg hl, if_pos hr]
set_option maxRecDepth 100000 in
set_option maxHeartbeats 8000000 in
theorem rParse_any (w : World) (l : List UInt8) (hl : l.length ≤ 3000) :
    Calls Try.prog 12 #[.string (str l)] w (ParsePost w (parseF l (seemsR l))) := by
  have hok := okR_R l
  have hds := dat_seemsR l
  have HSe := Lib.hid (fun W => rseems_any W l (by omega))
  have HW := Lib.hid (rparse_ways l)
  have HB : Hid (1500 < l.length → parseF l (seemsR l) = (pkt0, 44)) := Lib.hid (fun h => by unfold parseF; rw [if_pos h])
  generalize hq : seemsR l = sp at *
  clear hq
  obtain ⟨p, a, b⟩ := sp
  obtain ⟨hu, a0, a1, b0, b1⟩ := hok
  simp only at hds HSe hu a0 a1 b0 b1
  obtain ⟨a, rfl⟩ := Int.eq_ofNat_of_zero_le a0
  obtain ⟨b, rfl⟩ := Int.eq_ofNat_of_zero_le b0
  have hways := HW.out p a b
  clear HW
  have HRi := Lib.hid (fun W => rRight_any W p hu)
  have one0 := one25 pkt0
  have oneP := one25 p
  by_cases h1 : 1500 < l.length
  · have t1 : decide ((1500 : Int) < (l.length : Int)) = true := decide_eq_true (by omega)
    have HR := Lib.hid (HB.out h1)
    clear HSe HRi hds HB hways h1
    generalize parseF l (p, (a : Int), (b : Int)) = R at *
    go_enter Try.func12, Try.ntmps12
    go_upto_region 1 with fail
    refine one_box_wp ?_
    intro W hb1 hbel hsz
    have K : Hid (KR w.heap.size w [(w.heap.size, 25, pktC pkt0)] W) := Lib.hid ((KR.start hbel hbel.size).add hb1)
    clear hb1 hbel hsz
    go_wp2_with (first
      | (refine wpList_store_row rfl 25 _ _ rfl _ rfl (pktC pkt0) rfl _ _ (K.out.at 0 rfl) rfl (by kernel_rfl) one0 ?_)
      | fail)
    intro W7 hb7 hbar7
    have K1 := K.out.bar0 hbar7 hb7 (Nat.le_refl _) (by simp)
    clear hb7 hbar7 K
    go_wp2_with fail
    refine bodyPost_ret (v := .tuple #[.agg (pktC pkt0), .int .i64 44]) ?_ rfl ⟨?_, K1.below⟩
    · exact results_row_tmp (p := 2) (u := 3) rfl _ _ w.heap.size _ _ _ rfl (K1.at 0 rfl) Try.underlying25 rfl (by kernel_rfl)
    · rw [HR.out]
  have t1 : decide ((1500 : Int) < (l.length : Int)) = false := decide_eq_false (by omega)
  have hd15 : (dat p).length ≤ 1500 := by omega
  replace hways := hways h1
  clear HB hds h1
  generalize parseF l (p, (a : Int), (b : Int)) = R at *
  go_enter Try.func12, Try.ntmps12
  go_upto_region 1 with fail
  refine one_box_wp ?_
  intro W hb1 hbel hsz
  have K : Hid (KR w.heap.size w [(w.heap.size, 25, pktC pkt0)] W) := Lib.hid ((KR.start hbel hbel.size).add hb1)
  clear hb1 hbel hsz
  go_wp2_with fail
  refine (HSe.out _).mono ?_
  rintro x w1 ⟨rfl, b1'⟩
  replace K := Lib.hid (K.out.call b1')
  clear b1' HSe
  have hlt := K.out.lt 0 rfl
  go_wp2_with (first
    | (refine wpList_store_row rfl 25 _ _ rfl _ rfl (pktC p) rfl _ _ ((K.out.box _ _).at 0 rfl) rfl (by kernel_rfl) oneP ?_)
    | fail)
  intro Wi hbi hbari
  replace K := Lib.hid (K.out.into hbari hbi)
  clear hbi hbari
  generalize w1.heap.size = gp at *
  go_wp2_with (first
    | (refine wpList_row 25 _ rfl (by rfl) _ _ rfl _ (run_loadVar_row _ _ _ 25 _ (0, 0) _ (K.out.at 0 rfl) Try.underlying25 rfl (by kernel_rfl)) ?_)
    | fail)
  refine (HRi.out _).mono ?_
  rintro x w2 ⟨rfl, b2⟩
  replace K := Lib.hid (K.out.call b2)
  clear b2 HRi
  rcases hways with ⟨_, t2, HR⟩ | ⟨_, t2, HRp, t3, HR⟩ | ⟨_, t2, HRp, HL, t, HBy, hlast⟩
  · rw [t2]
    clear t2 hu a1 b1 hd15
    go_wp2_with (first
      | (refine wpList_store_row rfl 25 _ _ rfl _ rfl (pktC pkt0) rfl _ _ (K.out.at 1 rfl) rfl (by kernel_rfl) one0 ?_)
      | fail)
    intro W7 hb7 hbar7
    have KE := (K.out.sub (l' := [(w.heap.size, 25, pktC pkt0), (gp, 25, pktC p)]) (by simp)).bar0 hbar7 hb7 (by omega) (by simp; omega)
    clear hb7 hbar7
    go_wp2_with fail
    refine bodyPost_ret (v := .tuple #[.agg (pktC pkt0), .int .i64 11]) ?_ rfl ⟨?_, KE.below⟩
    · exact results_row_tmp (p := 2) (u := 3) rfl _ _ w.heap.size _ _ _ rfl (KE.at 0 rfl) Try.underlying25 rfl (by kernel_rfl)
    · rw [HR.out]
  · rw [t2]
    have HLa : Hid (∀ W : World, Calls Try.prog 19 #[.agg (pktC p), .int .i64 a, .int .i64 b] W fun x w' => x = .returned (.string (str (laidB p a b))) ∧ Below W.heap.size W w') := Lib.hid (fun W => rwith_any W p a b HRp.out hu hd15 (by omega) (by omega))
    have t5 : (laidB p a b == l) = false := by simpa using t3
    clear t2 hu a1 b1 hd15 HRp
    generalize laidB p a b = L at *
    go_wp2_with (first
      | (refine wpList_row 25 _ rfl (by rfl) _ _ rfl _ (run_loadVar_row _ _ _ 25 _ (0, 0) _ (K.out.at 0 rfl) Try.underlying25 rfl (by kernel_rfl)) ?_)
      | fail)
    refine (HLa.out _).mono ?_
    rintro x w3 ⟨rfl, b3⟩
    replace K := Lib.hid (K.out.call b3)
    clear b3 HLa
    go_wp2_with (first
      | (refine wpList_store_row rfl 25 _ _ rfl _ rfl (pktC pkt0) rfl _ _ (K.out.at 1 rfl) rfl (by kernel_rfl) one0 ?_)
      | fail)
    intro W7 hb7 hbar7
    have KE := (K.out.sub (l' := [(w.heap.size, 25, pktC pkt0), (gp, 25, pktC p)]) (by simp)).bar0 hbar7 hb7 (by omega) (by simp; omega)
    clear hb7 hbar7
    go_wp2_with fail
    refine bodyPost_ret (v := .tuple #[.agg (pktC pkt0), .int .i64 11]) ?_ rfl ⟨?_, KE.below⟩
    · exact results_row_tmp (p := 2) (u := 3) rfl _ _ w.heap.size _ _ _ rfl (KE.at 0 rfl) Try.underlying25 rfl (by kernel_rfl)
    · rw [HR.out]
  · rw [t2]
    have HLa : Hid (∀ W : World, Calls Try.prog 19 #[.agg (pktC p), .int .i64 a, .int .i64 b] W fun x w' => x = .returned (.string (str (laidB p a b))) ∧ Below W.heap.size W w') := Lib.hid (fun W => rwith_any W p a b HRp.out hu hd15 (by omega) (by omega))
    rw [HL.out] at HLa
    have HBr : Hid (∀ W : World, Calls Try.prog 10 #[.agg (pktC p)] W fun x w' => x = .returned (.tuple #[.string (str t), .int .i64 0]) ∧ Below W.heap.size W w') := Lib.hid (fun W => by have h := rBytes_any W p hu (by omega); rw [HBy.out] at h; exact h)
    have t3 : (l != l) = false := by simp
    clear t2 hu a1 b1 hd15 HRp HL HBy
    go_wp2_with (first
      | (refine wpList_row 25 _ rfl (by rfl) _ _ rfl _ (run_loadVar_row _ _ _ 25 _ (0, 0) _ (K.out.at 0 rfl) Try.underlying25 rfl (by kernel_rfl)) ?_)
      | fail)
    refine (HLa.out _).mono ?_
    rintro x w3 ⟨rfl, b3⟩
    replace K := Lib.hid (K.out.call b3)
    clear b3 HLa
    go_wp2_with (first
      | (refine wpList_row 25 _ rfl (by rfl) _ _ rfl _ (run_loadVar_row _ _ _ 25 _ (0, 0) _ (K.out.at 0 rfl) Try.underlying25 rfl (by kernel_rfl)) ?_)
      | fail)
    refine (HBr.out _).mono ?_
    rintro x w4 ⟨rfl, b4⟩
    replace K := Lib.hid (K.out.call b4)
    clear b4 HBr
    rcases hlast with ⟨_, t4, HR⟩ | ⟨rfl, HR⟩
    · have t6 : (t == l) = false := by simpa using t4
      clear t3
      go_wp2_with (first
        | (refine wpList_store_row rfl 25 _ _ rfl _ rfl (pktC pkt0) rfl _ _ (K.out.at 1 rfl) rfl (by kernel_rfl) one0 ?_)
        | fail)
      intro W7 hb7 hbar7
      have KE := (K.out.sub (l' := [(w.heap.size, 25, pktC pkt0), (gp, 25, pktC p)]) (by simp)).bar0 hbar7 hb7 (by omega) (by simp; omega)
      clear hb7 hbar7
      go_wp2_with fail
      refine bodyPost_ret (v := .tuple #[.agg (pktC pkt0), .int .i64 13]) ?_ rfl ⟨?_, KE.below⟩
      · exact results_row_tmp (p := 2) (u := 3) rfl _ _ w.heap.size _ _ _ rfl (KE.at 0 rfl) Try.underlying25 rfl (by kernel_rfl)
      · rw [HR.out]
    ·
      go_wp2_with (first
        | (refine wpList_row 25 _ rfl (by rfl) _ _ rfl _ (run_loadVar_row _ _ _ 25 _ (0, 0) _ (K.out.at 0 rfl) Try.underlying25 rfl (by kernel_rfl)) ?_)
        | (refine wpList_store_row rfl 25 _ _ rfl _ rfl (pktC p) rfl _ _ (K.out.at 1 rfl) rfl (by kernel_rfl) oneP ?_)
        | fail)
      intro W7 hb7 hbar7
      have KE := (K.out.sub (l' := [(w.heap.size, 25, pktC pkt0), (gp, 25, pktC p)]) (by simp)).bar0 hbar7 hb7 (by omega) (by simp; omega)
      clear hb7 hbar7
      go_wp2_with fail
      refine bodyPost_ret (v := .tuple #[.agg (pktC p), .int .i64 0]) ?_ rfl ⟨?_, KE.below⟩
      · exact results_row_tmp (p := 2) (u := 3) rfl _ _ w.heap.size _ _ _ rfl (KE.at 0 rfl) Try.underlying25 rfl (by kernel_rfl)
      · rw [HR.out]
end Go.Proofs.Ythihncfmimkimaa
