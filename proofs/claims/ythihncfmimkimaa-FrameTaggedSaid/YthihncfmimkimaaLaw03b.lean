/- The walk of FrameTagged. -/
import Derived.Test.YthihncfmimkimaaLaw03a
namespace Go.Proofs.Ythihncfmimkimaa
open Go.RowKit
set_option linter.unusedVariables false
set_option linter.unusedSimpArgs false

theorem two_str' (W : World) (a b : UInt8) : (convert 35 9 (.slice (some ⟨W.heap.size, 0, none⟩) 2 2)).run Try.prog (W.alloc (.cells #[.int .u8 a.toNat, .int .u8 b.toNat] 5)).drew = .ok (.string (str [a, b])) (W.alloc (.cells #[.int .u8 a.toNat, .int .u8 b.toNat] 5)).drew := by
  have e : str [a, b] = strOfNums [(a.toNat : Int), (b.toNat : Int)] := by
    unfold str strOfNums
    simp
  rw [e]
  refine run_convert_bytes_arg (P := Try.prog) _ 35 5 Try.underlying35 Try.underlying5 W.heap.size 0 2 2 _ rfl (fun i hi => ?_) 9 Try.underlying9
  have hb := (BlkAt.new W 5 #[.int .u8 a.toNat, .int .u8 b.toNat]).drew
  rw [Nat.zero_add]
  refine hb.cell i _ ?_
  rcases (by omega : i = 0 ∨ i = 1) with rfl | rfl <;> rfl
theorem bytesF_len (p : Pkt) : (bytesF p).1.length ≤ 1000000000000 := by
  unfold bytesF
  split
  · simp
  · split
    · simp
    · split
      · simp
      · simp only; omega
set_option maxRecDepth 100000 in
set_option maxHeartbeats 8000000 in
theorem FrameTagged_walk (w : World) (p : Pkt) (hok : okPkt w p) (n : Int) (wf : (Lit.int .i64 n).wf = true) :
    Calls Try.prog 6 #[valPkt p, .int .i64 n] w fun x w' => x = .returned (.bool true) ∧ Below w.heap.size w w' := by
  have hu := okU_of hok
  clear hok wf
  have HA := Lib.hid awake03
  have hc : (∃ x : Unit, decide ((1000 : Int) < ((dat p).length : Int)) = true) ∨ (∃ x : Unit, decide ((1000 : Int) < ((dat p).length : Int)) = false ∧ (p.fVlan != 0) = true) ∨
      (∃ x : Unit, decide ((1000 : Int) < ((dat p).length : Int)) = false ∧ (p.fVlan != 0) = false ∧ decide (n < 0) = true) ∨
      (∃ x : Unit, decide ((1000 : Int) < ((dat p).length : Int)) = false ∧ (p.fVlan != 0) = false ∧ decide (n < 0) = false ∧ decide (4095 < n) = true) ∨
      (∃ x : Unit, decide ((1000 : Int) < ((dat p).length : Int)) = false ∧ (p.fVlan != 0) = false ∧ decide (n < 0) = false ∧ decide (4095 < n) = false ∧ Hid ((dat p).length ≤ 1000 ∧ p.fVlan = 0 ∧ 0 ≤ n ∧ n ≤ 4095)) := by
    by_cases h1 : 1000 < (dat p).length
    · exact .inl ⟨(), decide_eq_true (by omega)⟩
    have d1 : decide ((1000 : Int) < ((dat p).length : Int)) = false := decide_eq_false (by omega)
    by_cases h2 : p.fVlan = 0
    case neg => exact .inr (.inl ⟨(), d1, by simpa using h2⟩)
    have d2 : (p.fVlan != 0) = false := by simpa using h2
    by_cases h3 : n < 0
    · exact .inr (.inr (.inl ⟨(), d1, d2, decide_eq_true h3⟩))
    have d3 := decide_eq_false h3
    by_cases h4 : 4095 < n
    · exact .inr (.inr (.inr (.inl ⟨(), d1, d2, d3, decide_eq_true h4⟩)))
    exact .inr (.inr (.inr (.inr ⟨(), d1, d2, d3, decide_eq_false h4, Lib.hid ⟨by omega, h2, by omega, by omega⟩⟩)))
  rcases hc with ⟨_, t1⟩ | ⟨_, t1, t2⟩ | ⟨_, t1, t2, t3⟩ | ⟨_, t1, t2, t3, t4⟩ | ⟨_, t1, t2, t3, t4, HC⟩
  rotate_right
  case' inr.inr.inr.inr =>
    obtain ⟨hd, hv, h0, h1⟩ := HC.out
    have hbt := bytes_tag p n hv h0 h1 hd
    have HB1 : Hid (∀ W : World, Calls Try.prog 9 #[.agg (pktC p)] W fun x w' => x = .returned (.tuple #[.string (str (bytesF p).1), .int .i64 (bytesF p).2]) ∧ Below W.heap.size W w') := Lib.hid (fun W => Bytes_any' W p hu (by omega))
    have HB2 : Hid (∀ W : World, Calls Try.prog 9 #[.agg (pktC (tagP p n))] W fun x w' => x = .returned (.tuple #[.string (str (bytesF (tagP p n)).1), .int .i64 (bytesF (tagP p n)).2]) ∧ Below W.heap.size W w') := Lib.hid (fun W => Bytes_any' W (tagP p n) hu (by show (dat p).length ≤ _; omega))
    have HBL : Hid ((bytesF p).1.length ≤ 1000000000000) := Lib.hid (bytesF_len p)
    generalize bytesF p = B1 at *
    generalize bytesF (tagP p n) = B2 at *
    obtain ⟨bs, be⟩ := B1
    obtain ⟨cs, ce⟩ := B2
    simp only at *
    obtain ⟨rfl, hbt⟩ := hbt
    have h5 : (∃ x : Unit, (be != 0) = true ∧ (be == be) = true) ∨ (∃ x : Unit, be = 0 ∧ Hid (14 ≤ bs.length ∧ cs = bs.take 12 ++ (129 :: 0 :: UInt8.ofNat (n.toNat / 256) :: UInt8.ofNat n.toNat :: bs.drop 12))) := by
      by_cases h : be = 0
      · exact .inr ⟨(), h, Lib.hid (hbt h)⟩
      · exact .inl ⟨(), by simpa using h, by simp⟩
    clear hbt hd hv HC hu
    have q1 : IntKind.i64.wrap (4096 + n) = 4096 + n := i64_id (by omega) (by omega)
    go_enter Try.func6, Try.ntmps6
    go_upto_region 1 with fail
    refine one_box_wp ?_
    intro W hb1 hbel hsz
    have K : Hid (KR w.heap.size w [(w.heap.size, 25, pktC p)] W) := Lib.hid ((KR.start hbel hbel.size).add hb1)
    clear hb1 hbel hsz
    have c10 := (K.out.at 0 rfl).cell 10 _ (pktC_10s p)
    have c2 := (K.out.at 0 rfl).cell 2 _ (pktC_2 p)
    go_wp2_with (first
      | (refine wpList_row 25 _ rfl (by rfl) _ _ rfl _ (run_loadVar_row _ _ _ 25 _ (0, 0) _ (K.out.at 0 rfl) Try.underlying25 rfl (by kernel_rfl)) ?_)
      | fail)
    refine (HB1.out _).mono ?_
    rintro x w1 ⟨rfl, b1⟩
    replace K := Lib.hid (K.out.call b1)
    clear b1 HB1 c10 c2
    have c2 := (K.out.at 0 rfl).cell 2 _ (pktC_2 p)
    have f2 := (K.out.at 0 rfl).frozen 2
    go_upto_region 5 with fail
    clear c2 f2
    replace K : Hid (KR w.heap.size w [(w.heap.size, 25, pktC (tagP p n))] (w1.setCell ⟨w.heap.size, 2, none⟩ (.int .i64 (4096 + n)))) := Lib.hid (K.out.set0 2 _ (Nat.le_refl _) (by simp))
    generalize w1.setCell ⟨w.heap.size, 2, none⟩ (.int .i64 (4096 + n)) = w1 at *
    go_wp2_with (first
      | (refine wpList_row 25 _ rfl (by rfl) _ _ rfl _ (run_loadVar_row _ _ _ 25 _ (0, 0) _ (K.out.at 0 rfl) Try.underlying25 rfl (by kernel_rfl)) ?_)
      | fail)
    refine (HB2.out _).mono ?_
    rintro x w2 ⟨rfl, b2⟩
    replace K := Lib.hid (K.out.call b2)
    clear b2 HB2 q1
    have HW := Lib.hid K.out.below
    clear K
    rcases h5 with ⟨_, t5, t6⟩ | ⟨_, rfl, HT⟩
    · go_wp2_with fail
      refine (HA.out _).mono ?_
      rintro x w3 ⟨rfl, b3⟩
      go_wp2_with fail
      go_ret
      exact ⟨rfl, HW.out.trans (b3.mono HW.out.size)⟩
    · have hl : 14 ≤ bs.length := HT.out.1
      have hl12 : (bs.take 12).length = 12 := by rw [List.length_take]; omega
      obtain ⟨m, rfl⟩ := Int.eq_ofNat_of_zero_le h0
      have t14 : decide ((14 : Int) ≤ (bs.length : Int)) = true := decide_eq_true (by omega)
      have qa : IntKind.u8.wrap ((m : Int) / 256) = ((UInt8.ofNat (m / 256)).toNat : Int) := by
        have : IntKind.u8.wrap ((m : Int) / 256) = ((m : Int) / 256) % 256 := by simp [IntKind.wrap, IntKind.bits, IntKind.signed]
        rw [this, UInt8.toNat_ofNat']; omega
      have qb : IntKind.u8.wrap ((m : Int) % 256) = ((UInt8.ofNat m).toNat : Int) := by
        have : IntKind.u8.wrap ((m : Int) % 256) = ((m : Int) % 256) % 256 := by simp [IntKind.wrap, IntKind.bits, IntKind.signed]
        rw [this, UInt8.toNat_ofNat']; omega
      have HT2 : Hid (cs = bs.take 12 ++ (129 :: 0 :: UInt8.ofNat (m / 256) :: UInt8.ofNat m :: bs.drop 12)) := Lib.hid HT.out.2
      generalize UInt8.ofNat (m / 256) = ua at *
      generalize UInt8.ofNat m = ub at *
      clear HT
      have h12 : (12 : Int) ≤ (bs.length : Int) := by omega
      have x1 : (str bs).extract 0 12 = str (bs.take 12) := by rw [str_extract]; simp
      have x2 : (str bs).extract 12 bs.length = str (bs.drop 12) := by rw [str_extract, List.take_of_length_le (by rw [List.length_drop]; omega)]
      have hb : bs.length ≤ 1000000000000 := HBL.out
      have hdl : (bs.drop 12).length ≤ 1000000000000 := by rw [List.length_drop]; omega
      generalize bs.take 12 = xx at *
      generalize bs.drop 12 = yy at *
      have q5 : IntKind.i64.wrap ((m : Int) / 256) = (m : Int) / 256 := i64_id (by omega) (by omega)
      have q6 : (m : Int).tmod 256 = (m : Int) % 256 := Int.tmod_eq_emod_of_nonneg (by omega)
      have hB4 := HW.out.alloc HW.out.size (.cells #[.int .u8 ua.toNat, .int .u8 ub.toNat] 5)
      have HB4 := Lib.hid hB4.drew
      clear hB4
      have HC2 := Lib.hid (two_str' w2 ua ub)
      have e0 : str xx ++ ⟨#[129, 0]⟩ = str (xx ++ [129, 0]) := by rw [bs_mk, str_append]
      go_upto_region 8 with fail
      have tc : (cs == xx ++ 129 :: 0 :: ua :: ub :: yy) = true := by rw [HT2.out]; simp
      have n1 : ¬ 9223372036854775807 < 16 + yy.length := by omega
      have n2 : ¬ 9223372036854775807 < 14 + (2 + yy.length) := by omega
      refine wp_region_noPanic ?_
      refine wp_region_held (S := fun _ => True) (by kernel_rfl) ?_
      change wpAnyH _ _ _ _ _ 26 #[false, false, false, false, false, false, false, false, false, false, false, false, false, false, false, false, false, false, false, false, false, false, false, false, false, false] _ (World.drew _)
      refine wpAnyH_take (i := 0) (v := ?_) rfl (by kernel_rfl) (by kernel_rfl) (by kernel_rfl) (fun _ _ _ h => h) (Or.inl ⟨by rfl, ?_⟩) trivial ?_
      rotate_left
      · (intro w_ hSw; clear hSw; go_simp; try with_reducible rfl)
      try simp only [List.getElem_toArray, List.getElem_cons_zero, List.getElem_cons_succ, Act.put, List.setIfInBounds_toArray, List.set_cons_zero, List.set_cons_succ]
      refine wpAnyH_take (i := 1) (v := ?_) rfl (by kernel_rfl) (by kernel_rfl) (by kernel_rfl) (fun _ _ _ h => h) (Or.inl ⟨by rfl, ?_⟩) trivial ?_
      rotate_left
      · (intro w_ hSw; clear hSw; go_simp; try with_reducible rfl)
      try simp only [List.getElem_toArray, List.getElem_cons_zero, List.getElem_cons_succ, Act.put, List.setIfInBounds_toArray, List.set_cons_zero, List.set_cons_succ]
      refine wpAnyH_take (i := 2) (v := ?_) rfl (by kernel_rfl) (by kernel_rfl) (by kernel_rfl) (fun _ _ _ h => h) (Or.inl ⟨by rfl, ?_⟩) trivial ?_
      rotate_left
      · (intro w_ hSw; clear hSw; go_simp; try with_reducible rfl)
      try simp only [List.getElem_toArray, List.getElem_cons_zero, List.getElem_cons_succ, Act.put, List.setIfInBounds_toArray, List.set_cons_zero, List.set_cons_succ]
      refine wpAnyH_take (i := 3) (v := ?_) rfl (by kernel_rfl) (by kernel_rfl) (by kernel_rfl) (fun _ _ _ h => h) (Or.inl ⟨by rfl, ?_⟩) trivial ?_
      rotate_left
      · (intro w_ hSw; clear hSw; go_simp; try with_reducible rfl)
      try simp only [List.getElem_toArray, List.getElem_cons_zero, List.getElem_cons_succ, Act.put, List.setIfInBounds_toArray, List.set_cons_zero, List.set_cons_succ]
      refine wpAnyH_take (i := 4) (v := ?_) rfl (by kernel_rfl) (by kernel_rfl) (by kernel_rfl) (fun _ _ _ h => h) (Or.inl ⟨by rfl, ?_⟩) trivial ?_
      rotate_left
      · (intro w_ hSw; clear hSw; go_simp; try with_reducible rfl)
      try simp only [List.getElem_toArray, List.getElem_cons_zero, List.getElem_cons_succ, Act.put, List.setIfInBounds_toArray, List.set_cons_zero, List.set_cons_succ]
      refine wpAnyH_take (i := 5) (v := ?_) rfl (by kernel_rfl) (by kernel_rfl) (by kernel_rfl) (fun _ _ _ h => h) (Or.inl ⟨by rfl, ?_⟩) trivial ?_
      rotate_left
      · (intro w_ hSw; clear hSw; go_simp; try with_reducible rfl)
      try simp only [List.getElem_toArray, List.getElem_cons_zero, List.getElem_cons_succ, Act.put, List.setIfInBounds_toArray, List.set_cons_zero, List.set_cons_succ]
      refine wpAnyH_take (i := 6) (v := ?_) rfl (by kernel_rfl) (by kernel_rfl) (by kernel_rfl) (fun _ _ _ h => h) (Or.inl ⟨by rfl, ?_⟩) trivial ?_
      rotate_left
      · (intro w_ hSw; clear hSw; go_simp; try with_reducible rfl)
      try simp only [List.getElem_toArray, List.getElem_cons_zero, List.getElem_cons_succ, Act.put, List.setIfInBounds_toArray, List.set_cons_zero, List.set_cons_succ]
      refine wpAnyH_take (i := 7) (v := ?_) rfl (by kernel_rfl) (by kernel_rfl) (by kernel_rfl) (fun _ _ _ h => h) (Or.inl ⟨by rfl, ?_⟩) trivial ?_
      rotate_left
      · (intro w_ hSw; clear hSw; go_simp; try with_reducible rfl)
      try simp only [List.getElem_toArray, List.getElem_cons_zero, List.getElem_cons_succ, Act.put, List.setIfInBounds_toArray, List.set_cons_zero, List.set_cons_succ]
      refine wpAnyH_take (i := 8) (v := ?_) rfl (by kernel_rfl) (by kernel_rfl) (by kernel_rfl) (fun _ _ _ h => h) (Or.inl ⟨by rfl, ?_⟩) trivial ?_
      rotate_left
      · (intro w_ hSw; clear hSw; go_simp; try with_reducible rfl)
      try simp only [List.getElem_toArray, List.getElem_cons_zero, List.getElem_cons_succ, Act.put, List.setIfInBounds_toArray, List.set_cons_zero, List.set_cons_succ]
      refine wpAnyH_take (i := 9) (v := ?_) rfl (by kernel_rfl) (by kernel_rfl) (by kernel_rfl) (fun _ _ _ h => h) (Or.inl ⟨by rfl, ?_⟩) trivial ?_
      rotate_left
      · (intro w_ hSw; clear hSw; go_simp; try with_reducible rfl)
      try simp only [List.getElem_toArray, List.getElem_cons_zero, List.getElem_cons_succ, Act.put, List.setIfInBounds_toArray, List.set_cons_zero, List.set_cons_succ]
      refine wpAnyH_take (i := 10) (v := ?_) rfl (by kernel_rfl) (by kernel_rfl) (by kernel_rfl) (fun _ _ _ h => h) (Or.inl ⟨by rfl, ?_⟩) trivial ?_
      rotate_left
      · (intro w_ hSw; clear hSw; go_simp; try with_reducible rfl)
      try simp only [List.getElem_toArray, List.getElem_cons_zero, List.getElem_cons_succ, Act.put, List.setIfInBounds_toArray, List.set_cons_zero, List.set_cons_succ]
      refine wpAnyH_take (i := 11) (v := ?_) rfl (by kernel_rfl) (by kernel_rfl) (by kernel_rfl) (fun _ _ _ h => h) (Or.inl ⟨by rfl, ?_⟩) trivial ?_
      rotate_left
      · (intro w_ hSw; clear hSw; go_simp; try with_reducible rfl)
      try simp only [List.getElem_toArray, List.getElem_cons_zero, List.getElem_cons_succ, Act.put, List.setIfInBounds_toArray, List.set_cons_zero, List.set_cons_succ]
      refine wpAnyH_take (i := 12) (v := ?_) rfl (by kernel_rfl) (by kernel_rfl) (by kernel_rfl) (fun _ _ _ h => h) (Or.inl ⟨by rfl, ?_⟩) trivial ?_
      rotate_left
      · (intro w_ hSw; clear hSw; go_simp; try with_reducible rfl)
      try simp only [List.getElem_toArray, List.getElem_cons_zero, List.getElem_cons_succ, Act.put, List.setIfInBounds_toArray, List.set_cons_zero, List.set_cons_succ]
      refine wpAnyH_take (i := 13) (v := ?_) rfl (by kernel_rfl) (by kernel_rfl) (by kernel_rfl) (fun _ _ _ h => h) (Or.inl ⟨by rfl, ?_⟩) trivial ?_
      rotate_left
      · (intro w_ hSw; clear hSw; go_simp; try with_reducible rfl)
      try simp only [List.getElem_toArray, List.getElem_cons_zero, List.getElem_cons_succ, Act.put, List.setIfInBounds_toArray, List.set_cons_zero, List.set_cons_succ]
      refine wpAnyH_take (i := 17) (v := ?_) rfl (by kernel_rfl) (by kernel_rfl) (by kernel_rfl) (fun _ _ _ h => h) (Or.inl ⟨by rfl, ?_⟩) trivial ?_
      rotate_left
      · (intro w_ hSw; clear hSw; go_simp; try with_reducible rfl)
      try simp only [List.getElem_toArray, List.getElem_cons_zero, List.getElem_cons_succ, Act.put, List.setIfInBounds_toArray, List.set_cons_zero, List.set_cons_succ]
      refine wpAnyH_take (i := 18) (v := ?_) rfl (by kernel_rfl) (by kernel_rfl) (by kernel_rfl) (fun _ _ _ h => h) (Or.inl ⟨by rfl, ?_⟩) trivial ?_
      rotate_left
      · (intro w_ hSw; clear hSw; go_simp; try with_reducible rfl)
      try simp only [List.getElem_toArray, List.getElem_cons_zero, List.getElem_cons_succ, Act.put, List.setIfInBounds_toArray, List.set_cons_zero, List.set_cons_succ]
      refine wpAnyH_ready (rs := [14]) (by kernel_rfl) (by simp) (AllReadyH.cons rfl (fun K hK => ?_) AllReadyH.nil)
      go_simp
      refine hK.out _ _ trivial (fun hHeld => ?_)
      clear hK K hHeld
      try simp only [List.getElem_toArray, List.getElem_cons_zero, List.getElem_cons_succ, Act.put, List.setIfInBounds_toArray, List.set_cons_zero, List.set_cons_succ]
      have hc2 := HC2.out
      generalize (w2.alloc (.cells #[.int .u8 ua.toNat, .int .u8 ub.toNat] 5)).drew = W4 at *
      refine wpAnyH_ready (rs := [15]) (by kernel_rfl) (by simp) (AllReadyH.cons rfl (fun K hK => ?_) AllReadyH.nil)
      go_simp
      refine hK.out _ _ trivial (fun hHeld => ?_)
      clear hK K hHeld
      try simp only [List.getElem_toArray, List.getElem_cons_zero, List.getElem_cons_succ, Act.put, List.setIfInBounds_toArray, List.set_cons_zero, List.set_cons_succ]
      refine wpAnyH_take (i := 16) (v := ?_) rfl (by kernel_rfl) (by kernel_rfl) (by kernel_rfl) (fun _ _ _ h => h) (Or.inl ⟨by rfl, ?_⟩) trivial ?_
      rotate_left
      · (intro w_ hSw; clear hSw; go_simp; try with_reducible rfl)
      try simp only [List.getElem_toArray, List.getElem_cons_zero, List.getElem_cons_succ, Act.put, List.setIfInBounds_toArray, List.set_cons_zero, List.set_cons_succ]
      refine wpAnyH_take (i := 19) (v := ?_) rfl (by kernel_rfl) (by kernel_rfl) (by kernel_rfl) (fun _ _ _ h => h) (Or.inl ⟨by rfl, ?_⟩) trivial ?_
      rotate_left
      · (intro w_ hSw; clear hSw; go_simp; try with_reducible rfl)
      try simp only [List.getElem_toArray, List.getElem_cons_zero, List.getElem_cons_succ, Act.put, List.setIfInBounds_toArray, List.set_cons_zero, List.set_cons_succ]
      refine wpAnyH_take (i := 20) (v := ?_) rfl (by kernel_rfl) (by kernel_rfl) (by kernel_rfl) (fun _ _ _ h => h) (Or.inl ⟨by rfl, ?_⟩) trivial ?_
      rotate_left
      · (intro w_ hSw; clear hSw; go_simp; try with_reducible rfl)
      try simp only [List.getElem_toArray, List.getElem_cons_zero, List.getElem_cons_succ, Act.put, List.setIfInBounds_toArray, List.set_cons_zero, List.set_cons_succ]
      refine wpAnyH_take (i := 21) (v := ?_) rfl (by kernel_rfl) (by kernel_rfl) (by kernel_rfl) (fun _ _ _ h => h) (Or.inl ⟨by rfl, ?_⟩) trivial ?_
      rotate_left
      · (intro w_ hSw; clear hSw; go_simp; try with_reducible rfl)
      try simp only [List.getElem_toArray, List.getElem_cons_zero, List.getElem_cons_succ, Act.put, List.setIfInBounds_toArray, List.set_cons_zero, List.set_cons_succ]
      refine wpAnyH_take (i := 22) (v := ?_) rfl (by kernel_rfl) (by kernel_rfl) (by kernel_rfl) (fun _ _ _ h => h) (Or.inl ⟨by rfl, ?_⟩) trivial ?_
      rotate_left
      · (intro w_ hSw; clear hSw; go_simp; try with_reducible rfl)
      try simp only [List.getElem_toArray, List.getElem_cons_zero, List.getElem_cons_succ, Act.put, List.setIfInBounds_toArray, List.set_cons_zero, List.set_cons_succ]
      refine wpAnyH_ready (rs := [23]) (by kernel_rfl) (by simp) (AllReadyH.cons rfl (fun K hK => ?_) AllReadyH.nil)
      go_simp
      refine (HA.out _).mono ?_
      rintro x wh23 ⟨rfl, bh23⟩
      refine hK.out _ _ trivial (fun hHeld => ?_)
      clear hK K hHeld
      try simp only [List.getElem_toArray, List.getElem_cons_zero, List.getElem_cons_succ, Act.put, List.setIfInBounds_toArray, List.set_cons_zero, List.set_cons_succ]
      refine wpAnyH_take (i := 24) (v := ?_) rfl (by kernel_rfl) (by kernel_rfl) (by kernel_rfl) (fun _ _ _ h => h) (Or.inl ⟨by rfl, ?_⟩) trivial ?_
      rotate_left
      · (intro w_ hSw; clear hSw; go_simp; try with_reducible rfl)
      try simp only [List.getElem_toArray, List.getElem_cons_zero, List.getElem_cons_succ, Act.put, List.setIfInBounds_toArray, List.set_cons_zero, List.set_cons_succ]
      refine wpAnyH_take (i := 25) (v := ?_) rfl (by kernel_rfl) (by kernel_rfl) (by kernel_rfl) (fun _ _ _ h => h) (Or.inl ⟨by rfl, ?_⟩) trivial ?_
      rotate_left
      · (intro w_ hSw; clear hSw; go_simp; try with_reducible rfl)
      try simp only [List.getElem_toArray, List.getElem_cons_zero, List.getElem_cons_succ, Act.put, List.setIfInBounds_toArray, List.set_cons_zero, List.set_cons_succ]
      refine wpAnyH_done (by kernel_rfl) ?_ _
      refine NoPanic.normal ?_
      have HB5 := Lib.hid (HB4.out.trans (bh23.mono HB4.out.size))
      clear bh23 HB4 hc2 HA
      go_wp2_with fail
      go_ret
      exact ⟨rfl, HB5.out⟩
  all_goals
    go_enter Try.func6, Try.ntmps6
    go_upto_region 1 with fail
    refine one_box_wp ?_
    intro W hb1 hbel hsz
    have K : Hid (KR w.heap.size w [(w.heap.size, 25, pktC p)] W) := Lib.hid ((KR.start hbel hbel.size).add hb1)
    clear hb1 hbel hsz
    have c10 := (K.out.at 0 rfl).cell 10 _ (pktC_10s p)
    have c2 := (K.out.at 0 rfl).cell 2 _ (pktC_2 p)
    go_wp2_with fail
    refine (HA.out _).mono ?_
    rintro x w1 ⟨rfl, b1⟩
    go_wp2_with fail
    go_ret
    exact ⟨rfl, (K.out.call b1).below⟩
end Go.Proofs.Ythihncfmimkimaa
