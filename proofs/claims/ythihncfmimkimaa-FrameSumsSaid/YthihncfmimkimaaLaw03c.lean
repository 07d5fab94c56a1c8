/- The walk of FrameSums. -/
import Derived.Test.YthihncfmimkimaaLaw03a
namespace Go.Proofs.Ythihncfmimkimaa
open Go.RowKit
set_option linter.unusedVariables false
set_option linter.unusedSimpArgs false

theorem Right_str (W : World) (l : List UInt8) (h : l.length ≤ 1000000) : Calls Try.prog 13 #[.string (str l)] W fun x w' => x = .returned (.bool (decide (sumR l = 0))) ∧ Below W.heap.size W w' :=
  (Right_any W (str l) (by rw [str_size]; exact h)).mono fun _ _ ⟨h, e⟩ => ⟨h, e ▸ Below.refl _ _⟩
theorem bytesF_len2 (p : Pkt) : (bytesF p).1.length ≤ 1000000 := by
  unfold bytesF
  split
  · simp
  · split
    · simp
    · split
      · simp
      · simp only; omega
set_option maxRecDepth 100000 in
set_option maxHeartbeats 8000000 in
theorem FrameSums_walk (w : World) (p : Pkt) (hok : okPkt w p) :
    Calls Try.prog 7 #[valPkt p] w fun x w' => x = .returned (.bool true) ∧ Below w.heap.size w w' := by
  have hu := okU_of hok
  clear hok
  have HA := Lib.hid awake03
  have hc : (∃ x : Unit, decide ((1000 : Int) < ((dat p).length : Int)) = true) ∨ (∃ x : Unit, decide ((1000 : Int) < ((dat p).length : Int)) = false ∧ (p.fType != 2048) = true) ∨
      (∃ x : Unit, decide ((1000 : Int) < ((dat p).length : Int)) = false ∧ (p.fType != 2048) = false ∧ (p.fVlan != 0) = true) ∨
      (∃ x : Unit, decide ((1000 : Int) < ((dat p).length : Int)) = false ∧ (p.fType != 2048) = false ∧ (p.fVlan != 0) = false ∧ Hid ((dat p).length ≤ 1000 ∧ p.fVlan = 0 ∧ p.fType = 2048)) := by
    by_cases h1 : 1000 < (dat p).length
    · exact .inl ⟨(), decide_eq_true (by omega)⟩
    have d1 : decide ((1000 : Int) < ((dat p).length : Int)) = false := decide_eq_false (by omega)
    by_cases h2 : p.fType = 2048
    case neg => exact .inr (.inl ⟨(), d1, by simpa using h2⟩)
    have d2 : (p.fType != 2048) = false := by simpa using h2
    by_cases h3 : p.fVlan = 0
    case neg => exact .inr (.inr (.inl ⟨(), d1, d2, by simpa using h3⟩))
    exact .inr (.inr (.inr ⟨(), d1, d2, by simpa using h3, Lib.hid ⟨by omega, h3, h2⟩⟩))
  rcases hc with ⟨_, t1⟩ | ⟨_, t1, t2⟩ | ⟨_, t1, t2, t3⟩ | ⟨_, t1, t2, t3, HC⟩
  rotate_right
  case' inr.inr.inr =>
    obtain ⟨hd, hv, ht⟩ := HC.out
    have hbs := bytes_sums p hv ht hd
    have hbb := bytes_bad p
    have HB1 : Hid (∀ W : World, Calls Try.prog 9 #[.agg (pktC p)] W fun x w' => x = .returned (.tuple #[.string (str (bytesF p).1), .int .i64 (bytesF p).2]) ∧ Below W.heap.size W w') := Lib.hid (fun W => Bytes_any' W p hu (by omega))
    have HBL : Hid ((bytesF p).1.length ≤ 1000000) := Lib.hid (bytesF_len2 p)
    generalize bytesF p = B1 at *
    obtain ⟨bs, be⟩ := B1
    simp only at *
    have h5 : (∃ x : Unit, (be != 0) = true ∧ bs = []) ∨ (∃ x : Unit, be = 0 ∧ Hid (34 ≤ bs.length ∧ sumR ((bs.drop 14).take 20) = 0 ∧ 256 * (bs.getD 16 0).toNat + (bs.getD 17 0).toNat = bs.length - 14)) := by
      by_cases h : be = 0
      · exact .inr ⟨(), h, Lib.hid (hbs h)⟩
      · exact .inl ⟨(), by simpa using h, hbb h⟩
    clear hbs hbb hd hv ht HC hu
    go_enter Try.func7, Try.ntmps7
    go_upto_region 1 with fail
    refine one_box_wp ?_
    intro W hb1 hbel hsz
    have K : Hid (KR w.heap.size w [(w.heap.size, 25, pktC p)] W) := Lib.hid ((KR.start hbel hbel.size).add hb1)
    clear hb1 hbel hsz
    have c10 := (K.out.at 0 rfl).cell 10 _ (pktC_10s p)
    have c2 := (K.out.at 0 rfl).cell 2 _ (pktC_2 p)
    have c3 := (K.out.at 0 rfl).cell 3 _ (pktC_3 p)
    go_wp2_with (first
      | (refine wpList_row 25 _ rfl (by rfl) _ _ rfl _ (run_loadVar_row _ _ _ 25 _ (0, 0) _ (K.out.at 0 rfl) Try.underlying25 rfl (by kernel_rfl)) ?_)
      | fail)
    refine (HB1.out _).mono ?_
    rintro x w1 ⟨rfl, b1⟩
    have HW := Lib.hid (K.out.call b1).below
    clear b1 HB1 c10 c2 c3 K
    rcases h5 with ⟨_, t5, rfl⟩ | ⟨_, rfl, HT⟩
    · go_wp2_with fail
      refine (HA.out _).mono ?_
      rintro x w3 ⟨rfl, b3⟩
      go_wp2_with fail
      go_ret
      exact ⟨rfl, HW.out.trans (b3.mono HW.out.size)⟩
    · obtain ⟨hl, hs, hn⟩ := HT.out
      have t34 : decide ((34 : Int) ≤ (bs.length : Int)) = true := decide_eq_true (by omega)
      have h34 : (34 : Int) ≤ (bs.length : Int) := by omega
      have hl16 : (16 : Int) < (bs.length : Int) := by omega
      have hl17 : (17 : Int) < (bs.length : Int) := by omega
      have x1 : (str bs).extract 14 34 = str ((bs.drop 14).take 20) := str_extract _ _ _
      have HRt : Hid (∀ W : World, Calls Try.prog 13 #[.string (str ((bs.drop 14).take 20))] W fun x w' => x = .returned (.bool true) ∧ Below W.heap.size W w') := Lib.hid (fun W => by
        have := Right_str W ((bs.drop 14).take 20) (by rw [List.length_take]; omega)
        rw [hs] at this
        exact this)
      have g16 : ∀ h : 16 < bs.length, (bs[16]'h).toNat = (bs.getD 16 0).toNat := by intro h; simp [List.getD, h]
      have g17 : ∀ h : 17 < bs.length, (bs[17]'h).toNat = (bs.getD 17 0).toNat := by intro h; simp [List.getD, h]
      have l16 := (bs.getD 16 0).toNat_lt
      have l17 := (bs.getD 17 0).toNat_lt
      generalize (bs.drop 14).take 20 = hh at *
      generalize (bs.getD 16 0).toNat = a16 at *
      generalize (bs.getD 17 0).toNat = a17 at *
      have teq : ((256 : Int) * a16 + a17 == (bs.length : Int) - 14) = true := by rw [beq_iff_eq]; omega
      have hbl := HBL.out
      have v1 : IntKind.i64.wrap (a16 : Int) = a16 := i64_id (by omega) (by omega)
      have v2 : IntKind.i64.wrap (a17 : Int) = a17 := i64_id (by omega) (by omega)
      have v3 : IntKind.i64.wrap ((256 : Int) * a16) = 256 * a16 := i64_id (by omega) (by omega)
      have v4 : IntKind.i64.wrap ((256 : Int) * a16 + a17) = 256 * a16 + a17 := i64_id (by omega) (by omega)
      have v5 : IntKind.i64.wrap ((bs.length : Int) - 14) = bs.length - 14 := i64_id (by omega) (by omega)
      clear HT hs hn
      have K : Hid (KR w.heap.size w [] w1) := Lib.hid (KR.start HW.out HW.out.size)
      clear HW
      haveI : Nonempty (Keep (KR w.heap.size w [])) := ⟨⟨_, K.out⟩⟩
      go_upto_region 6 with fail
      refine wp_region_keep2 (Cl := KR w.heap.size w []) (by kernel_rfl) (by kernel_rfl) K.out.drew ?_
      intro y' hy'
      have g3_ := fun tmps => hy' tmps 3 35 rfl
      have g8_ := fun tmps => hy' tmps 8 40 rfl
      have g22_ := fun tmps => hy' tmps 22 54 rfl
      have gb_ := yl_bool
      clear hy' K
      repeat
        first
          | (refine wpQ2_step (fun K hK => ?_)
             go_simp
             first
               | (refine hK _ ?_; clear hK K)
               | (apply Exists.intro
                  refine ⟨fun _ => ?_, hK _ ?_⟩
                  (rw [if_neg (by omega)]; exact ⟨rfl, rfl⟩)
                  clear hK K)
               | (apply Exists.intro
                  refine ⟨fun _ => ?_, hK _ ?_⟩
                  ((with_reducible refine Calls.keep (HRt.out _) ?_); exact (fun w' hb => KR.call (Keep.h _) hb))
                  clear hK K)
               | (apply Exists.intro
                  refine ⟨fun _ => ?_, hK _ ?_⟩
                  ((with_reducible refine Calls.keep (HA.out _) ?_); exact (fun w' hb => KR.call (Keep.h _) hb))
                  clear hK K))
      refine wpQ2_nil ?_
      intro Wk Kk
      have K := Lib.hid Kk
      clear Kk
      clear gb_ g3_ g8_ g22_
      go_wp2_with fail
      go_ret
      exact ⟨rfl, K.out.below⟩
  all_goals
    go_enter Try.func7, Try.ntmps7
    go_upto_region 1 with fail
    refine one_box_wp ?_
    intro W hb1 hbel hsz
    have K : Hid (KR w.heap.size w [(w.heap.size, 25, pktC p)] W) := Lib.hid ((KR.start hbel hbel.size).add hb1)
    clear hb1 hbel hsz
    have c10 := (K.out.at 0 rfl).cell 10 _ (pktC_10s p)
    have c2 := (K.out.at 0 rfl).cell 2 _ (pktC_2 p)
    have c3 := (K.out.at 0 rfl).cell 3 _ (pktC_3 p)
    go_wp2_with fail
    refine (HA.out _).mono ?_
    rintro x w1 ⟨rfl, b1⟩
    go_wp2_with fail
    go_ret
    exact ⟨rfl, (K.out.call b1).below⟩
end Go.Proofs.Ythihncfmimkimaa
