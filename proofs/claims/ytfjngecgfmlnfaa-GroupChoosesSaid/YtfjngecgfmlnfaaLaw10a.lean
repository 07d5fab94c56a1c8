/- GroupChooses: the program's Choose gives the buckets that the reference's gives. -/
import Derived.Test.YtfjngecgfmlnfaaAwake10
import Derived.Test.YtfjngecgfmlnfaaGroupK
namespace Go.Proofs.Ytfjngecgfmlnfaa
open Go.RowKit
set_option linter.unusedVariables false
set_option linter.unusedSimpArgs false

set_option maxRecDepth 100000 in
set_option maxHeartbeats 8000000 in
theorem GroupChooses_walk (w : World) (g : Group) (hok : okGroup w g) (lv : Value) (live : List Bool) (hl : ReadL w 1 encBo lv live) (htr : ∀ x ∈ live, True) (pick : Int) (wf : (Lit.int .i64 pick).wf = true) :
    Calls Try.prog 3 #[valGroup g, lv, .int .i64 pick] w fun x w' => x = .returned (.bool true) ∧ Below w.heap.size w w' := by
  have HA := Lib.hid awake10
  have hgv := hok.2.2.1.1.one
  have HFew : Hid (∀ W : World, Below w.heap.size w W → _) := Lib.hid (fun W hb => few_any W g ⟨hok.1, hok.2.1, ⟨hok.2.2.1.1.below hb (Nat.le_refl _), fun y hy => okBucket_below (hok.2.2.1.2 y hy) hb (Nat.le_refl _)⟩, trivial⟩)
  have HOk : Hid (∀ W : World, Below w.heap.size w W → okGroup W g) := Lib.hid (fun W hb => ⟨hok.1, hok.2.1, ⟨hok.2.2.1.1.below hb (Nat.le_refl _), fun y hy => okBucket_below (hok.2.2.1.2 y hy) hb (Nat.le_refl _)⟩, trivial⟩)
  have HCh : Hid (fewF g = true → (∀ b ∈ g.fBuckets, b.fWeight ≤ 1099511627776) → ∀ W : World, Below w.heap.size w W → Calls Try.prog 10 #[valGroup g, lv, .int .i64 pick] W (Chosen W W.heap.size g.fKind g.fBuckets live pick)) :=
    Lib.hid (fun hf hw W hb => Choose_any W g lv live pick (HOk.out W hb) hf (hl.below hb (Nat.le_refl _)) hw)
  have HRc : Hid (fewF g = true → (∀ b ∈ g.fBuckets, b.fWeight ≤ 1099511627776) → ∀ W : World, Below w.heap.size w W → Calls Try.prog 11 #[valGroup g, lv, .int .i64 pick] W (Chosen W W.heap.size g.fKind g.fBuckets live pick)) :=
    Lib.hid (fun hf hw W hb => rChoose_any W g lv live pick (HOk.out W hb) hf (hl.below hb (Nat.le_refl _)) hw)
  obtain ⟨la, lc, hlv, hlc, hlm⟩ := hl.slice
  subst hlv
  unfold maxLen at hlm
  obtain ⟨gi, gk, gv, bs⟩ := g
  obtain ⟨_, _, ⟨hR, hB⟩, _⟩ := hok
  simp only at *
  obtain ⟨a, cap, hgv', hcap, hmax, hc⟩ := hR
  subst hgv'
  unfold maxLen at hmax
  have HC := Lib.hid hc
  clear hc hB hl
  go_enter Try.func3, Try.ntmps3
  go_upto_region 1 with fail
  refine one_box_wp ?_
  intro W hb1 hbel hsz
  have K : Hid (KR w.heap.size w [(w.heap.size, 24, #[.int .i64 gi, .int .i64 gk, .slice a bs.length cap])] W) := Lib.hid ((KR.start hbel hbel.size).add hb1)
  clear hb1 hbel hsz
  go_wp2_with (first
    | (refine wpList_load_row rfl 24 _ rfl _ rfl _ _ _ _ (K.out.at 0 rfl) Try.underlying24 rfl (by kernel_rfl) ?_)
    | fail)
  refine (HFew.out _ K.out.below).mono ?_
  rintro x w1 ⟨rfl, hb1⟩
  replace K := Lib.hid (K.out.call hb1)
  clear hb1 HFew
  cases hf : fewF ⟨gi, gk, .slice a bs.length cap, bs⟩ with
  | false =>
    clear HCh HRc HC hf
    go_wp2_with fail
    refine (HA.out _).mono ?_
    rintro x w2 ⟨rfl, hb2⟩
    replace K := Lib.hid (K.out.call hb2)
    clear hb2
    go_wp2_with fail
    go_ret
    exact ⟨rfl, K.out.below⟩
  | true =>
    have HCh2 := Lib.hid (HCh.out hf)
    have HRc2 := Lib.hid (HRc.out hf)
    clear HCh HRc hf
    by_cases h100 : 100 < live.length
    · have t1 : decide ((100 : Int) < (live.length : Int)) = true := decide_eq_true (by omega)
      clear HCh2 HRc2 HC h100
      go_wp2_with fail
      refine (HA.out _).mono ?_
      rintro x w2 ⟨rfl, hb2⟩
      replace K := Lib.hid (K.out.call hb2)
      clear hb2
      go_wp2_with fail
      go_ret
      exact ⟨rfl, K.out.below⟩
    · have t1 : decide ((100 : Int) < (live.length : Int)) = false := decide_eq_false (by omega)
      clear h100
      go_wp2_with fail
      go_loopw [7] (fun iv wr => ∃ k : Nat, k ≤ bs.length ∧ iv = .int .i64 k ∧ Hid (KR w.heap.size w [(w.heap.size, 24, #[.int .i64 gi, .int .i64 gk, .slice a bs.length cap])] wr) ∧ Hid (∀ j (hj : j < bs.length), j < k → bs[j].fWeight ≤ 1099511627776)) (fun iv _ => bs.length - (intOf iv).toNat)
      case atStart => exact ⟨0, Nat.zero_le _, rfl, K, Lib.hid (fun j hj hk => absurd hk (Nat.not_lt_zero _))⟩
      case round =>
        obtain ⟨k, hk, rfl, K, HQ⟩ := hrel
        have c2 := (K.out.at 0 rfl).cell 2 _ rfl
        by_cases hlt : k < bs.length
        · have d2 : decide (k < bs.length) = true := by simpa using hlt
          rcases HC.out with hnil | ⟨b, off, rfl, hblt, hcell⟩
          · rw [hnil] at hlt; simp at hlt
          have c3 := (K.out.below.cell (p := ⟨b, off + (k * 3 + 1), none⟩) hblt).trans (hcell k 1 _ hlt rfl)
          simp only [← Nat.add_assoc] at c3
          have HQ2 : Hid (bs[k].fWeight ≤ 1099511627776 → ∀ j (hj : j < bs.length), j < k + 1 → bs[j].fWeight ≤ 1099511627776) := Lib.hid (fun h j hj hjk => if e : j = k then (by subst e; exact h) else HQ.out j hj (by omega))
          clear hcell HC HQ HCh2 HRc2
          generalize bs[k].fWeight = m at *
          by_cases hm : 1099511627776 < m
          · have d3 : decide ((1099511627776 : Int) < m) = true := decide_eq_true hm
            clear HQ2
            go_wp2_with fail
            refine (HA.out _).mono ?_
            rintro x w2 ⟨rfl, hb2⟩
            replace K := Lib.hid (K.out.call hb2)
            clear hb2
            go_wp2_with fail
            go_ret
            exact ⟨rfl, K.out.below⟩
          · have d3 : decide ((1099511627776 : Int) < m) = false := decide_eq_false hm
            have HQ3 := Lib.hid (HQ2.out (by omega))
            clear HQ2
            go_wp2_with fail
            go_roundw
            case rel => exact ⟨k + 1, by omega, by go_num, K, HQ3⟩
            case measure => simp [intOf]; omega
        · have d2 : decide (k < bs.length) = false := by simpa using hlt
          have hw : ∀ b ∈ bs, b.fWeight ≤ 1099511627776 := fun b hb => by
            obtain ⟨j, hj, rfl⟩ := List.getElem_of_mem hb
            exact HQ.out j hj (by omega)
          have HCh := Lib.hid (HCh2.out hw)
          have HRc := Lib.hid (HRc2.out hw)
          clear HCh2 HRc2 HC HQ hw
          go_wp2_with (first
            | (refine wpList_load_row rfl 24 _ rfl _ rfl _ _ _ _ (K.out.at 0 rfl) Try.underlying24 rfl (by kernel_rfl) ?_)
            | fail)
          refine (HCh.out _ K.out.below).mono ?_
          rintro x w2 ⟨v1, l1, rfl, hr1, hk1, hc1, hb2⟩
          replace K := Lib.hid (K.out.call hb2)
          obtain ⟨va, vc, hv1, _, _⟩ := hr1.slice
          subst hv1
          have HR1 := Lib.hid hr1
          have HK1 := Lib.hid hk1
          have HC1 := Lib.hid hc1
          clear hr1 hk1 hc1 hb2 HCh c2
          have hbase : Hid (Below w2.heap.size w2 w2) := Lib.hid (Below.refl _ _)
          go_wp2_with (first
            | (refine wpList_store_row rfl 24 _ _ rfl _ rfl #[.int .i64 0, .int .i64 0, .slice va l1.length vc] rfl _ _ ((K.out.box _ _).at 0 rfl) rfl (by kernel_rfl) (by simp [Value.oneCell']) ?_)
            | fail)
          intro Wi hbi hbari
          have HB3 : Hid (Below w2.heap.size w2 Wi) := Lib.hid (hbari.below ((Below.refl _ _).alloc (Nat.le_refl _) _) (Nat.le_refl _) (by simp))
          replace K := Lib.hid (K.out.into hbari hbi)
          replace HR1 := Lib.hid (HR1.out.below HB3.out (Nat.le_refl _))
          replace HK1 := Lib.hid (fun x hx => okBucket_below (HK1.out x hx) HB3.out (Nat.le_refl _))
          clear hbi hbari HB3 hbase
          generalize w2.heap.size = g1 at *
          go_wp2_with (first
            | (refine wpList_load_row rfl 24 _ rfl _ rfl _ _ _ _ (K.out.at 1 rfl) Try.underlying24 rfl (by kernel_rfl) ?_)
            | fail)
          refine (HRc.out _ K.out.below).mono ?_
          rintro x w4 ⟨v2, l2, rfl, hr2, hk2, hc2, hb4⟩
          replace K := Lib.hid (K.out.call hb4)
          replace HR1 := Lib.hid (HR1.out.below hb4 (Nat.le_refl _))
          replace HK1 := Lib.hid (fun x hx => okBucket_below (HK1.out x hx) hb4 (Nat.le_refl _))
          obtain ⟨vb, vd, hv2, _, _⟩ := hr2.slice
          subst hv2
          have HR2 := Lib.hid hr2
          have HK2 := Lib.hid hk2
          have HC2 := Lib.hid hc2
          clear hr2 hk2 hc2 hb4 HRc
          go_wp2_with (first
            | (refine wpList_store_row rfl 24 _ _ rfl _ rfl #[.int .i64 0, .int .i64 0, .slice vb l2.length vd] rfl _ _ ((K.out.box _ _).at 0 rfl) rfl (by kernel_rfl) (by simp [Value.oneCell']) ?_)
            | fail)
          intro Wj hbj hbarj
          have HB5 : Hid (Below w4.heap.size w4 Wj) := Lib.hid (hbarj.below ((Below.refl _ _).alloc (Nat.le_refl _) _) (Nat.le_refl _) (by simp))
          replace K := Lib.hid (K.out.into hbarj hbj)
          replace HR1 := Lib.hid (HR1.out.below HB5.out (Nat.le_refl _))
          replace HK1 := Lib.hid (fun x hx => okBucket_below (HK1.out x hx) HB5.out (Nat.le_refl _))
          replace HR2 := Lib.hid (HR2.out.below HB5.out (Nat.le_refl _))
          replace HK2 := Lib.hid (fun x hx => okBucket_below (HK2.out x hx) HB5.out (Nat.le_refl _))
          clear hbj hbarj HB5
          generalize w4.heap.size = g2 at *
          have HS := Lib.hid (SameGroup_eq Wj ⟨0, 0, .slice va l1.length vc, l1⟩ ⟨0, 0, .slice vb l2.length vd, l2⟩ ⟨rfl, rfl, ⟨HR1.out, HK1.out⟩, trivial⟩ ⟨rfl, rfl, ⟨HR2.out, HK2.out⟩, trivial⟩ (by simp only [coreG]; rw [HC1.out, HC2.out]))
          clear HR1 HK1 HC1 HR2 HK2 HC2
          go_wp2_with (first
            | (refine wpList_load_row rfl 24 _ rfl _ rfl _ _ _ _ (K.out.at 1 rfl) Try.underlying24 rfl (by kernel_rfl) ?_)
            | (refine wpList_load_row rfl 24 _ rfl _ rfl _ _ _ _ (K.out.at 0 rfl) Try.underlying24 rfl (by kernel_rfl) ?_)
            | fail)
          refine HS.out.mono ?_
          rintro x w5 ⟨rfl, hb5⟩
          replace K := Lib.hid (K.out.call hb5)
          clear hb5 HS
          go_wp2_with fail
          refine (HA.out _).mono ?_
          rintro x w6 ⟨rfl, hb6⟩
          replace K := Lib.hid (K.out.call hb6)
          clear hb6
          go_wp2_with fail
          go_ret
          exact ⟨rfl, K.out.below⟩
end Go.Proofs.Ytfjngecgfmlnfaa
