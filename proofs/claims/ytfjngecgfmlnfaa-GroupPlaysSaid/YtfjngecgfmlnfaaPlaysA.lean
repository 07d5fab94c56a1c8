/- The reference's New, in, Right. -/
import Derived.Test.YtfjngecgfmlnfaaGroupY
import Derived.Test.YtfjngecgfmlnfaaTOp10
namespace Go.Proofs.Ytfjngecgfmlnfaa
open Go.RowKit Go.Maps
set_option linter.unusedVariables false
set_option linter.unusedSimpArgs false

theorem rNew_none (w : World) (room : Int) (h : okRoom room = false) : Calls Try.prog 14 #[.int .i64 room] w fun e w' => e = .returned (.tuple #[.pointer none, .int .i64 1]) ∧ Below w.heap.size w w' := by
  simp only [okRoom, Bool.and_eq_false_iff, decide_eq_false_iff_not] at h
  have K : Hid (Below w.heap.size w w) := Lib.hid (Below.refl _ _)
  by_cases h1 : room < 1
  · have t1 : decide (room < 1) = true := decide_eq_true h1
    clear h
    go_enter Try.func14, Try.ntmps14
    go_wp2_with fail
    go_ret2
    exact ⟨rfl, K.out⟩
  · have t1 : decide (room < 1) = false := decide_eq_false h1
    have t2 : decide (64 < room) = true := decide_eq_true (by omega)
    clear h
    go_enter Try.func14, Try.ntmps14
    go_wp2_with fail
    go_ret2
    exact ⟨rfl, K.out⟩
set_option maxHeartbeats 1000000 in
theorem rNew_any (w : World) (room : Int) (h : okRoom room = true) : Calls Try.prog 14 #[.int .i64 room] w fun e w' => e = .returned (.tuple #[.pointer (some ⟨w.heap.size, 0, none⟩), .int .i64 0]) ∧ BlkAt w' w.heap.size 52 #[.slice none 0 0, .int .i64 room] ∧ Below w.heap.size w w' := by
  simp only [okRoom, Bool.and_eq_true, decide_eq_true_eq] at h
  have t1 : decide (room < 1) = false := decide_eq_false (by omega)
  have t2 : decide (64 < room) = false := decide_eq_false (by omega)
  have HB := Lib.hid ((Below.refl w.heap.size w).alloc (Nat.le_refl _) (.cells #[.slice none 0 0, .int .i64 room] 52))
  have HK := Lib.hid (BlkAt.new w 52 #[.slice none 0 0, .int .i64 room])
  clear h
  go_enter Try.func14, Try.ntmps14
  go_wp2_with fail
  go_ret2
  exact ⟨rfl, HK.out, HB.out⟩
def inF (n lo hi : Int) : Bool := decide (lo ≤ n) && decide (n ≤ hi)
theorem in_any (n lo hi : Int) (W : World) : Calls Try.prog 57 #[.int .i64 n, .int .i64 lo, .int .i64 hi] W fun e w' => e = .returned (.bool (inF n lo hi)) ∧ w' = W := by
  unfold inF
  by_cases h1 : lo ≤ n
  · have t1 : decide (lo ≤ n) = true := decide_eq_true h1
    go_enter Try.func57, Try.ntmps57
    go_wp2_with fail
    go_ret
    exact ⟨by simp [t1], rfl⟩
  · have t1 : decide (lo ≤ n) = false := decide_eq_false h1
    go_enter Try.func57, Try.ntmps57
    go_wp2_with fail
    go_ret
    exact ⟨by simp [t1], rfl⟩
/-- The reference's tests say the same. -/
theorem headF_in (id kind : Int) (n : Nat) : headF id kind n = (!inF id 1 65535 || (!inF kind 1 4 || (decide ((16 : Int) < n) || (decide (kind = 3) && !decide ((n : Int) = 1))))) := by
  unfold headF inF
  rw [Bool.eq_iff_iff]
  simp
  omega
theorem wrongBF_in (kind : Int) (c : Core) : wrongBF kind c = (decide ((8 : Int) < c.2.2.length) || (!inF c.1 0 16 || (!inF c.2.1 0 65535 || (decide (kind = 4) && decide (c.1 = 0))))) := by
  unfold wrongBF inF
  rw [Bool.eq_iff_iff]
  simp
  omega

set_option maxRecDepth 100000 in
set_option maxHeartbeats 16000000 in
theorem rRight_any (w : World) (g : Group) (h : okGroup w g) :
    Calls Try.prog 39 #[valGroup g] w fun e w' => e = .returned (.int .i64 (wrongF g.fID g.fKind (g.fBuckets.map coreB))) ∧ Below w.heap.size w w' := by
  obtain ⟨gi, gk, gv, bs⟩ := g
  obtain ⟨_, _, ⟨hR, hB⟩, _⟩ := h
  simp only at *
  have HR1 : Hid (headF gi gk bs.length = true → wrongF gi gk (bs.map coreB) = 24) := Lib.hid (fun h => by unfold wrongF; rw [if_pos (by simpa using h)])
  have HR2 : Hid (headF gi gk bs.length = false → ∀ k (hk : k < bs.length), wrongBF gk (coreB bs[k]) = true → wrongF gi gk (bs.map coreB) = 24) := Lib.hid (fun h k hk hw => by
    unfold wrongF
    rw [if_neg (by simp [h]), if_pos (by rw [List.any_eq_true]; exact ⟨_, List.mem_map_of_mem (List.getElem_mem hk), hw⟩)])
  have HR3 : Hid (headF gi gk bs.length = false → (∀ k (hk : k < bs.length), wrongBF gk (coreB bs[k]) = false) → wrongF gi gk (bs.map coreB) = if (bs.map coreB).any badA = true then 22 else 0) := Lib.hid (fun h hn => by
    unfold wrongF
    rw [if_neg (by simp [h]), if_neg ?_]
    simp only [List.any_eq_true, not_exists, not_and]
    intro c hc
    obtain ⟨b, hb, rfl⟩ := List.mem_map.1 hc
    obtain ⟨k, hk, rfl⟩ := List.getElem_of_mem hb
    simp [hn k hk])
  generalize wrongF gi gk (bs.map coreB) = R at *
  have HOk := Lib.hid hB
  have HIn := Lib.hid in_any
  have HHd : Hid _ := Lib.hid (headF_in gi gk bs.length)
  obtain ⟨a, cap, hgv, hcap, hmax, hc⟩ := hR
  subst hgv
  unfold maxLen at hmax
  have HC := Lib.hid hc
  clear hc hB
  go_enter Try.func39, Try.ntmps39
  go_upto_region 1 with fail
  refine one_box_wp ?_
  intro W hb1 hbel hsz
  have K : Hid (KR w.heap.size w [(w.heap.size, 24, #[.int .i64 gi, .int .i64 gk, .slice a bs.length cap])] W) := Lib.hid ((KR.start hbel hbel.size).add hb1)
  clear hb1 hbel hsz
  have c0 := (K.out.at 0 rfl).cell 0 _ rfl
  have c1 := (K.out.at 0 rfl).cell 1 _ rfl
  have c2 := (K.out.at 0 rfl).cell 2 _ rfl
  by_cases hh : headF gi gk bs.length = true
  · have e := HR1.out hh
    subst e
    rw [HHd.out] at hh
    clear HR1 HR2 HR3 HHd
    cases hA1 : inF gi 1 65535 with
    | false =>
      have HI1 := Lib.hid (fun W => HIn.out gi 1 65535 W)
      rw [hA1] at HI1
      clear hh
      go_wp2_with fail
      refine (HI1.out _).mono ?_
      rintro x w' ⟨rfl, rfl⟩
      go_wp2_with fail
      go_ret
      exact ⟨rfl, K.out.below⟩
    | true =>
      have HI1 := Lib.hid (fun W => HIn.out gi 1 65535 W)
      rw [hA1] at HI1 hh
      simp only [Bool.not_true, Bool.false_or] at hh
      cases hA2 : inF gk 1 4 with
      | false =>
        have HI2 := Lib.hid (fun W => HIn.out gk 1 4 W)
        rw [hA2] at HI2
        clear hh
        go_wp2_with fail
        refine (HI1.out _).mono ?_
        rintro x w' ⟨rfl, rfl⟩
        go_wp2_with fail
        refine (HI2.out _).mono ?_
        rintro x w' ⟨rfl, rfl⟩
        go_wp2_with fail
        go_ret
        exact ⟨rfl, K.out.below⟩
      | true =>
        have HI2 := Lib.hid (fun W => HIn.out gk 1 4 W)
        rw [hA2] at HI2 hh
        simp only [Bool.not_true, Bool.false_or, Bool.or_eq_true, Bool.and_eq_true, decide_eq_true_eq, Bool.not_eq_true', decide_eq_false_iff_not] at hh
        by_cases h16 : (16 : Int) < bs.length
        · have t16 : decide ((16 : Int) < (bs.length : Int)) = true := decide_eq_true h16
          clear hh
          go_wp2_with fail
          refine (HI1.out _).mono ?_
          rintro x w' ⟨rfl, rfl⟩
          go_wp2_with fail
          refine (HI2.out _).mono ?_
          rintro x w' ⟨rfl, rfl⟩
          go_wp2_with fail
          go_ret
          exact ⟨rfl, K.out.below⟩
        · have t16 : decide ((16 : Int) < (bs.length : Int)) = false := decide_eq_false h16
          obtain ⟨h3, hn1⟩ := hh.resolve_left h16
          have t3 : (gk == 3) = true := by simpa using h3
          have b1 : ((bs.length : Int) != 1) = true := by simp; omega
          clear hh h3 hn1
          go_wp2_with fail
          refine (HI1.out _).mono ?_
          rintro x w' ⟨rfl, rfl⟩
          go_wp2_with fail
          refine (HI2.out _).mono ?_
          rintro x w' ⟨rfl, rfl⟩
          go_wp2_with fail
          go_ret
          exact ⟨rfl, K.out.below⟩
  · have hh' : headF gi gk bs.length = false := by simpa using hh
    have HR2' := Lib.hid (HR2.out hh')
    have HR3' := Lib.hid (HR3.out hh')
    rw [HHd.out] at hh'
    clear hh HR1 HR2 HR3 HHd
    simp only [Bool.or_eq_false_iff, Bool.and_eq_false_iff, Bool.not_eq_false', decide_eq_false_iff_not, decide_eq_true_eq] at hh'
    obtain ⟨d1, d2, d3, d6⟩ := hh'
    have HI1 := Lib.hid (fun W => HIn.out gi 1 65535 W)
    rw [d1] at HI1
    have HI2 := Lib.hid (fun W => HIn.out gk 1 4 W)
    rw [d2] at HI2
    have t16 : decide ((16 : Int) < (bs.length : Int)) = false := decide_eq_false d3
    have h16 : bs.length ≤ 16 := by omega
    by_cases h3 : gk = 3
    case' pos =>
      have t3 : (gk == 3) = true := by simpa using h3
      have b1 : ((bs.length : Int) != 1) = false := by simp; omega
    case' neg =>
      have t3 : (gk == 3) = false := by simpa using h3
      have b1 : True := trivial
    all_goals
      clear h3 d6 d1 d2 d3
      go_wp2_with fail
      refine (HI1.out _).mono ?_
      rintro x w' ⟨rfl, rfl⟩
      go_wp2_with fail
      refine (HI2.out _).mono ?_
      rintro x w' ⟨rfl, rfl⟩
      go_upto_region 3 with fail
      clear HI1 HI2 t16 t3 b1
      go_wp2_with fail
      clear c0 c1 c2
      go_loopw [3] (fun iv wr => ∃ k : Nat, k ≤ bs.length ∧ iv = .int .i64 k ∧ Hid (KR w.heap.size w [(w.heap.size, 24, #[.int .i64 gi, .int .i64 gk, .slice a bs.length cap])] wr) ∧ Hid (∀ j (hj : j < bs.length), j < k → wrongBF gk (coreB bs[j]) = false)) (fun iv _ => bs.length - (intOf iv).toNat)
      case atStart => exact ⟨0, Nat.zero_le _, rfl, K, Lib.hid (fun j hj hk => absurd hk (Nat.not_lt_zero _))⟩
      case round =>
        obtain ⟨k, hk, rfl, K, HQ⟩ := hrel
        have c1 := (K.out.at 0 rfl).cell 1 _ rfl
        have c2 := (K.out.at 0 rfl).cell 2 _ rfl
        by_cases hlt : k < bs.length
        · have d2 : decide (k < bs.length) = true := by simpa using hlt
          rcases HC.out with hnil | ⟨b, off, rfl, hblt, hcell⟩
          · rw [hnil] at hlt; simp at hlt
          have r1 := range_of hcell K.out.below hblt k hlt
          have hok := HOk.out _ (List.getElem_mem hlt)
          have hx1 : oneB bs[k] := encBucket_ok hok
          obtain ⟨xa, xc, hxv, hxc, hxm⟩ := okBucket_slice hok
          unfold maxLen at hxm
          have HWt := Lib.hid (HR2'.out k hlt)
          have HQ2 : Hid (wrongBF gk (coreB bs[k]) = false → ∀ j (hj : j < bs.length), j < k + 1 → wrongBF gk (coreB bs[j]) = false) := Lib.hid (fun h j hj hjk => if e : j = k then (by subst e; exact h) else HQ.out j hj (by omega))
          clear hcell HC HQ HR2' HR3' hok HOk
          generalize bs[k] = x at *
          obtain ⟨x1, x2, x3, acts⟩ := x
          simp only at hxv hxc
          subst hxv
          have hx2 : ∀ v ∈ #[Value.int .i64 x1, Value.int .i64 x2, .slice xa acts.length xc].toList, v.oneCell' = true := by simpa [encBucket, oneB] using hx1
          have HWq : Hid (wrongBF gk (coreB ⟨x1, x2, .slice xa acts.length xc, acts⟩) = (decide ((8 : Int) < acts.length) || (!inF x1 0 16 || (!inF x2 0 65535 || (decide (gk = 4) && decide (x1 = 0)))))) := Lib.hid (wrongBF_in _ _)
          generalize wrongBF gk (coreB ⟨x1, x2, .slice xa acts.length xc, acts⟩) = WB at *
          have HI1 := Lib.hid (fun W => HIn.out x1 0 16 W)
          have HI2 := Lib.hid (fun W => HIn.out x2 0 65535 W)
          simp only [encBucket] at r1
          clear hx1
          go_wp2_with (first
            | (refine wpList_load_mid rfl 30 _ rfl _ _ rfl _ _ r1 Try.underlying30 rfl (by kernel_rfl) ?_)
            | (refine wpList_store_row rfl 30 _ _ rfl _ rfl #[.int .i64 x1, .int .i64 x2, .slice xa acts.length xc] rfl _ _ ((K.out.box _ _).at 0 rfl) rfl (by kernel_rfl) hx2 ?_)
            | fail)
          intro Wi hbi hbari
          replace K := Lib.hid (K.out.into hbari hbi)
          clear hbi hbari r1 hx2 c1 c2
          generalize wr.heap.size = g1 at *
          have x0c := (K.out.at 0 rfl).cell 0 _ rfl
          have x1c := (K.out.at 0 rfl).cell 1 _ rfl
          have x2c := (K.out.at 0 rfl).cell 2 _ rfl
          have c1 := (K.out.at 1 rfl).cell 1 _ rfl
          by_cases h8 : (8 : Int) < acts.length
          · have t8 : decide ((8 : Int) < (acts.length : Int)) = true := decide_eq_true h8
            have e := HWt.out (by rw [HWq.out, t8]; rfl)
            subst e
            clear HWq HQ2 HI1 HI2 h8
            go_wp2_with fail
            go_ret
            exact ⟨rfl, K.out.below⟩
          · have t8 : decide ((8 : Int) < (acts.length : Int)) = false := decide_eq_false h8
            rw [t8, Bool.false_or] at HWq
            clear h8
            cases hB1 : inF x1 0 16 with
            | false =>
              rw [hB1] at HI1 HWq
              have e := HWt.out (by rw [HWq.out]; rfl)
              subst e
              clear HWq HQ2 hB1
              go_wp2_with fail
              refine (HI1.out _).mono ?_
              rintro x w' ⟨rfl, rfl⟩
              go_wp2_with fail
              go_ret
              exact ⟨rfl, K.out.below⟩
            | true =>
              rw [hB1] at HI1 HWq
              cases hB2 : inF x2 0 65535 with
              | false =>
                rw [hB2] at HI2 HWq
                have e := HWt.out (by rw [HWq.out]; rfl)
                subst e
                clear HWq HQ2 hB1 hB2
                go_wp2_with fail
                refine (HI1.out _).mono ?_
                rintro x w' ⟨rfl, rfl⟩
                go_wp2_with fail
                refine (HI2.out _).mono ?_
                rintro x w' ⟨rfl, rfl⟩
                go_wp2_with fail
                go_ret
                exact ⟨rfl, K.out.below⟩
              | true =>
                rw [hB2] at HI2 HWq
                simp only [Bool.not_true, Bool.false_or] at HWq
                clear hB1 hB2
                by_cases h4 : gk = 4
                · have t4 : (gk == 4) = true := by simpa using h4
                  by_cases h0 : x1 = 0
                  · have t0 : (x1 == 0) = true := by simpa using h0
                    have e := HWt.out (by rw [HWq.out]; simp [h4, h0])
                    subst e
                    clear HWq HQ2 h0 h4
                    go_wp2_with fail
                    refine (HI1.out _).mono ?_
                    rintro x w' ⟨rfl, rfl⟩
                    go_wp2_with fail
                    refine (HI2.out _).mono ?_
                    rintro x w' ⟨rfl, rfl⟩
                    go_wp2_with fail
                    go_ret
                    exact ⟨rfl, K.out.below⟩
                  · have t0 : (x1 == 0) = false := by simpa using h0
                    have HQ3 := Lib.hid (HQ2.out (by rw [HWq.out]; simp [h0]))
                    clear HWq HQ2 HWt h0 h4
                    go_wp2_with fail
                    refine (HI1.out _).mono ?_
                    rintro x w' ⟨rfl, rfl⟩
                    go_wp2_with fail
                    refine (HI2.out _).mono ?_
                    rintro x w' ⟨rfl, rfl⟩
                    go_wp2_with fail
                    go_roundw
                    case rel => exact ⟨k + 1, by omega, by go_num, Lib.hid (K.out.sub (by simp)), HQ3⟩
                    case measure => simp [intOf]; omega
                · have t4 : (gk == 4) = false := by simpa using h4
                  have HQ3 := Lib.hid (HQ2.out (by rw [HWq.out]; simp [h4]))
                  clear HWq HQ2 HWt
                  go_wp2_with fail
                  refine (HI1.out _).mono ?_
                  rintro x w' ⟨rfl, rfl⟩
                  go_wp2_with fail
                  refine (HI2.out _).mono ?_
                  rintro x w' ⟨rfl, rfl⟩
                  go_wp2_with fail
                  go_roundw
                  case rel => exact ⟨k + 1, by omega, by go_num, Lib.hid (K.out.sub (by simp)), HQ3⟩
                  case measure => simp [intOf]; omega
        · have d2 : decide (k < bs.length) = false := by simpa using hlt
          have HE := Lib.hid (HR3'.out (fun j hj => HQ.out j hj (by omega)))
          clear HR2' HR3' HQ HIn
          go_wp2_with fail
          clear c1 c2
          go_loopw [5] (fun iv wr => ∃ k : Nat, k ≤ bs.length ∧ iv = .int .i64 k ∧ Hid (KR w.heap.size w [(w.heap.size, 24, #[.int .i64 gi, .int .i64 gk, .slice a bs.length cap])] wr) ∧ Hid (∀ j (hj : j < bs.length), j < k → badA (coreB bs[j]) = false)) (fun iv _ => bs.length - (intOf iv).toNat)
          case atStart => exact ⟨0, Nat.zero_le _, rfl, K, Lib.hid (fun j hj hk => absurd hk (Nat.not_lt_zero _))⟩
          case round =>
            obtain ⟨k, hk, rfl, K, HQ⟩ := hrel
            have c2 := (K.out.at 0 rfl).cell 2 _ rfl
            by_cases hlt : k < bs.length
            · have d2 : decide (k < bs.length) = true := by simpa using hlt
              rcases HC.out with hnil | ⟨b, off, rfl, hblt, hcell⟩
              · rw [hnil] at hlt; simp at hlt
              have HRg := Lib.hid (fun W (hb : Below w.heap.size w W) => range_of hcell hb hblt k hlt)
              have hok := HOk.out _ (List.getElem_mem hlt)
              have hacts := hok.2.2.1.1
              have HOkA := Lib.hid hok.2.2.1.2
              have HBd : Hid (badA (coreB bs[k]) = true → R = 22) := Lib.hid (fun h => by
                rw [HE.out, if_pos (List.any_eq_true.2 ⟨_, List.mem_map_of_mem (List.getElem_mem hlt), h⟩)])
              have HQ2 : Hid (badA (coreB bs[k]) = false → ∀ j (hj : j < bs.length), j < k + 1 → badA (coreB bs[j]) = false) := Lib.hid (fun h j hj hjk => if e : j = k then (by subst e; exact h) else HQ.out j hj (by omega))
              clear hcell HC HQ hok HOk HE
              generalize bs[k] = x at *
              obtain ⟨x1, x2, x3, acts⟩ := x
              simp only [coreB, badA] at HBd HQ2
              simp only at hacts HOkA
              obtain ⟨xa, xc, hxv, hxc, hxm, hac⟩ := hacts
              subst hxv
              unfold maxLen at hxm
              have HAc := Lib.hid hac
              have HX2 : Hid (∀ W, Below w.heap.size w W → W.cell? ⟨b, off + k * 3 + 2, none⟩ = some (.slice xa acts.length xc)) := Lib.hid (fun W hb => HRg.out W hb 2 _ rfl)
              clear hac HRg
              go_wp2_with fail
              clear c2
              go_loopw [6] (fun jv wr => ∃ j : Nat, j ≤ acts.length ∧ jv = .int .i64 j ∧ Hid (KR w.heap.size w [(w.heap.size, 24, #[.int .i64 gi, .int .i64 gk, .slice (some ⟨b, off, none⟩) bs.length cap])] wr) ∧ Hid (∀ i (hi : i < acts.length), i < j → rightA acts[i].fKind acts[i].fField acts[i].fValue = true)) (fun jv _ => acts.length - (intOf jv).toNat)
              case atStart => exact ⟨0, Nat.zero_le _, rfl, K, Lib.hid (fun i hi hk => absurd hk (Nat.not_lt_zero _))⟩
              case round =>
                obtain ⟨j, hj, rfl, K, HQ3⟩ := hrel
                have c2 := (K.out.at 0 rfl).cell 2 _ rfl
                have x2c := HX2.out _ K.out.below
                by_cases hjt : j < acts.length
                · have d3 : decide (j < acts.length) = true := by simpa using hjt
                  rcases HAc.out with hnil | ⟨ab, aoff, rfl, hablt, hacell⟩
                  · rw [hnil] at hjt; simp at hjt
                  have r1 := range_of hacell K.out.below hablt j hjt
                  have hv := okV_of (HOkA.out _ (List.getElem_mem hjt))
                  have HRt := Lib.hid (fun W => rright_any W acts[j].fKind acts[j].fField acts[j].fValue hv.1 hv.2)
                  have HBd2 : Hid (rightA acts[j].fKind acts[j].fField acts[j].fValue = false → R = 22) := Lib.hid (fun h => HBd.out (List.any_eq_true.2 ⟨_, List.getElem_mem hjt, by simp [h]⟩))
                  have HQ4 : Hid (rightA acts[j].fKind acts[j].fField acts[j].fValue = true → ∀ i (hi : i < acts.length), i < j + 1 → rightA acts[i].fKind acts[i].fField acts[i].fValue = true) := Lib.hid (fun h i hi hik => if e : i = j then (by subst e; exact h) else HQ3.out i hi (by omega))
                  clear hacell HAc HQ3 HBd hv HOkA
                  generalize acts[j] = y at *
                  obtain ⟨y1, y2, y3⟩ := y
                  simp only [encAction] at r1
                  simp only at HRt HBd2 HQ4
                  generalize rightA y1 y2 y3 = RT at *
                  go_wp2_with (first
                    | (refine wpList_load_mid rfl 58 _ rfl _ _ rfl _ _ r1 Try.underlying58 rfl (by kernel_rfl) ?_)
                    | fail)
                  refine (HRt.out _).mono ?_
                  rintro x w2 ⟨rfl, hb2⟩
                  replace K := Lib.hid (K.out.call hb2)
                  clear hb2 HRt r1 c2 x2c
                  cases RT with
                  | false =>
                    have e := HBd2.out rfl
                    subst e
                    clear HQ4
                    go_wp2_with fail
                    go_ret
                    exact ⟨rfl, K.out.below⟩
                  | true =>
                    have HQ5 := Lib.hid (HQ4.out rfl)
                    clear HBd2 HQ4
                    go_wp2_with fail
                    go_roundw
                    case rel => exact ⟨j + 1, by omega, by go_num, K, HQ5⟩
                    case measure => simp [intOf]; omega
                · have d3 : decide (j < acts.length) = false := by simpa using hjt
                  have HQ5 := Lib.hid (HQ2.out (by
                    rw [List.any_eq_false]
                    intro y hy
                    obtain ⟨i, hi, rfl⟩ := List.getElem_of_mem hy
                    simp [HQ3.out i hi (by omega)]))
                  clear HBd
                  go_wp2_with fail
                  go_roundw
                  case rel => exact ⟨k + 1, by omega, by go_num, K, HQ5⟩
                  case measure => simp [intOf]; omega
            · have d2 : decide (k < bs.length) = false := by simpa using hlt
              have e : R = 0 := by
                rw [HE.out, if_neg]
                simp only [List.any_eq_true, not_exists, not_and]
                intro c hc
                obtain ⟨b, hb, rfl⟩ := List.mem_map.1 hc
                obtain ⟨i, hi, rfl⟩ := List.getElem_of_mem hb
                simp [HQ.out i hi (by omega)]
              subst e
              go_wp2_with fail
              go_ret
              exact ⟨rfl, K.out.below⟩
end Go.Proofs.Ytfjngecgfmlnfaa
