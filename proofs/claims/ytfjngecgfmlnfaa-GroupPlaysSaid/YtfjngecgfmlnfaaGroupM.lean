/- What is wrong with a group. -/
import Derived.Test.YtfjngecgfmlnfaaGroupL
import Derived.Test.YtfjngecgfmlnfaaGroupJ
import Derived.Test.YtfjngecgfmlnfaaActR
namespace Go.Proofs.Ytfjngecgfmlnfaa
open Go.RowKit
set_option linter.unusedVariables false
set_option linter.unusedSimpArgs false

def wrongBF (kind : Int) (c : Core) : Bool := decide ((8 : Int) < c.2.2.length) || (decide (c.1 < 0) || (decide (16 < c.1) || (decide (c.2.1 < 0) || (decide (65535 < c.2.1) || (decide (kind = 4) && decide (c.1 = 0))))))
def headF (id kind : Int) (n : Nat) : Bool := decide (id < 1) || (decide (65535 < id) || (decide (kind < 1) || (decide (4 < kind) || (decide ((16 : Int) < n) || (decide (kind = 3) && !decide ((n : Int) = 1))))))
def badA (c : Core) : Bool := c.2.2.any fun a => !rightA a.fKind a.fField a.fValue
def wrongF (id kind : Int) (l : List Core) : Int := if headF id kind l.length = true then 24 else if l.any (wrongBF kind) = true then 24 else if l.any badA = true then 22 else 0
def okV (x : Action) : Prop := 0 ≤ x.fValue ∧ x.fValue ≤ 18446744073709551615
theorem okV_of {w : World} {x : Action} (h : okAction w x) : okV x := by
  have := h.2.2.1
  simp [Lit.wf, IntKind.min, IntKind.max, IntKind.signed, IntKind.bits] at this
  unfold okV
  omega

set_option maxRecDepth 100000 in
set_option maxHeartbeats 4000000 in
theorem wrong1_any (w : World) (x : Action) (hx : okV x) : Calls Try.prog 53 #[.agg (encAction x).toArray] w fun e w' => e = .returned (.bool (!rightA x.fKind x.fField x.fValue)) ∧ Below w.heap.size w w' := by
  have HA : Hid (∀ W : World, _) := Lib.hid (fun W => right_any W x.fKind x.fField x.fValue hx.1 hx.2)
  generalize rightA x.fKind x.fField x.fValue = R at *
  simp only [encAction]
  clear hx
  go_enter Try.func53, Try.ntmps53
  go_upto_region 1 with fail
  refine one_box_wp ?_
  intro W hb1 hbel hsz
  have K : Hid (KR w.heap.size w [(w.heap.size, 58, #[.int .i64 x.fKind, .int .i64 x.fField, .int .u64 x.fValue])] W) := Lib.hid ((KR.start hbel hbel.size).add hb1)
  clear hb1 hbel hsz
  go_wp2_with (first
    | (refine wpList_load_row rfl 58 _ rfl _ rfl _ _ _ _ (K.out.at 0 rfl) Try.underlying58 rfl (by kernel_rfl) ?_)
    | fail)
  refine (HA.out _).mono ?_
  rintro e w' ⟨rfl, hb⟩
  have HB := Lib.hid (K.out.below.trans (hb.mono K.out.size))
  clear hb
  go_wp2_with fail
  go_ret
  exact ⟨rfl, HB.out⟩

set_option maxRecDepth 100000 in
set_option maxHeartbeats 4000000 in
theorem wrongBucket_any (w : World) (k : Int) (x : Bucket) (a : Option Addr) (cap : Nat) (hv : x.vActions = .slice a x.fActions.length cap) :
    Calls Try.prog 51 #[.int .i64 k, .agg (encBucket x).toArray] w fun e w' => e = .returned (.bool (wrongBF k (coreB x))) ∧ Below w.heap.size w w' := by
  have HR : Hid (wrongBF k (coreB x) = _) := Lib.hid (by unfold wrongBF coreB; rfl)
  simp only [encBucket, hv]
  generalize wrongBF k (coreB x) = R at *
  obtain ⟨x1, x2, x3, x4⟩ := x
  simp only at *
  clear hv
  go_enter Try.func51, Try.ntmps51
  go_upto_region 1 with fail
  refine one_box_wp ?_
  intro W hb1 hbel hsz
  have K : Hid (KR w.heap.size w [(w.heap.size, 30, #[.int .i64 x1, .int .i64 x2, .slice a x4.length cap])] W) := Lib.hid ((KR.start hbel hbel.size).add hb1)
  clear hb1 hbel hsz
  have c0 := (K.out.at 0 rfl).cell 0 _ rfl
  have c1 := (K.out.at 0 rfl).cell 1 _ rfl
  have c2 := (K.out.at 0 rfl).cell 2 _ rfl
  go_wp2_with fail
  all_goals
    go_ret
    have q := HR.out
    exact ⟨rbool (by rw [q]; first | rfl | (rw [Bool.eq_iff_iff]; simp; omega) | (simp_all) | (simp_all; omega)), K.out.below⟩

set_option maxRecDepth 100000 in
set_option maxHeartbeats 8000000 in
theorem wrong_any (w : World) (g : Group) (h : okGroup w g) :
    Calls Try.prog 36 #[valGroup g] w fun e w' => e = .returned (.int .i64 (wrongF g.fID g.fKind (g.fBuckets.map coreB))) ∧ Below w.heap.size w w' := by
  obtain ⟨gi, gk, gv, bs⟩ := g
  obtain ⟨_, _, ⟨hR, hB⟩, _⟩ := h
  simp only at *
  have HR1 : Hid (headF gi gk bs.length = true → wrongF gi gk (bs.map coreB) = 24) := Lib.hid (fun h => by unfold wrongF; rw [if_pos (by simpa using h)])
  have HR2 : Hid (headF gi gk bs.length = false → ∀ k (hk : k < bs.length), wrongBF gk (coreB bs[k]) = true → wrongF gi gk (bs.map coreB) = 24) := Lib.hid (fun h k hk hw => by
    unfold wrongF
    rw [if_neg (by simp [h]), if_pos (by rw [List.any_eq_true]; exact ⟨_, List.mem_map_of_mem (List.getElem_mem hk), hw⟩)])
  have HR3 : Hid (headF gi gk bs.length = false → (∀ k (hk : k < bs.length), wrongBF gk (coreB bs[k]) = false) → wrongF gi gk (bs.map coreB) = if (bs.map coreB).any badA = true then 22 else 0) := Lib.hid (fun h hn => by
    unfold wrongF
    rw [if_neg (by simp [h]), if_neg ?_]
    simp only [List.any_eq_true, not_exists, not_and]
    intro c hc
    obtain ⟨b, hb, rfl⟩ := List.mem_map.1 hc
    obtain ⟨k, hk, rfl⟩ := List.getElem_of_mem hb
    simp [hn k hk])
  generalize wrongF gi gk (bs.map coreB) = R at *
  have HOk := Lib.hid hB
  have HRd := Lib.hid hR
  obtain ⟨a, cap, hgv, hcap, hmax, hc⟩ := hR
  subst hgv
  unfold maxLen at hmax
  have HC := Lib.hid hc
  clear hc hB
  go_enter Try.func36, Try.ntmps36
  go_upto_region 1 with fail
  refine one_box_wp ?_
  intro W hb1 hbel hsz
  have K : Hid (KR w.heap.size w [(w.heap.size, 24, #[.int .i64 gi, .int .i64 gk, .slice a bs.length cap])] W) := Lib.hid ((KR.start hbel hbel.size).add hb1)
  clear hb1 hbel hsz
  have c0 := (K.out.at 0 rfl).cell 0 _ rfl
  have c1 := (K.out.at 0 rfl).cell 1 _ rfl
  have c2 := (K.out.at 0 rfl).cell 2 _ rfl
  by_cases hh : headF gi gk bs.length = true
  · have e := HR1.out hh
    subst e
    clear HR1 HR2 HR3
    simp [headF] at hh
    by_cases hn1 : bs.length = 1
    · have b1 : ((bs.length : Int) != 1) = false := by simp; omega
      go_wp2_with fail
      all_goals first | (exfalso; omega) | (go_ret; exact ⟨rfl, K.out.below⟩)
    · have b1 : ((bs.length : Int) != 1) = true := by simp; omega
      go_wp2_with fail
      all_goals first | (exfalso; omega) | (go_ret; exact ⟨rfl, K.out.below⟩)
  · have hh' : headF gi gk bs.length = false := by simpa using hh
    have HR2' := Lib.hid (HR2.out hh')
    have HR3' := Lib.hid (HR3.out hh')
    clear hh HR1 HR2 HR3
    simp only [headF, Bool.or_eq_false_iff, Bool.and_eq_false_iff, Bool.not_eq_false'] at hh'
    obtain ⟨d1, d2, d3, d4, d5, d6⟩ := hh'
    by_cases h3 : ¬ gk = 3
    · have d7 : decide (gk = 3) = false := decide_eq_false h3
      have d8 : (gk == 3) = false := by simpa using h3
      clear h3 d6
      go_wp2_with fail
      clear c0 c1 c2
      go_loopw [3, 44] (fun ev iv wr => ∃ k : Nat, k ≤ bs.length ∧ iv = .int .i64 k ∧ (∃ ez : Int, ev = .int .i64 ez ∧ Hid (ez = if ((bs.map coreB).take k).any badA = true then 22 else 0)) ∧ Hid (KR w.heap.size w [(w.heap.size, 24, #[.int .i64 gi, .int .i64 gk, .slice a bs.length cap])] wr) ∧ Hid (∀ j (hj : j < bs.length), j < k → wrongBF gk (coreB bs[j]) = false)) (fun _ iv _ => bs.length - (intOf iv).toNat)
      case atStart => exact ⟨0, Nat.zero_le _, rfl, ⟨0, rfl, Lib.hid rfl⟩, K, Lib.hid (fun j hj hk => absurd hk (Nat.not_lt_zero _))⟩
      case round =>
        obtain ⟨k, hk, rfl, ⟨ez, rfl, HEz⟩, K, HQ⟩ := hrel
        by_cases hlt : k < bs.length
        · have d2 : decide (k < bs.length) = true := by simpa using hlt
          rcases HC.out with hnil | ⟨b, off, rfl, hblt, hcell⟩
          · rw [hnil] at hlt; simp at hlt
          have r1 := range_of hcell K.out.below hblt k hlt
          have hok := HOk.out _ (List.getElem_mem hlt)
          have hx1 : oneB bs[k] := encBucket_ok hok
          obtain ⟨xa, xc, hxv, _, _⟩ := okBucket_slice hok
          have HBad : Hid (((bs.map coreB).take (k + 1)).any badA = (((bs.map coreB).take k).any badA || badA (coreB bs[k]))) := Lib.hid (by
            rw [List.take_succ_eq_append_getElem (by simpa using hlt), List.any_append, List.getElem_map]; simp)
          have HW2 := Lib.hid (HR2'.out k hlt)
          have HQ2 : Hid (wrongBF gk (coreB bs[k]) = false → ∀ j (hj : j < bs.length), j < k + 1 → wrongBF gk (coreB bs[j]) = false) := Lib.hid (fun h j hj hjk => if e : j = k then (by subst e; exact h) else HQ.out j hj (by omega))
          have hacts := hok.2.2.1
          clear hcell HC HQ HR2' HR3' hok HOk
          generalize bs[k] = x at *
          have hx2 : ∀ v ∈ #[Value.int .i64 x.fWatch, Value.int .i64 x.fWeight, x.vActions].toList, v.oneCell' = true := by simpa [encBucket, oneB] using hx1
          have HWB : Hid (∀ W : World, _) := Lib.hid (fun W => wrongBucket_any W gk x xa xc hxv)
          have HCF : Hid (∀ W : World, Below w.heap.size w W → Calls Try.prog 52 #[x.vActions, .func (.func 53) #[] #[]] W fun e w' => e = .returned (.bool (badA (coreB x))) ∧ Below W.heap.size W w') :=
            Lib.hid (fun W hb => containsFuncA W x.vActions x.fActions _ #[] (fun a => !rightA a.fKind a.fField a.fValue) (fun _ => True) okV (fun W x _ hx => wrong1_any W x hx) (fun _ _ _ _ => trivial) trivial
              (enters_of Try.func53 (by kernel_rfl) rfl) (hacts.1.below hb (Nat.le_refl _)) (fun y hy => okV_of (hacts.2 y hy)))
          simp only [encBucket, hxv] at r1 HWB HCF hx2
          generalize wrongBF gk (coreB x) = WB at *
          generalize badA (coreB x) = BD at *
          generalize ((bs.map coreB).take k).any badA = B0 at *
          clear hx1 hacts
          go_wp2_with (first
            | (refine wpList_load_mid rfl 30 _ rfl _ _ rfl _ _ r1 Try.underlying30 rfl (by kernel_rfl) ?_)
            | (refine wpList_store_row rfl 30 _ _ rfl _ rfl #[.int .i64 x.fWatch, .int .i64 x.fWeight, .slice xa x.fActions.length xc] rfl _ _ ((K.out.box _ _).at 0 rfl) rfl (by kernel_rfl) hx2 ?_)
            | fail)
          intro Wi hbi hbari
          replace K := Lib.hid (K.out.into hbari hbi)
          clear hbi hbari r1 hx2
          generalize wr.heap.size = g1 at *
          have c1 := (K.out.at 1 rfl).cell 1 _ rfl
          go_wp2_with (first
            | (refine wpList_load_row rfl 30 _ rfl _ rfl _ _ _ _ (K.out.at 0 rfl) Try.underlying30 rfl (by kernel_rfl) ?_)
            | fail)
          refine (HWB.out _).mono ?_
          rintro e w2 ⟨rfl, hb2⟩
          replace K := Lib.hid (K.out.call hb2)
          clear hb2 HWB c1
          cases WB with
          | true =>
            have e := HW2.out rfl
            subst e
            clear HCF HQ2 HBad
            go_wp2_with fail
            go_ret
            exact ⟨rfl, K.out.below⟩
          | false =>
            have HQ3 := Lib.hid (HQ2.out rfl)
            have c2 := (K.out.at 0 rfl).cell 2 _ rfl
            clear HQ2 HW2
            go_wp2_with fail
            refine (HCF.out _ K.out.below).mono ?_
            rintro e w3 ⟨rfl, hb3⟩
            replace K := Lib.hid (K.out.call hb3)
            clear hb3 HCF c2
            cases BD with
            | true =>
              go_wp2_with fail
              go_roundw
              case rel => exact ⟨k + 1, by omega, by go_num, ⟨22, rfl, Lib.hid (by rw [HBad.out]; simp)⟩, Lib.hid (K.out.sub (by simp)), HQ3⟩
              case measure => simp [intOf]; omega
            | false =>
              go_wp2_with fail
              go_roundw
              case rel => exact ⟨k + 1, by omega, by go_num, ⟨ez, rfl, Lib.hid (by rw [HBad.out, HEz.out]; simp)⟩, Lib.hid (K.out.sub (by simp)), HQ3⟩
              case measure => simp [intOf]; omega
        · have d2 : decide (k < bs.length) = false := by simpa using hlt
          have e := HR3'.out (fun j hj => HQ.out j hj (by omega))
          have HE := Lib.hid e
          clear HR2' HR3' HQ e
          go_wp2_with fail
          go_ret
          refine ⟨?_, K.out.below⟩
          rw [List.take_of_length_le (by simp; omega)] at HEz
          rw [HE.out, ← HEz.out]; rfl
    · have hn : bs.length = 1 := by
        rcases d6 with d6 | d6
        · exact absurd (of_decide_eq_false d6) h3
        · have := of_decide_eq_true d6; omega
      have b1 : ((bs.length : Int) != 1) = false := by simp; omega
      have h3' : gk = 3 := Classical.byContradiction h3
      have d7 : (gk == 3) = true := by simpa using h3'
      clear h3 h3' hn d6
      go_wp2_with fail
      clear c0 c1 c2
      go_loopw [3, 44] (fun ev iv wr => ∃ k : Nat, k ≤ bs.length ∧ iv = .int .i64 k ∧ (∃ ez : Int, ev = .int .i64 ez ∧ Hid (ez = if ((bs.map coreB).take k).any badA = true then 22 else 0)) ∧ Hid (KR w.heap.size w [(w.heap.size, 24, #[.int .i64 gi, .int .i64 gk, .slice a bs.length cap])] wr) ∧ Hid (∀ j (hj : j < bs.length), j < k → wrongBF gk (coreB bs[j]) = false)) (fun _ iv _ => bs.length - (intOf iv).toNat)
      case atStart => exact ⟨0, Nat.zero_le _, rfl, ⟨0, rfl, Lib.hid rfl⟩, K, Lib.hid (fun j hj hk => absurd hk (Nat.not_lt_zero _))⟩
      case round =>
        obtain ⟨k, hk, rfl, ⟨ez, rfl, HEz⟩, K, HQ⟩ := hrel
        by_cases hlt : k < bs.length
        · have d2 : decide (k < bs.length) = true := by simpa using hlt
          rcases HC.out with hnil | ⟨b, off, rfl, hblt, hcell⟩
          · rw [hnil] at hlt; simp at hlt
          have r1 := range_of hcell K.out.below hblt k hlt
          have hok := HOk.out _ (List.getElem_mem hlt)
          have hx1 : oneB bs[k] := encBucket_ok hok
          obtain ⟨xa, xc, hxv, _, _⟩ := okBucket_slice hok
          have HBad : Hid (((bs.map coreB).take (k + 1)).any badA = (((bs.map coreB).take k).any badA || badA (coreB bs[k]))) := Lib.hid (by
            rw [List.take_succ_eq_append_getElem (by simpa using hlt), List.any_append, List.getElem_map]; simp)
          have HW2 := Lib.hid (HR2'.out k hlt)
          have HQ2 : Hid (wrongBF gk (coreB bs[k]) = false → ∀ j (hj : j < bs.length), j < k + 1 → wrongBF gk (coreB bs[j]) = false) := Lib.hid (fun h j hj hjk => if e : j = k then (by subst e; exact h) else HQ.out j hj (by omega))
          have hacts := hok.2.2.1
          clear hcell HC HQ HR2' HR3' hok HOk
          generalize bs[k] = x at *
          have hx2 : ∀ v ∈ #[Value.int .i64 x.fWatch, Value.int .i64 x.fWeight, x.vActions].toList, v.oneCell' = true := by simpa [encBucket, oneB] using hx1
          have HWB : Hid (∀ W : World, _) := Lib.hid (fun W => wrongBucket_any W gk x xa xc hxv)
          have HCF : Hid (∀ W : World, Below w.heap.size w W → Calls Try.prog 52 #[x.vActions, .func (.func 53) #[] #[]] W fun e w' => e = .returned (.bool (badA (coreB x))) ∧ Below W.heap.size W w') :=
            Lib.hid (fun W hb => containsFuncA W x.vActions x.fActions _ #[] (fun a => !rightA a.fKind a.fField a.fValue) (fun _ => True) okV (fun W x _ hx => wrong1_any W x hx) (fun _ _ _ _ => trivial) trivial
              (enters_of Try.func53 (by kernel_rfl) rfl) (hacts.1.below hb (Nat.le_refl _)) (fun y hy => okV_of (hacts.2 y hy)))
          simp only [encBucket, hxv] at r1 HWB HCF hx2
          generalize wrongBF gk (coreB x) = WB at *
          generalize badA (coreB x) = BD at *
          generalize ((bs.map coreB).take k).any badA = B0 at *
          clear hx1 hacts
          go_wp2_with (first
            | (refine wpList_load_mid rfl 30 _ rfl _ _ rfl _ _ r1 Try.underlying30 rfl (by kernel_rfl) ?_)
            | (refine wpList_store_row rfl 30 _ _ rfl _ rfl #[.int .i64 x.fWatch, .int .i64 x.fWeight, .slice xa x.fActions.length xc] rfl _ _ ((K.out.box _ _).at 0 rfl) rfl (by kernel_rfl) hx2 ?_)
            | fail)
          intro Wi hbi hbari
          replace K := Lib.hid (K.out.into hbari hbi)
          clear hbi hbari r1 hx2
          generalize wr.heap.size = g1 at *
          have c1 := (K.out.at 1 rfl).cell 1 _ rfl
          go_wp2_with (first
            | (refine wpList_load_row rfl 30 _ rfl _ rfl _ _ _ _ (K.out.at 0 rfl) Try.underlying30 rfl (by kernel_rfl) ?_)
            | fail)
          refine (HWB.out _).mono ?_
          rintro e w2 ⟨rfl, hb2⟩
          replace K := Lib.hid (K.out.call hb2)
          clear hb2 HWB c1
          cases WB with
          | true =>
            have e := HW2.out rfl
            subst e
            clear HCF HQ2 HBad
            go_wp2_with fail
            go_ret
            exact ⟨rfl, K.out.below⟩
          | false =>
            have HQ3 := Lib.hid (HQ2.out rfl)
            have c2 := (K.out.at 0 rfl).cell 2 _ rfl
            clear HQ2 HW2
            go_wp2_with fail
            refine (HCF.out _ K.out.below).mono ?_
            rintro e w3 ⟨rfl, hb3⟩
            replace K := Lib.hid (K.out.call hb3)
            clear hb3 HCF c2
            cases BD with
            | true =>
              go_wp2_with fail
              go_roundw
              case rel => exact ⟨k + 1, by omega, by go_num, ⟨22, rfl, Lib.hid (by rw [HBad.out]; simp)⟩, Lib.hid (K.out.sub (by simp)), HQ3⟩
              case measure => simp [intOf]; omega
            | false =>
              go_wp2_with fail
              go_roundw
              case rel => exact ⟨k + 1, by omega, by go_num, ⟨ez, rfl, Lib.hid (by rw [HBad.out, HEz.out]; simp)⟩, Lib.hid (K.out.sub (by simp)), HQ3⟩
              case measure => simp [intOf]; omega
        · have d2 : decide (k < bs.length) = false := by simpa using hlt
          have e := HR3'.out (fun j hj => HQ.out j hj (by omega))
          have HE := Lib.hid e
          clear HR2' HR3' HQ e
          go_wp2_with fail
          go_ret
          refine ⟨?_, K.out.below⟩
          rw [List.take_of_length_le (by simp; omega)] at HEz
          rw [HE.out, ← HEz.out]; rfl
end Go.Proofs.Ytfjngecgfmlnfaa
