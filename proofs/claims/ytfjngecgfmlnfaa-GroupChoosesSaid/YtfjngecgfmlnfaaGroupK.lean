/- The reference's Choose. -/
import Derived.Test.YtfjngecgfmlnfaaGroupJ
namespace Go.Proofs.Ytfjngecgfmlnfaa
open Go.RowKit
set_option linter.unusedVariables false
set_option linter.unusedSimpArgs false

def fitB (live : List Bool) (x : Bucket) : Bool := aliveF x.fWatch live && decide (0 < x.fWeight)
theorem fitB_core (l : List Bucket) (live : List Bool) : (l.map coreB).filter (fitF live) = (l.filter (fitB live)).map coreB := by
  rw [List.filter_map]; rfl
def ChosenT (w : World) (n : Nat) (T : List Core) (e : Ending) (w' : World) : Prop :=
  ∃ v' l', e = .returned v' ∧ ReadL w' 3 encBucket v' l' ∧ (∀ x ∈ l', okBucket w' x) ∧ l'.map coreB = T ∧ Below n w w'
def sumFit (live : List Bool) (l : List Bucket) : Int := sumW Bucket.fWeight (l.filter (fitB live))
theorem sumFit_snoc (live : List Bool) (l : List Bucket) (k : Nat) (hk : k < l.length) : sumFit live (l.take (k + 1)) = if fitB live l[k] = true then sumFit live (l.take k) + l[k].fWeight else sumFit live (l.take k) := by
  unfold sumFit sumW
  rw [List.take_succ_eq_append_getElem hk, List.filter_append]
  by_cases h : fitB live l[k] = true
  · rw [if_pos h]
    simp only [List.map_append, List.sum_append, List.filter_cons, h, if_true, List.filter_nil, List.map_cons, List.map_nil, List.sum_cons, List.sum_nil, Int.add_zero]
  · rw [if_neg h]
    simp [h]
def atFit (live : List Bool) (l : List Bucket) (n : Int) : List Core := (atF Bucket.fWeight (l.filter (fitB live)) n).map coreB
theorem atFit_skip (live : List Bool) (l : List Bucket) (k : Nat) (n : Int) (hk : k < l.length) (h : fitB live l[k] = false) : atFit live (l.drop k) n = atFit live (l.drop (k + 1)) n := by
  unfold atFit
  rw [List.drop_eq_getElem_cons hk, List.filter_cons, h]; simp
theorem atFit_hit (live : List Bool) (l : List Bucket) (k : Nat) (n : Int) (hk : k < l.length) (h : fitB live l[k] = true) (hn : n < l[k].fWeight) : atFit live (l.drop k) n = ((l.drop k).take 1).map coreB := by
  unfold atFit
  rw [List.drop_eq_getElem_cons hk, List.filter_cons, h]
  simp only [if_true, atF]
  rw [if_pos hn]; rfl
theorem atFit_miss (live : List Bool) (l : List Bucket) (k : Nat) (n : Int) (hk : k < l.length) (h : fitB live l[k] = true) (hn : ¬ n < l[k].fWeight) : atFit live (l.drop k) n = atFit live (l.drop (k + 1)) (n - l[k].fWeight) := by
  unfold atFit
  rw [List.drop_eq_getElem_cons hk, List.filter_cons, h]
  simp only [if_true, atF]
  rw [if_neg hn]
theorem choose_sel (l : List Bucket) (live : List Bool) (pick s : Int) (hs : s = sumFit live l) : chooseF 2 (l.map coreB) live pick = if s = 0 then [] else atFit live l ((pick.tmod s + s) % s) := by
  simp only [chooseF, show ¬ ((2 : Int) = 1 ∨ (2 : Int) = 3) by omega, if_false, if_true]
  rw [fitB_core, ← pickedF_map]
  subst hs
  unfold pickedF
  show List.map coreB (if sumFit live l = 0 then [] else _) = _
  split
  · rfl
  · rfl
/-- n, brought into the range. -/
theorem n_range (pick s : Int) (hs : 0 < s) : (pick.tmod s + s) % s = if pick.tmod s < 0 then pick.tmod s + s else pick.tmod s := by
  have hq1 : -s < pick.tmod s := by have := Int.lt_tmod_of_pos pick hs; omega
  have hq2 : pick.tmod s < s := Int.tmod_lt_of_pos _ hs
  generalize pick.tmod s = q at *
  split
  · exact Int.emod_eq_of_lt (by omega) (by omega)
  · rw [Int.add_emod_right]
    exact Int.emod_eq_of_lt (by omega) hq2

set_option maxRecDepth 100000 in
set_option maxHeartbeats 8000000 in
theorem rChoose_any (w : World) (g : Group) (lv : Value) (live : List Bool) (pick : Int) (h : okGroup w g) (hf : fewF g = true) (hl : ReadL w 1 encBo lv live) (hw : ∀ b ∈ g.fBuckets, b.fWeight ≤ 1099511627776) :
    Calls Try.prog 11 #[valGroup g, lv, .int .i64 pick] w (Chosen w w.heap.size g.fKind g.fBuckets live pick) := by
  obtain ⟨gi, gk, gv, bs⟩ := g
  have hfew := ((fewF_iff _).1 hf).1
  obtain ⟨_, _, ⟨hR, hB⟩, _⟩ := h
  simp only at *
  show Calls _ _ _ _ (ChosenT w w.heap.size (chooseF gk (bs.map coreB) live pick))
  have HT2 : Hid (gk = 2 → ∀ s, s = sumFit live bs → chooseF gk (bs.map coreB) live pick = if s = 0 then [] else atFit live bs ((pick.tmod s + s) % s)) := Lib.hid (by rintro rfl s hs; exact choose_sel bs live pick s hs)
  have HT1 : Hid (gk = 1 ∨ gk = 3 → chooseF gk (bs.map coreB) live pick = bs.map coreB) := Lib.hid (fun h => by simp [chooseF, h])
  have HTo : Hid (gk ≠ 1 → gk ≠ 3 → gk ≠ 2 → gk ≠ 4 → chooseF gk (bs.map coreB) live pick = []) := Lib.hid (fun a b c d => by simp [chooseF, a, b, c, d])
  have HT4 : Hid (gk = 4 → ∀ k (hk : k < bs.length), aliveF bs[k].fWatch live = true → (∀ j (hj : j < bs.length), j < k → aliveF bs[j].fWatch live = false) → chooseF gk (bs.map coreB) live pick = ((bs.drop k).take 1).map coreB) :=
    Lib.hid (by rintro rfl k hk h1 h2; rw [first_hit bs live k hk h1 h2]; simp [chooseF])
  have HT5 : Hid (gk = 4 → (∀ j (hj : j < bs.length), aliveF bs[j].fWatch live = false) → chooseF gk (bs.map coreB) live pick = []) :=
    Lib.hid (by rintro rfl h1; rw [← first_none bs live h1]; simp [chooseF])
  generalize chooseF gk (bs.map coreB) live pick = T at *
  have HRd := Lib.hid hR
  have HOk := Lib.hid hB
  have HW := Lib.hid hw
  have HL : Hid (∀ (W : World) (x : Bucket), Below w.heap.size w W → oneB x → Calls Try.prog 34 #[.agg #[.int .i64 x.fWatch, .int .i64 x.fWeight, x.vActions], lv] W fun e w' => e = .returned (.bool (aliveF x.fWatch live)) ∧ Below W.heap.size W w') :=
    Lib.hid (fun W x hb hx => ralive_any W _ _ _ lv live (hx _ (by simp [encBucket])) (hl.below hb (Nat.le_refl _)))
  obtain ⟨a, cap, hgv, hcap, hmax, hc⟩ := hR
  subst hgv
  unfold maxLen at hmax
  have HC := Lib.hid hc
  clear hc hB hw hl hf
  go_enter Try.func11, Try.ntmps11
  go_upto_region 1 with fail
  refine one_box_wp ?_
  intro W hb1 hbel hsz
  have K : Hid (KR w.heap.size w [(w.heap.size, 24, #[.int .i64 gi, .int .i64 gk, .slice a bs.length cap])] W) := Lib.hid ((KR.start hbel hbel.size).add hb1)
  clear hb1 hbel hsz
  by_cases k13 : gk = 1 ∨ gk = 3
  · have c1 := (K.out.at 0 rfl).cell 1 _ rfl
    have c2 := (K.out.at 0 rfl).cell 2 _ rfl
    have HE := Lib.hid (HT1.out k13)
    rcases k13 with rfl | rfl
    · go_wp2_with fail
      go_ret
      exact ⟨_, bs, rfl, HRd.out.below K.out.below (Nat.le_refl _), fun x hx => okBucket_below (HOk.out x hx) K.out.below (Nat.le_refl _), HE.out.symm, K.out.below⟩
    · go_wp2_with fail
      go_ret
      exact ⟨_, bs, rfl, HRd.out.below K.out.below (Nat.le_refl _), fun x hx => okBucket_below (HOk.out x hx) K.out.below (Nat.le_refl _), HE.out.symm, K.out.below⟩
  have k1 : gk ≠ 1 := fun h => k13 (.inl h)
  have k3 : gk ≠ 3 := fun h => k13 (.inr h)
  have t1 : (gk == 1) = false := by simpa using k1
  have t3 : (gk == 3) = false := by simpa using k3
  have c1 := (K.out.at 0 rfl).cell 1 _ rfl
  clear k13 HT1
  go_wp2_with fail
  clear c1
  go_loopw [7, 8] (fun sv iv wr => ∃ k : Nat, k ≤ bs.length ∧ iv = .int .i64 k ∧ (∃ s : Int, sv = .int .i64 s ∧ Hid (s = sumFit live (bs.take k)) ∧ 0 ≤ s ∧ s ≤ k * 1099511627776) ∧ Hid (KR w.heap.size w [(w.heap.size, 24, #[.int .i64 gi, .int .i64 gk, .slice a bs.length cap])] wr) ∧ Hid (gk = 4 → ∀ j (hj : j < bs.length), j < k → aliveF bs[j].fWatch live = false)) (fun _ iv _ => bs.length - (intOf iv).toNat)
  case atStart => exact ⟨0, Nat.zero_le _, rfl, ⟨0, rfl, Lib.hid rfl, by omega, by omega⟩, K, Lib.hid (fun _ j hj hk => absurd hk (Nat.not_lt_zero _))⟩
  case round =>
    obtain ⟨k, hk, rfl, ⟨s, rfl, HSm, hs0, hs1⟩, K, HQ⟩ := hrel
    have c2 := (K.out.at 0 rfl).cell 2 _ rfl
    by_cases hlt : k < bs.length
    · have d2 : decide (k < bs.length) = true := by simpa using hlt
      rcases HC.out with hnil | ⟨b, off, rfl, hblt, hcell⟩
      · rw [hnil] at hlt; simp at hlt
      have r1 := range_of hcell K.out.below hblt k hlt
      have hx1 : oneB bs[k] := encBucket_ok (HOk.out _ (List.getElem_mem hlt))
      have hw1 := HW.out _ (List.getElem_mem hlt)
      have HSn := Lib.hid (sumFit_snoc live bs k hlt)
      have HH4 := Lib.hid (fun (h4 : gk = 4) h => HT4.out h4 k hlt h (HQ.out h4))
      have HQ2 : Hid (aliveF bs[k].fWatch live = false → gk = 4 → ∀ j (hj : j < bs.length), j < k + 1 → aliveF bs[j].fWatch live = false) := Lib.hid (fun h h4 j hj hjk => if e : j = k then (by subst e; exact h) else HQ.out h4 j hj (by omega))
      have HFit : Hid (fitB live bs[k] = (aliveF bs[k].fWatch live && decide (0 < bs[k].fWeight))) := Lib.hid rfl
      have hk20 : (k : Int) ≤ 20 := by omega
      clear hcell HC HQ HW HT2 HTo HT4 HT5
      generalize bs[k] = x at *
      generalize fitB live x = F at *
      have hx2 : ∀ v ∈ #[Value.int .i64 x.fWatch, Value.int .i64 x.fWeight, x.vActions].toList, v.oneCell' = true := by simpa [encBucket, oneB] using hx1
      have HAl := Lib.hid (fun W hb => HL.out W x hb hx1)
      simp only [encBucket] at r1
      generalize aliveF x.fWatch live = R at *
      clear HL hx1
      go_wp2_with (first
        | (refine wpList_load_mid rfl 30 _ rfl _ _ rfl _ _ r1 Try.underlying30 rfl (by kernel_rfl) ?_)
        | (refine wpList_store_row rfl 30 _ _ rfl _ rfl #[.int .i64 x.fWatch, .int .i64 x.fWeight, x.vActions] rfl _ _ ((K.out.box _ _).at 0 rfl) rfl (by kernel_rfl) hx2 ?_)
        | fail)
      intro Wi hbi hbari
      replace K := Lib.hid (K.out.into hbari hbi)
      clear hbi hbari r1 hx2 c2
      generalize wr.heap.size = g1 at *
      by_cases k4 : gk = 4
      · have t4 : (gk == 4) = true := by simpa using k4
        have K4 := Lib.hid k4
        clear k4
        have c1 := (K.out.at 1 rfl).cell 1 _ rfl
        go_wp2_with (first
          | (refine wpList_row 30 _ rfl (by rfl) _ _ rfl _ (run_loadVar_row _ _ _ 30 _ (0, 0) _ (K.out.at 0 rfl) Try.underlying30 rfl (by kernel_rfl)) ?_)
          | fail)
        refine (HAl.out _ K.out.below).mono ?_
        rintro e w2 ⟨rfl, hb2⟩
        replace K := Lib.hid (K.out.call hb2)
        clear hb2 c1
        cases R with
        | true =>
          have HE := Lib.hid (HH4.out K4.out (by trivial))
          have c2 := (K.out.at 1 rfl).cell 2 _ rfl
          have hk1 : ((k : Int) + 1) ≤ bs.length := by omega
          have hk2 : ((k : Int) + 1) ≤ cap := by omega
          have hk3 : (0 : Int) ≤ (k : Int) := by omega
          have HPart := Lib.hid (HRd.out.part k 1 (by omega) (by omega) (some ⟨b, off + k * 3, none⟩) rfl)
          clear HAl HQ2 HH4
          go_wp2_with fail
          go_ret
          exact ⟨_, (bs.drop k).take 1, rfl, HPart.out.below K.out.below (Nat.le_refl _), fun x hx => okBucket_below (HOk.out x (List.mem_of_mem_drop (List.mem_of_mem_take hx))) K.out.below (Nat.le_refl _), HE.out.symm, K.out.below⟩
        | false =>
          have hF : F = false := by rw [HFit.out]; rfl
          subst hF
          have HSn2 := Lib.hid (HSn.out)
          go_wp2_with (first
            | (refine wpList_load_row rfl 30 _ rfl _ rfl _ _ _ _ (K.out.at 0 rfl) Try.underlying30 rfl (by kernel_rfl) ?_)
            | fail)
          refine (HAl.out _ K.out.below).mono ?_
          rintro e w3 ⟨rfl, hb3⟩
          replace K := Lib.hid (K.out.call hb3)
          clear hb3
          have hs2 : s ≤ ((k + 1 : Nat) : Int) * 1099511627776 := by rw [Int.natCast_add]; omega
          have HS2 : Hid (s = sumFit live (bs.take (k + 1))) := Lib.hid (by rw [HSn2.out, HSm.out]; rfl)
          have HQ3 := Lib.hid (HQ2.out (by trivial))
          clear HAl HQ2 HH4 HSn HSn2 HFit
          go_wp2_with fail
          go_roundw
          case rel => exact ⟨k + 1, by omega, by go_num, ⟨s, rfl, HS2, by omega, hs2⟩, Lib.hid (K.out.sub (by simp)), HQ3⟩
          case measure => simp [intOf]; omega
      · have t4 : (gk == 4) = false := by simpa using k4
        have c1 := (K.out.at 1 rfl).cell 1 _ rfl
        have HQ3 : Hid (gk = 4 → ∀ j (hj : j < bs.length), j < k + 1 → aliveF bs[j].fWatch live = false) := Lib.hid (fun h => absurd h k4)
        go_wp2_with (first
          | (refine wpList_load_row rfl 30 _ rfl _ rfl _ _ _ _ (K.out.at 0 rfl) Try.underlying30 rfl (by kernel_rfl) ?_)
          | fail)
        refine (HAl.out _ K.out.below).mono ?_
        rintro e w2 ⟨rfl, hb2⟩
        replace K := Lib.hid (K.out.call hb2)
        clear hb2 c1 HAl HQ2 HH4
        cases R with
        | false =>
          have hF : F = false := by rw [HFit.out]; rfl
          subst hF
          have hs2 : s ≤ ((k + 1 : Nat) : Int) * 1099511627776 := by rw [Int.natCast_add]; omega
          have HS2 : Hid (s = sumFit live (bs.take (k + 1))) := Lib.hid (by rw [HSn.out, HSm.out]; rfl)
          clear HSn HFit
          go_wp2_with fail
          go_roundw
          case rel => exact ⟨k + 1, by omega, by go_num, ⟨s, rfl, HS2, by omega, hs2⟩, Lib.hid (K.out.sub (by simp)), HQ3⟩
          case measure => simp [intOf]; omega
        | true =>
          have c1 := (K.out.at 0 rfl).cell 1 _ rfl
          by_cases hp : 0 < x.fWeight
          · have t5 : decide (0 < x.fWeight) = true := decide_eq_true hp
            have hF : F = true := by rw [HFit.out, t5]; rfl
            subst hF
            have hs2 : s + x.fWeight ≤ ((k + 1 : Nat) : Int) * 1099511627776 := by rw [Int.natCast_add]; omega
            have HS2 : Hid (s + x.fWeight = sumFit live (bs.take (k + 1))) := Lib.hid (by rw [HSn.out, HSm.out]; rfl)
            clear HSn HFit
            go_wp2_with fail
            go_roundw
            case rel => exact ⟨k + 1, by omega, by go_num, ⟨s + x.fWeight, rfl, HS2, by omega, hs2⟩, Lib.hid (K.out.sub (by simp)), HQ3⟩
            case measure => simp [intOf]; omega
          · have t5 : decide (0 < x.fWeight) = false := decide_eq_false hp
            have hF : F = false := by rw [HFit.out, t5]; rfl
            subst hF
            have hs2 : s ≤ ((k + 1 : Nat) : Int) * 1099511627776 := by rw [Int.natCast_add]; omega
            have HS2 : Hid (s = sumFit live (bs.take (k + 1))) := Lib.hid (by rw [HSn.out, HSm.out]; rfl)
            clear HSn HFit
            go_wp2_with fail
            go_roundw
            case rel => exact ⟨k + 1, by omega, by go_num, ⟨s, rfl, HS2, by omega, hs2⟩, Lib.hid (K.out.sub (by simp)), HQ3⟩
            case measure => simp [intOf]; omega
    · have d2 : decide (k < bs.length) = false := by simpa using hlt
      obtain rfl : k = bs.length := by omega
      rw [List.take_of_length_le (Nat.le_refl _)] at HSm
      have c1 := (K.out.at 0 rfl).cell 1 _ rfl
      by_cases k2 : gk = 2
      · have t2 : (gk != 2) = false := by simp [k2]
        have HE := Lib.hid (HT2.out k2 s HSm.out)
        clear k2
        by_cases hz : s = 0
        · have b0 : (s == 0) = true := by simpa using hz
          have HE2 : Hid (T = []) := Lib.hid (by rw [HE.out, if_pos hz])
          clear HE HT2 HTo HT4 HT5 HQ HSm
          go_wp2_with fail
          go_ret
          exact ⟨_, [], rfl, ReadL.nil _ _ _, by simp, HE2.out.symm, K.out.below⟩
        · have b0 : (s == 0) = false := by simpa using hz
          have HE2 : Hid (T = atFit live bs (if pick.tmod s < 0 then pick.tmod s + s else pick.tmod s)) := Lib.hid (by rw [HE.out, if_neg hz, n_range pick s (by omega)])
          have hq1 : -s < pick.tmod s := by have := Int.lt_tmod_of_pos pick (show 0 < s by omega); omega
          have hq2 : pick.tmod s < s := Int.tmod_lt_of_pos _ (by omega)
          have hs2 : s ≤ 21990232555520 := by omega
          clear HE HT2 HTo HT4 HT5 HQ HSm
          clear c1
          have HCh : Hid (T = atFit live bs (if pick.tmod s < 0 then pick.tmod s + s else pick.tmod s)) := HE2
          clear HE2
          have hgo : ∀ n0 : Int, 0 ≤ n0 → n0 < s → T = atFit live (bs.drop 0) n0 → Hid (∃ n, n0 = n ∧ Hid (T = atFit live (bs.drop 0) n) ∧ 0 ≤ n ∧ n < 21990232555520) := fun n0 a b c => Lib.hid ⟨n0, rfl, Lib.hid c, a, by omega⟩
          have hg1 : pick.tmod s < 0 → Hid (∃ n, pick.tmod s + s = n ∧ Hid (T = atFit live (bs.drop 0) n) ∧ 0 ≤ n ∧ n < 21990232555520) := fun h => hgo _ (by omega) (by omega) (by rw [HCh.out, if_pos h]; rfl)
          have hg2 : ¬ pick.tmod s < 0 → Hid (∃ n, pick.tmod s = n ∧ Hid (T = atFit live (bs.drop 0) n) ∧ 0 ≤ n ∧ n < 21990232555520) := fun h => hgo _ (by omega) (by omega) (by rw [HCh.out, if_neg h]; rfl)
          have HG1 := Lib.hid hg1
          have HG2 := Lib.hid hg2
          clear hgo hg1 hg2 HCh
          have c1 := (K.out.at 0 rfl).cell 1 _ rfl
          by_cases hneg : pick.tmod s < 0
          · have t5 : decide (pick.tmod s < 0) = true := decide_eq_true hneg
            have HG := Lib.hid (HG1.out hneg).out
            clear HG1 HG2
            go_wp2_with fail
            clear c1
            generalize pick.tmod s + s = n0 at *
            go_loopw [10, 11] (fun nv iv wr => ∃ k : Nat, k ≤ bs.length ∧ iv = .int .i64 k ∧ (∃ n : Int, nv = .int .i64 n ∧ Hid (T = atFit live (bs.drop k) n) ∧ 0 ≤ n ∧ n < 21990232555520) ∧ Hid (KR w.heap.size w [(w.heap.size, 24, #[.int .i64 gi, .int .i64 gk, .slice a bs.length cap])] wr)) (fun _ iv _ => bs.length - (intOf iv).toNat)
            case atStart =>
              obtain ⟨n, rfl, q1, q2, q3⟩ := HG.out
              exact ⟨0, Nat.zero_le _, rfl, ⟨_, rfl, q1, q2, q3⟩, K⟩
            case round =>
              obtain ⟨k, hk, rfl, ⟨n, rfl, HP, hn0, hn1⟩, K⟩ := hrel
              have c2 := (K.out.at 0 rfl).cell 2 _ rfl
              by_cases hlt : k < bs.length
              · have d2 : decide (k < bs.length) = true := by simpa using hlt
                rcases HC.out with hnil | ⟨b, off, rfl, hblt, hcell⟩
                · rw [hnil] at hlt; simp at hlt
                have r1 := range_of hcell K.out.below hblt k hlt
                have hx1 : oneB bs[k] := encBucket_ok (HOk.out _ (List.getElem_mem hlt))
                have HSk := Lib.hid (fun h => HP.out.trans (atFit_skip live bs k n hlt h))
                have HHi := Lib.hid (fun h h' => HP.out.trans (atFit_hit live bs k n hlt h h'))
                have HMi := Lib.hid (fun h h' => HP.out.trans (atFit_miss live bs k n hlt h h'))
                have HFit : Hid (fitB live bs[k] = (aliveF bs[k].fWatch live && decide (0 < bs[k].fWeight))) := Lib.hid rfl
                clear hcell HC HW HP HG
                generalize bs[k] = x at *
                generalize fitB live x = F at *
                have hx2 : ∀ v ∈ #[Value.int .i64 x.fWatch, Value.int .i64 x.fWeight, x.vActions].toList, v.oneCell' = true := by simpa [encBucket, oneB] using hx1
                have HAl := Lib.hid (fun W hb => HL.out W x hb hx1)
                simp only [encBucket] at r1
                generalize aliveF x.fWatch live = R at *
                clear HL hx1
                go_wp2_with (first
                  | (refine wpList_load_mid rfl 30 _ rfl _ _ rfl _ _ r1 Try.underlying30 rfl (by kernel_rfl) ?_)
                  | (refine wpList_store_row rfl 30 _ _ rfl _ rfl #[.int .i64 x.fWatch, .int .i64 x.fWeight, x.vActions] rfl _ _ ((K.out.box _ _).at 0 rfl) rfl (by kernel_rfl) hx2 ?_)
                  | fail)
                intro Wi hbi hbari
                replace K := Lib.hid (K.out.into hbari hbi)
                clear hbi hbari r1 hx2 c2
                generalize wr.heap.size = g1 at *
                go_wp2_with (first
                  | (refine wpList_load_row rfl 30 _ rfl _ rfl _ _ _ _ (K.out.at 0 rfl) Try.underlying30 rfl (by kernel_rfl) ?_)
                  | fail)
                refine (HAl.out _ K.out.below).mono ?_
                rintro e w2 ⟨rfl, hb2⟩
                replace K := Lib.hid (K.out.call hb2)
                clear hb2 HAl
                have cx := (K.out.at 0 rfl).cell 1 _ rfl
                cases R with
                | false =>
                  have hF : F = false := by rw [HFit.out]; rfl
                  have HS2 := Lib.hid (HSk.out hF)
                  clear HFit HSk HHi HMi
                  go_wp2_with fail
                  go_roundw
                  case rel => exact ⟨k + 1, by omega, by go_num, ⟨n, rfl, HS2, by omega, by omega⟩, Lib.hid (K.out.sub (by simp))⟩
                  case measure => simp [intOf]; omega
                | true =>
                  by_cases hp : 0 < x.fWeight
                  · have t6 : decide (x.fWeight ≤ 0) = false := decide_eq_false (by omega)
                    have hF : F = true := by rw [HFit.out, decide_eq_true hp]; rfl
                    by_cases hn : n < x.fWeight
                    · have t7 : decide (n < x.fWeight) = true := decide_eq_true hn
                      have HE := Lib.hid (HHi.out hF hn)
                      have c2 := (K.out.at 1 rfl).cell 2 _ rfl
                      have hk1 : ((k : Int) + 1) ≤ bs.length := by omega
                      have hk2 : ((k : Int) + 1) ≤ cap := by omega
                      have hk3 : (0 : Int) ≤ (k : Int) := by omega
                      have HPart := Lib.hid (HRd.out.part k 1 (by omega) (by omega) (some ⟨b, off + k * 3, none⟩) rfl)
                      clear HFit HSk HHi HMi
                      go_wp2_with fail
                      go_ret
                      exact ⟨_, (bs.drop k).take 1, rfl, HPart.out.below K.out.below (Nat.le_refl _), fun x hx => okBucket_below (HOk.out x (List.mem_of_mem_drop (List.mem_of_mem_take hx))) K.out.below (Nat.le_refl _), HE.out.symm, K.out.below⟩
                    · have t7 : decide (n < x.fWeight) = false := decide_eq_false hn
                      have HE := Lib.hid (HMi.out hF (by omega))
                      clear HFit HSk HHi HMi
                      go_wp2_with fail
                      go_roundw
                      case rel => exact ⟨k + 1, by omega, by go_num, ⟨n - x.fWeight, rfl, HE, by omega, by omega⟩, Lib.hid (K.out.sub (by simp))⟩
                      case measure => simp [intOf]; omega
                  · have t6 : decide (x.fWeight ≤ 0) = true := decide_eq_true (by omega)
                    have hF : F = false := by rw [HFit.out, decide_eq_false hp]; rfl
                    have HS2 := Lib.hid (HSk.out hF)
                    clear HFit HSk HHi HMi
                    go_wp2_with fail
                    go_roundw
                    case rel => exact ⟨k + 1, by omega, by go_num, ⟨n, rfl, HS2, by omega, by omega⟩, Lib.hid (K.out.sub (by simp))⟩
                    case measure => simp [intOf]; omega
              · have d2 : decide (k < bs.length) = false := by simpa using hlt
                have HE : Hid (T = []) := Lib.hid (by rw [HP.out, List.drop_of_length_le (by omega)]; rfl)
                clear HP HG
                go_wp2_with fail
                go_ret
                exact ⟨_, [], rfl, ReadL.nil _ _ _, by simp, HE.out.symm, K.out.below⟩
          · have t5 : decide (pick.tmod s < 0) = false := decide_eq_false hneg
            have HG := Lib.hid (HG2.out hneg).out
            clear HG1 HG2
            go_wp2_with fail
            clear c1
            generalize pick.tmod s = n0 at *
            go_loopw [10, 11] (fun nv iv wr => ∃ k : Nat, k ≤ bs.length ∧ iv = .int .i64 k ∧ (∃ n : Int, nv = .int .i64 n ∧ Hid (T = atFit live (bs.drop k) n) ∧ 0 ≤ n ∧ n < 21990232555520) ∧ Hid (KR w.heap.size w [(w.heap.size, 24, #[.int .i64 gi, .int .i64 gk, .slice a bs.length cap])] wr)) (fun _ iv _ => bs.length - (intOf iv).toNat)
            case atStart =>
              obtain ⟨n, rfl, q1, q2, q3⟩ := HG.out
              exact ⟨0, Nat.zero_le _, rfl, ⟨_, rfl, q1, q2, q3⟩, K⟩
            case round =>
              obtain ⟨k, hk, rfl, ⟨n, rfl, HP, hn0, hn1⟩, K⟩ := hrel
              have c2 := (K.out.at 0 rfl).cell 2 _ rfl
              by_cases hlt : k < bs.length
              · have d2 : decide (k < bs.length) = true := by simpa using hlt
                rcases HC.out with hnil | ⟨b, off, rfl, hblt, hcell⟩
                · rw [hnil] at hlt; simp at hlt
                have r1 := range_of hcell K.out.below hblt k hlt
                have hx1 : oneB bs[k] := encBucket_ok (HOk.out _ (List.getElem_mem hlt))
                have HSk := Lib.hid (fun h => HP.out.trans (atFit_skip live bs k n hlt h))
                have HHi := Lib.hid (fun h h' => HP.out.trans (atFit_hit live bs k n hlt h h'))
                have HMi := Lib.hid (fun h h' => HP.out.trans (atFit_miss live bs k n hlt h h'))
                have HFit : Hid (fitB live bs[k] = (aliveF bs[k].fWatch live && decide (0 < bs[k].fWeight))) := Lib.hid rfl
                clear hcell HC HW HP HG
                generalize bs[k] = x at *
                generalize fitB live x = F at *
                have hx2 : ∀ v ∈ #[Value.int .i64 x.fWatch, Value.int .i64 x.fWeight, x.vActions].toList, v.oneCell' = true := by simpa [encBucket, oneB] using hx1
                have HAl := Lib.hid (fun W hb => HL.out W x hb hx1)
                simp only [encBucket] at r1
                generalize aliveF x.fWatch live = R at *
                clear HL hx1
                go_wp2_with (first
                  | (refine wpList_load_mid rfl 30 _ rfl _ _ rfl _ _ r1 Try.underlying30 rfl (by kernel_rfl) ?_)
                  | (refine wpList_store_row rfl 30 _ _ rfl _ rfl #[.int .i64 x.fWatch, .int .i64 x.fWeight, x.vActions] rfl _ _ ((K.out.box _ _).at 0 rfl) rfl (by kernel_rfl) hx2 ?_)
                  | fail)
                intro Wi hbi hbari
                replace K := Lib.hid (K.out.into hbari hbi)
                clear hbi hbari r1 hx2 c2
                generalize wr.heap.size = g1 at *
                go_wp2_with (first
                  | (refine wpList_load_row rfl 30 _ rfl _ rfl _ _ _ _ (K.out.at 0 rfl) Try.underlying30 rfl (by kernel_rfl) ?_)
                  | fail)
                refine (HAl.out _ K.out.below).mono ?_
                rintro e w2 ⟨rfl, hb2⟩
                replace K := Lib.hid (K.out.call hb2)
                clear hb2 HAl
                have cx := (K.out.at 0 rfl).cell 1 _ rfl
                cases R with
                | false =>
                  have hF : F = false := by rw [HFit.out]; rfl
                  have HS2 := Lib.hid (HSk.out hF)
                  clear HFit HSk HHi HMi
                  go_wp2_with fail
                  go_roundw
                  case rel => exact ⟨k + 1, by omega, by go_num, ⟨n, rfl, HS2, by omega, by omega⟩, Lib.hid (K.out.sub (by simp))⟩
                  case measure => simp [intOf]; omega
                | true =>
                  by_cases hp : 0 < x.fWeight
                  · have t6 : decide (x.fWeight ≤ 0) = false := decide_eq_false (by omega)
                    have hF : F = true := by rw [HFit.out, decide_eq_true hp]; rfl
                    by_cases hn : n < x.fWeight
                    · have t7 : decide (n < x.fWeight) = true := decide_eq_true hn
                      have HE := Lib.hid (HHi.out hF hn)
                      have c2 := (K.out.at 1 rfl).cell 2 _ rfl
                      have hk1 : ((k : Int) + 1) ≤ bs.length := by omega
                      have hk2 : ((k : Int) + 1) ≤ cap := by omega
                      have hk3 : (0 : Int) ≤ (k : Int) := by omega
                      have HPart := Lib.hid (HRd.out.part k 1 (by omega) (by omega) (some ⟨b, off + k * 3, none⟩) rfl)
                      clear HFit HSk HHi HMi
                      go_wp2_with fail
                      go_ret
                      exact ⟨_, (bs.drop k).take 1, rfl, HPart.out.below K.out.below (Nat.le_refl _), fun x hx => okBucket_below (HOk.out x (List.mem_of_mem_drop (List.mem_of_mem_take hx))) K.out.below (Nat.le_refl _), HE.out.symm, K.out.below⟩
                    · have t7 : decide (n < x.fWeight) = false := decide_eq_false hn
                      have HE := Lib.hid (HMi.out hF (by omega))
                      clear HFit HSk HHi HMi
                      go_wp2_with fail
                      go_roundw
                      case rel => exact ⟨k + 1, by omega, by go_num, ⟨n - x.fWeight, rfl, HE, by omega, by omega⟩, Lib.hid (K.out.sub (by simp))⟩
                      case measure => simp [intOf]; omega
                  · have t6 : decide (x.fWeight ≤ 0) = true := decide_eq_true (by omega)
                    have hF : F = false := by rw [HFit.out, decide_eq_false hp]; rfl
                    have HS2 := Lib.hid (HSk.out hF)
                    clear HFit HSk HHi HMi
                    go_wp2_with fail
                    go_roundw
                    case rel => exact ⟨k + 1, by omega, by go_num, ⟨n, rfl, HS2, by omega, by omega⟩, Lib.hid (K.out.sub (by simp))⟩
                    case measure => simp [intOf]; omega
              · have d2 : decide (k < bs.length) = false := by simpa using hlt
                have HE : Hid (T = []) := Lib.hid (by rw [HP.out, List.drop_of_length_le (by omega)]; rfl)
                clear HP HG
                go_wp2_with fail
                go_ret
                exact ⟨_, [], rfl, ReadL.nil _ _ _, by simp, HE.out.symm, K.out.below⟩
      · have t2 : (gk != 2) = true := by simpa using k2
        have HE2 : Hid (T = []) := Lib.hid (by
          by_cases k4 : gk = 4
          · exact HT5.out k4 (fun j hj => HQ.out k4 j hj hj)
          · exact HTo.out k1 k3 k2 k4)
        clear HT2 HTo HT4 HT5 HQ HSm
        go_wp2_with fail
        go_ret
        exact ⟨_, [], rfl, ReadL.nil _ _ _, by simp, HE2.out.symm, K.out.below⟩
end Go.Proofs.Ytfjngecgfmlnfaa
