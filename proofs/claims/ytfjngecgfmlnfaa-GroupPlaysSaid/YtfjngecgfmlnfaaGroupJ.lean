/- Choose: the buckets that a packet goes through. -/
import Derived.Test.YtfjngecgfmlnfaaGroupI
namespace Go.Proofs.Ytfjngecgfmlnfaa
open Go.RowKit
set_option linter.unusedVariables false
set_option linter.unusedSimpArgs false

abbrev Core := Int × Int × List Action
def fitF (live : List Bool) (c : Core) : Bool := aliveF c.1 live && decide (0 < c.2.1)
def firstF (live : List Bool) (l : List Core) : List Core := match l.find? (fun c => aliveF c.1 live) with
  | some c => [c]
  | none => []
def chooseF (kind : Int) (l : List Core) (live : List Bool) (pick : Int) : List Core :=
  if kind = 1 ∨ kind = 3 then l else if kind = 2 then pickedF (fun c : Core => c.2.1) (l.filter (fitF live)) pick else if kind = 4 then firstF live l else []
theorem atF_map (l : List Bucket) (n : Int) : (atF Bucket.fWeight l n).map coreB = atF (fun c : Core => c.2.1) (l.map coreB) n := by
  induction l generalizing n with
  | nil => rfl
  | cons x r ih =>
    simp only [List.map_cons, atF]
    by_cases h : n < x.fWeight
    · rw [if_pos h, if_pos (show n < (coreB x).2.1 from h)]; rfl
    · rw [if_neg h, if_neg (show ¬ n < (coreB x).2.1 from h)]
      exact ih _
theorem pickedF_map (l : List Bucket) (pick : Int) : (pickedF Bucket.fWeight l pick).map coreB = pickedF (fun c : Core => c.2.1) (l.map coreB) pick := by
  have hs : sumW Bucket.fWeight l = sumW (fun c : Core => c.2.1) (l.map coreB) := by
    unfold sumW; rw [List.map_map]; rfl
  unfold pickedF
  rw [← hs]
  split
  · rfl
  · exact atF_map _ _
theorem filter_core (l : List Bucket) (live : List Bool) : (l.filter fun x => !deadF live x).map coreB = (l.map coreB).filter (fitF live) := by
  rw [List.filter_map]
  congr 1
  refine List.filter_congr fun x _ => ?_
  simp only [deadF, fitF, Function.comp, coreB, Bool.not_or, Bool.not_not]
  congr 1
  show (!decide (x.fWeight ≤ 0)) = decide (0 < x.fWeight)
  rw [Bool.eq_iff_iff]
  simp
theorem first_hit (l : List Bucket) (live : List Bool) (k : Nat) (hk : k < l.length) (h : aliveF l[k].fWatch live = true) (hb : ∀ j (hj : j < l.length), j < k → aliveF l[j].fWatch live = false) : ((l.drop k).take 1).map coreB = firstF live (l.map coreB) := by
  unfold firstF
  have : (l.map coreB).find? (fun c => aliveF c.1 live) = some (coreB l[k]) := by
    rw [List.find?_eq_some_iff_getElem]
    refine ⟨h, k, by simpa using hk, by simp, fun j hj => ?_⟩
    simp only [List.getElem_map, coreB]
    simp [hb j (by omega) hj]
  rw [this, List.drop_eq_getElem_cons hk]
  rfl
theorem first_none (l : List Bucket) (live : List Bool) (hb : ∀ j (hj : j < l.length), aliveF l[j].fWatch live = false) : firstF live (l.map coreB) = [] := by
  unfold firstF
  have : (l.map coreB).find? (fun c => aliveF c.1 live) = none := by
    rw [List.find?_eq_none]
    intro c hc
    obtain ⟨x, hx, rfl⟩ := List.mem_map.1 hc
    obtain ⟨j, hj, rfl⟩ := List.getElem_of_mem hx
    simp [coreB, hb j hj]
  rw [this]
/-- What Choose gives. -/
def Chosen (w : World) (n : Nat) (kind : Int) (l : List Bucket) (live : List Bool) (pick : Int) (e : Ending) (w' : World) : Prop :=
  ∃ v' l', e = .returned v' ∧ ReadL w' 3 encBucket v' l' ∧ (∀ x ∈ l', okBucket w' x) ∧ l'.map coreB = chooseF kind (l.map coreB) live pick ∧ Below n w w'
theorem okBucket_below {w w' : World} {B : Nat} {b : Bucket} (h : okBucket w b) (hb : Below B w w') (hB : w.heap.size ≤ B) : okBucket w' b := ⟨h.1, h.2.1, ⟨h.2.2.1.1.below hb hB, h.2.2.1.2⟩, trivial⟩

set_option maxRecDepth 100000 in
set_option maxHeartbeats 8000000 in
theorem Choose_any (w : World) (g : Group) (lv : Value) (live : List Bool) (pick : Int) (h : okGroup w g) (hf : fewF g = true) (hl : ReadL w 1 encBo lv live) (hw : ∀ b ∈ g.fBuckets, b.fWeight ≤ 1099511627776) :
    Calls Try.prog 10 #[valGroup g, lv, .int .i64 pick] w (Chosen w w.heap.size g.fKind g.fBuckets live pick) := by
  have HKept : Hid (∀ W : World, Below w.heap.size w W → _) := Lib.hid (fun W hb => kept_any W g ⟨h.1, h.2.1, ⟨h.2.2.1.1.below hb (Nat.le_refl _), fun y hy => okBucket_below (h.2.2.1.2 y hy) hb (Nat.le_refl _)⟩, trivial⟩ hf)
  have hfew := ((fewF_iff _).1 hf).1
  have HL : Hid (∀ W : World, Below w.heap.size w W → ReadL W 1 encBo lv live) := Lib.hid (fun W hb => hl.below hb (Nat.le_refl _))
  obtain ⟨la, lc, hlv, _, _⟩ := hl.slice
  subst hlv
  have HW := Lib.hid hw
  obtain ⟨gi, gk, gv, bs⟩ := g
  have hgv := h.2.2.1.1.one
  simp only at *
  clear h hf hl hw
  have eg1 : ∀ args w, (callFunc 30 args).run Try.prog w = .ok (.enter 30 args) w := enters_of Try.func30 (by kernel_rfl) rfl
  have eg2 : ∀ args w, (callFunc 33 args).run Try.prog w = .ok (.enter 33 args) w := enters_of Try.func33 (by kernel_rfl) rfl
  have EG1 := Lib.hid eg1
  have EG2 := Lib.hid eg2
  clear eg1 eg2
  go_enter Try.func10, Try.ntmps10
  go_upto_region 1 with fail
  refine two_boxes_wp ?_
  intro W hb1 hb2 hbel hsz
  have K : Hid (KR w.heap.size w [(w.heap.size + 1, 25, #[.slice la live.length lc]), (w.heap.size, 24, #[.int .i64 gi, .int .i64 gk, gv])] W) := Lib.hid (((KR.start hbel hbel.size).add hb1).add hb2)
  have HWs : Hid (w.heap.size + 2 ≤ W.heap.size) := Lib.hid (by rw [hsz.out]; omega)
  have HKp := Lib.hid (HKept.out W hbel)
  clear hb1 hb2 hbel hsz HKept
  go_wp2_with (first
    | (refine wpList_load_row rfl 24 _ rfl _ rfl _ _ _ _ (K.out.at 1 rfl) Try.underlying24 rfl (by kernel_rfl) ?_)
    | fail)
  refine HKp.out.mono ?_
  rintro e w1 ⟨v1, news, rfl, hnew, hcore, hb1⟩
  replace K := Lib.hid (K.out.call hb1)
  obtain ⟨va, vc, hv1, _, _⟩ := hnew.read.1.slice
  subst hv1
  have HN := Lib.hid hnew
  have HCo := Lib.hid hcore
  have HWn := Lib.hid (fun x (hx : x ∈ news) => (by
    have : coreB x ∈ news.map coreB := List.mem_map_of_mem hx
    rw [hcore] at this
    obtain ⟨b, hb, he⟩ := List.mem_map.1 this
    have h1 := HW.out b hb
    have h2 : b.fWeight = x.fWeight := congrArg (fun c : Core => c.2.1) he
    omega : x.fWeight ≤ 1099511627776))
  have hln : news.length ≤ 20 := by have := congrArg List.length hcore; simp at this; omega
  have c1 := (K.out.at 1 rfl).cell 1 _ rfl
  have hfl : ∀ w, (Instr.field 24 (.agg #[.int .i64 gi, .int .i64 gk, .slice va news.length vc]) 2).run Try.prog w = .ok (.slice va news.length vc) w := fun w => by kernel_rfl
  clear hnew hcore hb1 HKp HW
  by_cases k1 : gk = 1
  · subst k1
    go_wp2_with fail
    go_ret
    exact ⟨_, news, rfl, HN.out.read.1, HN.out.read.2, by rw [HCo.out]; simp [chooseF], K.out.below⟩
  by_cases k3 : gk = 3
  · subst k3
    go_wp2_with fail
    go_ret
    exact ⟨_, news, rfl, HN.out.read.1, HN.out.read.2, by rw [HCo.out]; simp [chooseF], K.out.below⟩
  have t1 : (gk == 1) = false := by simpa using k1
  have t3 : (gk == 3) = false := by simpa using k3
  by_cases k2 : gk = 2
  · subst k2
    have HD : Hid _ := Lib.hid (deleteFuncB w1 W.heap.size _ news 30 #[.pointer (some ⟨w.heap.size + 1, 0, none⟩)] (deadF live) (KR w.heap.size w [(w.heap.size + 1, 25, #[.slice la live.length lc])])
      (fun W x hC hx => choose1_any W x _ _ live hx (hC.at 0 rfl) (HL.out W hC.below)) (fun W W' hC hb => hC.call hb) (K.out.sub (by simp))
      (fun k W1 W2 hk hC hb => hC.barOut hb (by have := HWs.out; omega) (by simp; have := HWs.out; omega)) EG1.out HN.out)
    clear EG1 EG2
    go_wp2_with fail
    refine HD.out.mono ?_
    rintro e w2 ⟨v2, rfl, hn2, hk2⟩
    have HP := Lib.hid (picked_any w2 v2 (news.filter fun x => !deadF live x) pick hn2.read.1 (fun x hx => encBucket_ok (hn2.read.2 x hx)) (Nat.le_trans (List.length_filter_le _ _) hln) (fun x hx => by
      have hx' := List.mem_filter.1 hx
      refine ⟨?_, HWn.out x hx'.1⟩
      have := hx'.2
      simp only [deadF, Bool.not_or, Bool.not_not, Bool.and_eq_true, Bool.not_eq_true', decide_eq_false_iff_not] at this
      omega))
    have HN2 := Lib.hid hn2.read.2
    have HB2 := Lib.hid hk2.below
    have HB2s := Lib.hid hk2.size
    clear hn2 hk2 HD
    go_wp2_with fail
    refine HP.out.mono ?_
    rintro e w3 ⟨v3, rfl, hr3, hm3, hb3⟩
    have HR3 := Lib.hid hr3
    have HM3 := Lib.hid hm3
    have HB3 := Lib.hid hb3
    clear hr3 hm3 hb3
    go_wp2_with fail
    go_ret
    refine ⟨_, _, rfl, HR3.out, fun x hx => okBucket_below (HN2.out x (HM3.out x hx)) HB3.out (Nat.le_refl _), ?_, HB2.out.trans (HB3.out.mono HB2s.out)⟩
    rw [pickedF_map, filter_core, HCo.out]
    simp [chooseF]
  have t2 : (gk == 2) = false := by simpa using k2
  by_cases k4 : gk = 4
  · subst k4
    have HI : Hid _ := Lib.hid (indexFuncB w1 _ news 33 #[.pointer (some ⟨w.heap.size + 1, 0, none⟩)] (fun x => aliveF x.fWatch live) (KR w.heap.size w [(w.heap.size + 1, 25, #[.slice la live.length lc])]) oneB
      (fun W x hC hx => choose2_any W x _ _ live hx (hC.at 0 rfl) (HL.out W hC.below)) (fun W W' hC hb => hC.call hb) (K.out.sub (by simp)) EG2.out HN.out.read.1 (fun x hx => encBucket_ok (HN.out.read.2 x hx)))
    clear EG1 EG2
    by_cases hall : ∀ j (hj : j < news.length), aliveF news[j].fWatch live = false
    · rw [idxF_none (fun x : Bucket => aliveF x.fWatch live) news hall] at HI
      have HF := Lib.hid (first_none news live hall)
      clear hall
      go_wp2_with fail
      refine HI.out.mono ?_
      rintro e w2 ⟨rfl, hb2⟩
      have HB2 := Lib.hid (K.out.below.trans (hb2.mono K.out.size))
      clear hb2
      go_wp2_with fail
      go_ret
      refine ⟨_, [], rfl, ReadL.nil _ _ _, by simp, ?_, HB2.out⟩
      have := HF.out
      rw [HCo.out] at this
      simp [chooseF, this]
    · obtain ⟨k0, hk0, hpk, hbef⟩ : ∃ k0, ∃ hk0 : k0 < news.length, aliveF news[k0].fWatch live = true ∧ ∀ j (hj : j < news.length), j < k0 → aliveF news[j].fWatch live = false := by
        have hex : ∃ x ∈ news, aliveF x.fWatch live = true := by
          refine Classical.byContradiction fun hn => hall fun j hj => ?_
          cases hq : aliveF news[j].fWatch live
          · rfl
          · exact absurd ⟨_, List.getElem_mem hj, hq⟩ hn
        have hlt := List.findIdx_lt_length.2 hex
        refine ⟨news.findIdx _, hlt, List.findIdx_getElem (w := hlt), fun j hj hjk => ?_⟩
        simpa using List.not_of_lt_findIdx hjk
      rw [idxF_hit (fun x : Bucket => aliveF x.fWatch live) news k0 hk0 hpk hbef] at HI
      have HF := Lib.hid (first_hit news live k0 hk0 hpk hbef)
      have HRd := Lib.hid HN.out.read.1
      obtain ⟨va', vc', hv', hvc, hvm⟩ := HRd.out.slice
      obtain ⟨rfl, rfl⟩ : va = va' ∧ vc = vc' := by simpa using hv'
      unfold maxLen at hvm
      have hvb : ∃ b off, va = some ⟨b, off, none⟩ := by
        obtain ⟨b, off, cap, hv, _⟩ := HRd.out.cells (by omega)
        exact ⟨b, off, by simpa using (congrArg (fun v => match v with | .slice a _ _ => a | _ => none) hv)⟩
      obtain ⟨b, off, rfl⟩ := hvb
      have HPart := Lib.hid (HRd.out.part k0 1 (by omega) (by omega) (some ⟨b, off + k0 * 3, none⟩) rfl)
      have hk1 : ((k0 : Int) + 1) ≤ news.length := by omega
      have hk2 : ((k0 : Int) + 1) ≤ vc := by omega
      have hk3 : (0 : Int) ≤ (k0 : Int) := by omega
      clear hall hbef hpk hv'
      go_wp2_with fail
      refine HI.out.mono ?_
      rintro e w2 ⟨rfl, hb2⟩
      have HB1 := Lib.hid hb2
      have HB2 := Lib.hid (K.out.below.trans (hb2.mono K.out.size))
      clear hb2 HI
      go_wp2_with fail
      go_ret
      refine ⟨_, (news.drop k0).take 1, rfl, HPart.out.below HB1.out (Nat.le_refl _), fun x hx => okBucket_below (HN.out.read.2 x (List.mem_of_mem_drop (List.mem_of_mem_take hx))) HB1.out (Nat.le_refl _), ?_, HB2.out⟩
      have := HF.out
      rw [HCo.out] at this
      simp [chooseF, this]
  · have t4 : (gk == 4) = false := by simpa using k4
    go_wp2_with fail
    go_ret
    exact ⟨_, [], rfl, ReadL.nil _ _ _, by simp, by simp [chooseF, k1, k2, k3, k4], K.out.below⟩
end Go.Proofs.Ytfjngecgfmlnfaa
