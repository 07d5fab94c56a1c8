/- kept: a group of its own. -/
import Derived.Test.YtfjngecgfmlnfaaGroupD
import Derived.Test.YtfjngecgfmlnfaaReadX
namespace Go.Proofs.Ytfjngecgfmlnfaa
open Go.RowKit
set_option linter.unusedVariables false
set_option linter.unusedSimpArgs false

/-- A bucket whose actions lie in a block behind g. -/
def okX (w : World) (g : Nat) (x : Bucket) : Prop := (Lit.int .i64 x.fWatch).wf = true ∧ (Lit.int .i64 x.fWeight).wf = true ∧ ReadX w g 3 encAction x.vActions x.fActions ∧ ∀ y ∈ x.fActions, okAction w y
theorem okAction_any {w w' : World} {x : Action} (h : okAction w x) : okAction w' x := h
theorem okX.ok {w : World} {g : Nat} {x : Bucket} (h : okX w g x) : okBucket w x := ⟨h.1, h.2.1, ⟨h.2.2.1.read, h.2.2.2⟩, trivial⟩
theorem okX.bar {w w' : World} {g g' : Nat} {x : Bucket} (h : okX w g x) (hb : Bar g' w w') (hg : g' ≤ g) : okX w' g x := ⟨h.1, h.2.1, h.2.2.1.bar hb hg, h.2.2.2⟩
theorem okX.below {w w' : World} {g B : Nat} {x : Bucket} (h : okX w g x) (hb : Below B w w') (hB : w.heap.size ≤ B) : okX w' g x := ⟨h.1, h.2.1, h.2.2.1.below hb hB, h.2.2.2⟩
/-- A new row of buckets. -/
def NewB (w : World) (B : Nat) (v : Value) (news : List Bucket) : Prop := (v = .slice none 0 0 ∧ news = []) ∨
  ∃ k cap cur, v = .slice (some ⟨k, 0, none⟩) news.length cap ∧ B ≤ k ∧ BlkAt w k 30 cur ∧ news.length ≤ cap ∧ cap ≤ maxLen ∧ cur.size = cap * 3 ∧ RowOf 3 encBucket cur news ∧ ∀ b ∈ news, okX w k b
theorem NewB.call {w w' : World} {B : Nat} {v : Value} {l : List Bucket} (h : NewB w B v l) (hb : Below w.heap.size w w') : NewB w' B v l := by
  rcases h with h | ⟨k, cap, cur, h1, h2, h3, h4, h5, h6, h7, h8⟩
  · exact .inl h
  · exact .inr ⟨k, cap, cur, h1, h2, h3.below hb h3.lt, h4, h5, h6, h7, fun b hm => (h8 b hm).below hb (Nat.le_refl _)⟩
theorem NewB.bar {w w' : World} {B k0 : Nat} {v : Value} {l : List Bucket} (h : NewB w B v l) (hb : Bar k0 w w') (hne : ∀ k, v.ownBlock = some k → k0 < k) : NewB w' B v l := by
  rcases h with h | ⟨k, cap, cur, h1, h2, h3, h4, h5, h6, h7, h8⟩
  · exact .inl h
  · have hk := hne k (by rw [h1]; rfl)
    exact .inr ⟨k, cap, cur, h1, h2, h3.bar hb (by omega), h4, h5, h6, h7, fun b hm => (h8 b hm).bar hb (by omega)⟩
theorem NewB.read {w : World} {B : Nat} {v : Value} {l : List Bucket} (h : NewB w B v l) : ReadL w 3 encBucket v l ∧ ∀ b ∈ l, okBucket w b := by
  rcases h with ⟨rfl, rfl⟩ | ⟨k, cap, cur, rfl, h2, h3, h4, h5, h6, h7, h8⟩
  · exact ⟨ReadL.nil _ _ _, by simp⟩
  · exact ⟨h7.read h3 h4 h5, fun b hm => (h8 b hm).ok⟩
/-- The bucket with another slice. -/
theorem setActs (b : Bucket) (v : Value) : encBucket ⟨b.fWatch, b.fWeight, v, b.fActions⟩ = (encBucket b).set 2 v := rfl
theorem encBucket_ok {w : World} {x : Bucket} (h : okBucket w x) : ∀ u ∈ encBucket x, u.oneCell' = true := by
  have := okBucket_val h
  simpa [encBucket] using this

/-- Behind k rounds of kept. -/
def KeptI (wr : World) (B : Nat) (v : Value) (bs news : List Bucket) (k : Nat) : Prop := OwnL wr B 30 3 encBucket v news ∧ news.length = bs.length ∧
  ∀ j (h1 : j < news.length) (h2 : j < bs.length), coreB news[j] = coreB bs[j] ∧ (j < k → okX wr (v.ownBlock.getD 0) news[j]) ∧ (k ≤ j → news[j] = bs[j])
theorem KeptI.start {wr : World} {B : Nat} {v : Value} {bs : List Bucket} (h : OwnL wr B 30 3 encBucket v bs) : KeptI wr B v bs bs 0 :=
  ⟨h, rfl, fun j _ _ => ⟨rfl, fun h => absurd h (Nat.not_lt_zero _), fun _ => rfl⟩⟩
theorem KeptI.form {wr : World} {B k : Nat} {v : Value} {bs news : List Bucket} (h : KeptI wr B v bs news k) (hk : k < bs.length) : ∃ g cap, v = .slice (some ⟨g, 0, none⟩) bs.length cap ∧ B ≤ g ∧ g < wr.heap.size ∧ bs.length ≤ cap ∧ cap ≤ maxLen ∧
    wr.cell? ⟨g, k * 3 + 2, none⟩ = some bs[k].vActions ∧ wr.frozen? ⟨g, k * 3 + 2, none⟩ = false := by
  obtain ⟨h1, h2, h3⟩ := h
  rcases RowOf.of_own h1 encBucket_len with ⟨rfl, rfl⟩ | ⟨g, cap, cur, rfl, hg, hb, hc, hm, hs, hr⟩
  · simp at h2; omega
  · have hkn : k < news.length := by omega
    have e := (h3 k hkn hk).2.2 (Nat.le_refl _)
    refine ⟨g, cap, by rw [h2], hg, hb.lt, by omega, hm, hb.cell _ _ (hr.2 k 2 _ hkn ?_), hb.frozen _⟩
    rw [e]; rfl
theorem KeptI.step {w wr w2 : World} {B k g cap : Nat} {bs news : List Bucket} {v2 : Value} (h : KeptI wr B (.slice (some ⟨g, 0, none⟩) bs.length cap) bs news k) (hk : k < bs.length) (ho : okBucket w bs[k]) (hb : Below wr.heap.size wr w2)
    (h2 : OwnL w2 wr.heap.size 58 3 encAction v2 bs[k].fActions) : KeptI (w2.setCell ⟨g, k * 3 + 2, none⟩ v2) B (.slice (some ⟨g, 0, none⟩) bs.length cap) bs (news.set k ⟨bs[k].fWatch, bs[k].fWeight, v2, bs[k].fActions⟩) (k + 1) := by
  obtain ⟨h1, hl, h3⟩ := h
  have hkn : k < news.length := by omega
  have hg := (h1.block g rfl).2
  have e := (h3 k hkn hk).2.2 (Nat.le_refl _)
  refine ⟨?_, by rw [List.length_set]; exact hl, fun j hj1 hj2 => ?_⟩
  · rw [← hl] at h1 ⊢
    exact (h1.belowAll hb).setc encBucket_len (by decide) k 2 hkn (by decide) _ _ (by rw [e]; rfl)
  · rw [List.length_set] at hj1
    rw [List.getElem_set]
    by_cases hjk : k = j
    · subst hjk
      rw [if_pos rfl]
      refine ⟨rfl, fun _ => ⟨ho.1, ho.2.1, ?_, ho.2.2.1.2⟩, fun h => absurd h (by omega)⟩
      exact (ReadX.of_own h2 encAction_len hg).set _ _
    · rw [if_neg hjk]
      obtain ⟨q1, q2, q3⟩ := h3 j hj1 hj2
      refine ⟨q1, fun h => ?_, fun h => q3 (by omega)⟩
      exact ((q2 (by omega)).below hb (Nat.le_refl _)).bar ((Bar.refl _ _).set _ _) (Nat.le_refl _)
theorem KeptI.done {w wr : World} {B k : Nat} {v : Value} {bs news : List Bucket} (h : KeptI wr B v bs news k) (hk : bs.length ≤ k) (hB : w.heap.size ≤ B) : NewB wr w.heap.size v news ∧ news.map coreB = bs.map coreB := by
  obtain ⟨h1, h2, h3⟩ := h
  constructor
  · rcases RowOf.of_own h1 encBucket_len with h | ⟨g, cap, cur, rfl, hg, hb, hc, hm, hs, hr⟩
    · exact .inl h
    · refine .inr ⟨g, cap, cur, rfl, by omega, hb, hc, hm, hs, hr, fun b hb => ?_⟩
      obtain ⟨j, hj, rfl⟩ := List.getElem_of_mem hb
      exact (h3 j hj (by omega)).2.1 (by omega)
  · refine List.ext_getElem (by simpa using h2) fun j hj1 hj2 => ?_
    simp only [List.length_map] at hj1 hj2
    simp only [List.getElem_map]
    exact (h3 j hj1 hj2).1

set_option maxRecDepth 100000 in
set_option maxHeartbeats 8000000 in
theorem kept_any (w : World) (g : Group) (h : okGroup w g) (hf : fewF g = true) :
    Calls Try.prog 27 #[valGroup g] w fun x w' => ∃ v news, x = .returned (.agg #[.int .i64 g.fID, .int .i64 g.fKind, v]) ∧ NewB w' w.heap.size v news ∧ news.map coreB = g.fBuckets.map coreB ∧ Below w.heap.size w w' := by
  obtain ⟨gi, gk, gv, bs⟩ := g
  obtain ⟨hi, hk, ⟨hR, hB⟩, _⟩ := h
  have hfew := (fewF_iff _).1 hf
  simp only at hi hk hR hB hfew
  have hone := hR.one
  have hbl := hfew.1
  have HFew := Lib.hid hfew.2
  have HB := Lib.hid hB
  have HC : Hid (∀ W, Below w.heap.size w W → Calls Try.prog 49 #[gv] W fun x w' => ∃ v', x = .returned v' ∧ OwnL w' W.heap.size 30 3 encBucket v' bs ∧ Below W.heap.size W w') :=
    Lib.hid (fun W hb => cloneBucket W gv bs (hR.below hb (Nat.le_refl _)) (fun x hx => encBucket_ok (hB x hx)) (by omega))
  clear hf hfew hB hi hk hR
  go_enter Try.func27, Try.ntmps27
  go_upto_region 1 with fail
  refine two_boxes_wp ?_
  intro W hb1 hb2 hbel hsz
  have K : Hid (KR w.heap.size w [(w.heap.size, 24, #[.int .i64 gi, .int .i64 gk, gv]), (w.heap.size + 1, 24, #[.int .i64 0, .int .i64 0, .slice none 0 0])] W) := Lib.hid (((KR.start hbel hbel.size).add hb2).add hb1)
  have hW : w.heap.size + 2 ≤ W.heap.size := by rw [hsz.out]; omega
  have HW := Lib.hid hW
  clear hb1 hb2 hbel hsz hW
  have c2 := (K.out.at 0 rfl).cell 2 _ rfl
  go_wp2_with fail
  refine (HC.out _ K.out.below).mono ?_
  rintro x w1 ⟨v1, rfl, ho1, hb1⟩
  replace K := Lib.hid (K.out.call hb1)
  obtain ⟨a1, cap1, hv1, hc1, hm1⟩ := ho1.slice
  subst hv1
  unfold maxLen at hm1
  have h1 := (K.out.at 0 rfl).lt
  have f2 := (K.out.at 0 rfl).frozen 2
  have q2 := (K.out.at 0 rfl).cell 2 _ rfl
  have HO := Lib.hid ho1
  have HS := Lib.hid (Nat.le_trans HW.out hb1.size)
  have HA : Hid (∀ (W : World) (b : Bucket), b ∈ bs → Below w.heap.size w W → Calls Try.prog 50 #[b.vActions] W fun x w' => ∃ v', x = .returned v' ∧ OwnL w' W.heap.size 58 3 encAction v' b.fActions ∧ Below W.heap.size W w') :=
    Lib.hid (fun W b hb hbw => cloneAction W _ _ ((HB.out b hb).2.2.1.1.below hbw (Nat.le_refl _)) (fun y _ => encAction_one y trivial) (by have := HFew.out b hb; omega))
  clear ho1 hb1 HC c2 HFew
  go_wp2_with fail
  replace K := Lib.hid (K.out.set0 2 (.slice a1 bs.length cap1) (Nat.le_refl _) (by simp))
  replace HO := Lib.hid (HO.out.bar ((Bar.refl w.heap.size w1).set 2 (.slice a1 bs.length cap1)) (fun k hk => by have := (HO.out.block k hk).1; have := HW.out; omega))
  have HS2 : Hid (w.heap.size + 2 ≤ (w1.setCell ⟨w.heap.size, 2, none⟩ (.slice a1 bs.length cap1)).heap.size) := Lib.hid (by simpa using HS.out)
  clear HS q2 f2 h1
  generalize w1.setCell ⟨w.heap.size, 2, none⟩ (.slice a1 bs.length cap1) = w2 at *
  have hlt0 : bs.length ≤ 20 := hbl
  have K0 : Hid (KR w.heap.size w [(w.heap.size, 24, #[.int .i64 gi, .int .i64 gk, .slice a1 bs.length cap1]), (w.heap.size + 1, 24, #[.int .i64 0, .int .i64 0, .slice none 0 0])] w2) := K
  have HI := Lib.hid (KeptI.start HO.out)
  have HWl := Lib.hid (Nat.le_trans (Nat.le_add_right _ 2) HW.out)
  have HW2 := Lib.hid (HW.out)
  clear K HO HW hbl
  go_loopw [11] (fun iv wr => ∃ (k : Nat) (news : List Bucket), k ≤ bs.length ∧ iv = .int .i64 k ∧ Hid (KR w.heap.size w [(w.heap.size, 24, #[.int .i64 gi, .int .i64 gk, .slice a1 bs.length cap1]), (w.heap.size + 1, 24, #[.int .i64 0, .int .i64 0, .slice none 0 0])] wr) ∧ Hid (KeptI wr W.heap.size (.slice a1 bs.length cap1) bs news k)) (fun iv _ => bs.length - (intOf iv).toNat)
  case atStart => exact ⟨0, bs, Nat.zero_le _, rfl, K0, HI⟩
  case round =>
    obtain ⟨k, news, hk, rfl, K, HI⟩ := hrel
    by_cases hlt : k < bs.length
    · have d1 : decide (k < bs.length) = true := by simpa using hlt
      obtain ⟨g, cap, hv, hg1, hg2, _, _, hc, hfz⟩ := HI.out.form hlt
      obtain ⟨rfl, rfl⟩ : a1 = some ⟨g, 0, none⟩ ∧ cap1 = cap := by simpa using hv
      have HC2 : Hid (wr.cell? ⟨g, k * 3 + 2, none⟩ = some bs[k].vActions) := Lib.hid hc
      have hc3 := (hv : _ = _)
      have hokb := HB.out _ (List.getElem_mem hlt)
      have HOk := Lib.hid hokb
      have HAk := Lib.hid (fun (W : World) (hb : Below w.heap.size w W) => HA.out W _ (List.getElem_mem hlt) hb)
      have hgn : g ≠ w.heap.size := by have := HW2.out; omega
      have hgn1 : g ≠ w.heap.size + 1 := by have := HW2.out; omega
      have HFz0 := Lib.hid hfz
      clear hc hfz hokb hc3 hv
      have HG := Lib.hid hg2
      have HGN := Lib.hid (And.intro hgn hgn1)
      clear hgn hgn1 hg1 hg2
      go_upto_region 5 with fail
      have HFz : Hid (wr.frozen? ⟨g, k * 3 + 2, none⟩ = false) := HFz0
      replace K := Lib.hid (KS.start K.out)
      refine wp_region_noPanic ?_
      refine wp_region_G 12 (KS w.heap.size w [(w.heap.size, 24, #[.int .i64 gi, .int .i64 gk, .slice (some ⟨g, 0, none⟩) bs.length cap1]), (w.heap.size + 1, 24, #[.int .i64 0, .int .i64 0, .slice none 0 0])] wr) (by kernel_rfl) ?_
      change wpG _ _ _ _ _ 13 #[false, false, false, false, false, false, false, false, false, false, false, false, false] _ (World.drew _)
      replace K := Lib.hid K.out.drew
      refine wpG_pure (i := 0) (v := ?_) rfl (by kernel_rfl) (by kernel_rfl) (by kernel_rfl) (fun _ _ _ h => h) (Or.inl ⟨by rfl, ?_⟩) ?_
      rotate_left
      · (intro w_ hS; clear hS; go_simp; try with_reducible rfl)
      try simp only [List.getElem_toArray, List.getElem_cons_zero, List.getElem_cons_succ, Act.put, List.setIfInBounds_toArray, List.set_cons_zero, List.set_cons_succ]
      refine wpG_take (i := 1) (v := ?_) rfl (by kernel_rfl) (by kernel_rfl) (by kernel_rfl) (fun _ _ _ h => h) (Or.inl ⟨by rfl, ?_⟩) K.out ?_
      rotate_left
      · (intro w_ hS; have cq_ := (hS.at 0 rfl).cell 2 _ rfl; clear hS; go_simp; try with_reducible rfl)
      try simp only [List.getElem_toArray, List.getElem_cons_zero, List.getElem_cons_succ, Act.put, List.setIfInBounds_toArray, List.set_cons_zero, List.set_cons_succ]
      refine wpG_pure (i := 2) (v := ?_) rfl (by kernel_rfl) (by kernel_rfl) (by kernel_rfl) (fun _ _ _ h => h) (Or.inl ⟨by rfl, ?_⟩) ?_
      rotate_left
      · (intro w_ hS; clear hS; go_simp; try with_reducible rfl)
      try simp only [List.getElem_toArray, List.getElem_cons_zero, List.getElem_cons_succ, Act.put, List.setIfInBounds_toArray, List.set_cons_zero, List.set_cons_succ]
      refine wpG_pure (i := 3) (v := ?_) rfl (by kernel_rfl) (by kernel_rfl) (by kernel_rfl) (fun _ _ _ h => h) (Or.inl ⟨by rfl, ?_⟩) ?_
      rotate_left
      · (intro w_ hS; clear hS; go_simp; try with_reducible rfl)
      try simp only [List.getElem_toArray, List.getElem_cons_zero, List.getElem_cons_succ, Act.put, List.setIfInBounds_toArray, List.set_cons_zero, List.set_cons_succ]
      refine wpG_take (i := 4) (v := ?_) rfl (by kernel_rfl) (by kernel_rfl) (by kernel_rfl) (fun _ _ _ h => h) (Or.inl ⟨by rfl, ?_⟩) K.out ?_
      rotate_left
      · (intro w_ hS; have cq_ := (hS.at 0 rfl).cell 2 _ rfl; clear hS; go_simp; try with_reducible rfl)
      try simp only [List.getElem_toArray, List.getElem_cons_zero, List.getElem_cons_succ, Act.put, List.setIfInBounds_toArray, List.set_cons_zero, List.set_cons_succ]
      refine wpG_pure (i := 5) (v := ?_) rfl (by kernel_rfl) (by kernel_rfl) (by kernel_rfl) (fun _ _ _ h => h) (Or.inl ⟨by rfl, ?_⟩) ?_
      rotate_left
      · (intro w_ hS; clear hS; go_simp; try with_reducible rfl)
      try simp only [List.getElem_toArray, List.getElem_cons_zero, List.getElem_cons_succ, Act.put, List.setIfInBounds_toArray, List.set_cons_zero, List.set_cons_succ]
      refine wpG_pure (i := 6) (v := ?_) rfl (by kernel_rfl) (by kernel_rfl) (by kernel_rfl) (fun _ _ _ h => h) (Or.inl ⟨by rfl, ?_⟩) ?_
      rotate_left
      · (intro w_ hS; clear hS; go_simp; try with_reducible rfl)
      try simp only [List.getElem_toArray, List.getElem_cons_zero, List.getElem_cons_succ, Act.put, List.setIfInBounds_toArray, List.set_cons_zero, List.set_cons_succ]
      refine wpG_pure (i := 7) (v := ?_) rfl (by kernel_rfl) (by kernel_rfl) (by kernel_rfl) (fun _ _ _ h => h) (Or.inl ⟨by rfl, ?_⟩) ?_
      rotate_left
      · (intro w_ hS; clear hS; go_simp; try with_reducible rfl)
      try simp only [List.getElem_toArray, List.getElem_cons_zero, List.getElem_cons_succ, Act.put, List.setIfInBounds_toArray, List.set_cons_zero, List.set_cons_succ]
      refine wpG_take (i := 8) (v := ?_) rfl (by kernel_rfl) (by kernel_rfl) (by kernel_rfl) (fun _ _ _ h => h) (Or.inl ⟨by rfl, ?_⟩) K.out ?_
      rotate_left
      · (intro w_ hS; have cq_ := hS.cell HG.out HC2.out; clear hS; go_simp; try with_reducible rfl)
      try simp only [List.getElem_toArray, List.getElem_cons_zero, List.getElem_cons_succ, Act.put, List.setIfInBounds_toArray, List.set_cons_zero, List.set_cons_succ]
      refine wpG_ready (i := 9) rfl (by kernel_rfl) (fun K_ hK => ?_)
      go_simp
      refine (HAk.out _ K.out.below).mono ?_
      rintro x w3 ⟨v2, rfl, ho2, hb2⟩
      replace K := Lib.hid (K.out.call hb2)
      refine hK.out _ _ (fun h_ _ => K.out) ?_
      clear hK K_
      try simp only [List.getElem_toArray, List.getElem_cons_zero, List.getElem_cons_succ, Act.put, List.setIfInBounds_toArray, List.set_cons_zero, List.set_cons_succ]
      refine wpG_pure (i := 10) (v := ?_) rfl (by kernel_rfl) (by kernel_rfl) (by kernel_rfl) (fun _ _ _ h => h) (Or.inl ⟨by rfl, ?_⟩) ?_
      rotate_left
      · (intro w_ hS; clear hS; go_simp; try with_reducible rfl)
      try simp only [List.getElem_toArray, List.getElem_cons_zero, List.getElem_cons_succ, Act.put, List.setIfInBounds_toArray, List.set_cons_zero, List.set_cons_succ]
      refine wpG_pure (i := 11) (v := ?_) rfl (by kernel_rfl) (by kernel_rfl) (by kernel_rfl) (fun _ _ _ h => h) (Or.inl ⟨by rfl, ?_⟩) ?_
      rotate_left
      · (intro w_ hS; clear hS; go_simp; try with_reducible rfl)
      try simp only [List.getElem_toArray, List.getElem_cons_zero, List.getElem_cons_succ, Act.put, List.setIfInBounds_toArray, List.set_cons_zero, List.set_cons_succ]
      obtain ⟨a2, cap2, hv2, _, _⟩ := ho2.slice
      subst hv2
      have cq := K.out.cell HG.out HC2.out
      have fq := (K.out.frozen HG.out).trans HFz.out
      have HB2 := Lib.hid hb2
      have HO2 := Lib.hid ho2
      clear hb2 ho2
      refine wpG_ready (i := 12) rfl (by kernel_rfl) (fun K_ hK => ?_)
      go_simp
      refine hK.out _ _ (fun h_ _ => absurd h_ (by decide)) ?_
      clear hK K_
      try simp only [List.getElem_toArray, List.getElem_cons_zero, List.getElem_cons_succ, Act.put, List.setIfInBounds_toArray, List.set_cons_zero, List.set_cons_succ]
      refine wpG_done (by kernel_rfl) ?_ _
      refine NoPanic.normal ?_
      have HB3 : Hid (Below wr.heap.size wr w3) := Lib.hid K.out.2
      have HI2 := Lib.hid (HI.out.step hlt HOk.out HB3.out HO2.out)
      have K2 : Hid (KR w.heap.size w [(w.heap.size, 24, #[.int .i64 gi, .int .i64 gk, .slice (some ⟨g, 0, none⟩) bs.length cap1]), (w.heap.size + 1, 24, #[.int .i64 0, .int .i64 0, .slice none 0 0])] (w3.setCell ⟨g, k * 3 + 2, none⟩ (.slice a2 bs[k].fActions.length cap2))) :=
        Lib.hid (K.out.1.barOut ((Bar.refl g w3).set (k * 3 + 2) _) (by have := HW2.out; have := HGN.out; have := HI.out.1.block g rfl; omega) (by simp; have := HGN.out; omega))
      clear HO2 HB3 HAk K K0 HC2 HFz cq fq
      go_wp2_with fail
      go_roundw
      case rel => exact ⟨k + 1, _, by omega, by go_num, K2, HI2⟩
      case measure => simp [intOf]; omega
    · have d1 : decide (k < bs.length) = false := by simpa using hlt
      obtain ⟨hnew, hcore⟩ := HI.out.done (w := w) (by omega) HWl.out
      have HN := Lib.hid hnew
      have HBl := Lib.hid (fun k hk => (HI.out.1.block k hk).1)
      have HCo := Lib.hid hcore
      clear hnew hcore HI HA HB K0
      go_wp2_with (first
        | (refine wpList_load_row rfl 24 _ rfl _ rfl _ _ _ _ (K.out.at 0 rfl) Try.underlying24 rfl (by kernel_rfl) ?_)
        | (refine wpList_store_row rfl 24 _ _ rfl _ rfl #[.int .i64 gi, .int .i64 gk, .slice a1 bs.length cap1] rfl _ _ (K.out.at 1 rfl) rfl (by kernel_rfl) (by simp [Value.oneCell']) ?_)
        | fail)
      intro Wi hbi hbari
      have hKs := K.out.size
      have HB2 := Lib.hid (hbari.below K.out.below (Nat.le_succ _) hKs)
      have HN2 : Hid (NewB Wi w.heap.size (.slice a1 bs.length cap1) news) := Lib.hid (HN.out.bar hbari (fun k hk => by have := HBl.out k hk; have := HW2.out; omega))
      clear HN K hKs hbari
      go_wp2_with fail
      refine bodyPost_ret (v := .agg #[.int .i64 gi, .int .i64 gk, .slice a1 bs.length cap1]) (results_cell_row rfl _ _ (w.heap.size + 1) _ _ _ _ rfl hbi Try.underlying24 rfl (by kernel_rfl)) rfl ⟨_, news, rfl, HN2.out, HCo.out, HB2.out⟩
end Go.Proofs.Ytfjngecgfmlnfaa
