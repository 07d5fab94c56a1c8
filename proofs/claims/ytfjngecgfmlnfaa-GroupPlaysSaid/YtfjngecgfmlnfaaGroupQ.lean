/- A table of groups: Add. -/
import Derived.Test.YtfjngecgfmlnfaaGroupP
import Derived.Test.YtfjngecgfmlnfaaHeldRow
namespace Go.Proofs.Ytfjngecgfmlnfaa
open Go.RowKit Go.Maps
set_option linter.unusedVariables false
set_option linter.unusedSimpArgs false

def TabS (B : Nat) (w : World) (lst : List (Nat × TypeId × Array Value)) (tb mb : Nat) (room : Int) (l : List (Int × Group)) (wr W : World) : Prop := KS B w lst wr W ∧ TableW W tb mb room l
section
variable {B tb mb : Nat} {w wr W W' : World} {lst : List (Nat × TypeId × Array Value)} {room : Int} {l : List (Int × Group)}
theorem TabS.at (h : TabS B w lst tb mb room l wr W) (i : Nat) {g : Nat} {t : TypeId} {cs : Array Value} (hi : lst[i]? = some (g, t, cs)) : BlkAt W g t cs := h.1.at i hi
theorem TabS.drew (h : TabS B w lst tb mb room l wr W) : TabS B w lst tb mb room l wr W.drew := ⟨h.1.drew, h.2.drew⟩
theorem TabS.call (h : TabS B w lst tb mb room l wr W) (hb : Below W.heap.size W W') : TabS B w lst tb mb room l wr W' := ⟨h.1.call hb, h.2.below hb (Nat.le_refl _)⟩
theorem TabS.below (h : TabS B w lst tb mb room l wr W) : Below B w W := h.1.below
end
/-- What Add answers. -/
def addF (l : List (Int × Group)) (room id kind : Int) (c : List Core) : Int :=
  if wrongF id kind c ≠ 0 then wrongF id kind c else if (lookL l id).isSome = true then 29 else if wholeF l c = false then 31 else if room ≤ l.length then 27 else 0
theorem headF_false {id kind : Int} {n : Nat} (h : headF id kind n = false) : (1 ≤ id ∧ id ≤ 65535) ∧ (1 ≤ kind ∧ kind ≤ 4) ∧ n ≤ 16 := by
  simp only [headF, Bool.or_eq_false_iff, decide_eq_false_iff_not] at h
  omega
/-- A group with which nothing is wrong. -/
theorem wrong_ok {id kind : Int} {c : List Core} (h : wrongF id kind c = 0) : (1 ≤ id ∧ id ≤ 65535) ∧ (1 ≤ kind ∧ kind ≤ 4) ∧ c.length ≤ 16 ∧ (∀ x ∈ c, wrongBF kind x = false) ∧ ∀ x ∈ c, badA x = false := by
  unfold wrongF at h
  split at h
  · cases h
  · rename_i hh
    have hh' : headF id kind c.length = false := by simpa using hh
    obtain ⟨a, b, d⟩ := headF_false hh'
    split at h
    · cases h
    · rename_i hw
      split at h
      · cases h
      · rename_i hb
        simp only [List.any_eq_true, not_exists, not_and] at hw hb
        exact ⟨a, b, d, fun x hx => by simpa using hw x hx, fun x hx => by simpa using hb x hx⟩
theorem rightA_lead {k f v : Int} (h : rightA k f v = true) (hk : k = 2) : 1 ≤ v ∧ v ≤ 4294967295 := by
  subst hk
  simp [rightA] at h
  omega
theorem lead_ok {id kind : Int} {c : List Core} (h : wrongF id kind c = 0) : leadOk c := by
  obtain ⟨_, _, h1, h2, h3⟩ := wrong_ok h
  refine ⟨by omega, fun x hx => ⟨?_, fun a ha hk => ?_⟩⟩
  · have := h2 x hx
    simp only [wrongBF, Bool.or_eq_false_iff, decide_eq_false_iff_not] at this
    omega
  · have := h3 x hx
    unfold badA at this
    have := List.any_eq_false.1 this a ha
    have := rightA_lead (by simpa using this) hk
    omega
theorem few_of {g : Group} (h : wrongF g.fID g.fKind (g.fBuckets.map coreB) = 0) : fewF g = true := by
  have hl := lead_ok h
  refine (fewF_iff g).2 ⟨by have := hl.1; simpa using this, fun b hb => ?_⟩
  exact (hl.2 (coreB b) (List.mem_map_of_mem hb)).1
theorem NewB.okGX {w : World} {B m : Nat} {id kind : Int} {v : Value} {news : List Bucket} (h : NewB w B v news) (hm : m < B) (hi : wfI id) (hk : wfI kind) : okGX w m ⟨id, kind, v, news⟩ := by
  refine ⟨hi, hk, ?_, ?_⟩
  · rcases h with ⟨rfl, rfl⟩ | ⟨k, cap, cur, rfl, h2, h3, h4, h5, h6, h7, h8⟩
    · exact ⟨none, 0, rfl, Nat.le_refl _, by simp [maxLen], .inl rfl⟩
    · exact ⟨_, cap, rfl, h4, h5, .inr ⟨k, 0, rfl, h3.lt, by omega, fun i j u hi hu => by rw [Nat.zero_add]; exact h3.cell _ u (h7.2 i j u hi hu)⟩⟩
  · rcases h with ⟨rfl, rfl⟩ | ⟨k, cap, cur, rfl, h2, h3, h4, h5, h6, h7, h8⟩
    · simp
    · intro b hb
      obtain ⟨a1, a2, ⟨a, cap', hv, q1, q2, q3⟩, a4⟩ := h8 b hb
      refine ⟨a1, a2, ⟨a, cap', hv, q1, q2, ?_⟩, a4⟩
      rcases q3 with q3 | ⟨b', off, ha, hlt, hgt, hc⟩
      · exact .inl q3
      · exact .inr ⟨b', off, ha, hlt, by omega, hc⟩
theorem grown_bar {w w1 w2 : World} {k : Nat} (h : Below w.heap.size w w1) (hb : Bar k w1 w2) : w.grownBy w2 (some k) :=
  ⟨hb.os.trans h.os, hb.tape.trans h.tape, hb.output.trans h.output, Nat.le_trans h.size hb.size, fun j hj hne => (hb.block j (Nat.lt_of_lt_of_le hj h.size) (by rintro rfl; exact hne rfl)).trans (h.block j hj)⟩
theorem belowGrown {w w' : World} (h : Below w.heap.size w w') (row : Option Nat) : w.grownBy w' row := ⟨h.os, h.tape, h.output, h.size, fun k hk _ => h.block k hk⟩

set_option maxRecDepth 100000 in
set_option maxHeartbeats 8000000 in
theorem Add_any (w : World) (tb mb : Nat) (room : Int) (l : List (Int × Group)) (h : TableW w tb mb room l) (g : Group) (hg : okGroup w g) (hlen : l.length ≤ 1000) :
    Calls Try.prog 15 #[.pointer (some ⟨tb, 0, none⟩), valGroup g] w fun e w' => e = .returned (.int .i64 (addF l room g.fID g.fKind (g.fBuckets.map coreB))) ∧ w.grownBy w' (some mb) ∧
      ((addF l room g.fID g.fKind (g.fBuckets.map coreB) ≠ 0 ∧ TableW w' tb mb room l) ∨ (addF l room g.fID g.fKind (g.fBuckets.map coreB) = 0 ∧ ∃ g', coreG g' = coreG g ∧ okGX w' (w.heap.size - 1) g' ∧ TableW w' tb mb room (l ++ [(g.fID, g')]))) := by
  have hgv := hg.2.2.1.1.one
  have HOk : Hid (∀ W : World, Below w.heap.size w W → okGroup W g) := Lib.hid (fun W hb => ⟨hg.1, hg.2.1, ⟨hg.2.2.1.1.below hb (Nat.le_refl _), fun y hy => okBucket_below (hg.2.2.1.2 y hy) hb (Nat.le_refl _)⟩, trivial⟩)
  have HT := Lib.hid h
  have hid : wfI g.fID := hg.1
  have hkd : wfI g.fKind := hg.2.1
  obtain ⟨gi, gk, gv, bs⟩ := g
  simp only at *
  have HA : Hid (addF l room gi gk (bs.map coreB) = _) := Lib.hid (by unfold addF; rfl)
  have HC : Hid (∀ g' : Group, coreG g' = coreG ⟨gi, gk, gv, bs⟩ ↔ g'.fID = gi ∧ g'.fKind = gk ∧ g'.fBuckets.map coreB = bs.map coreB) := Lib.hid (fun g' => by simp [coreG])
  generalize addF l room gi gk (bs.map coreB) = R at *
  have HWr : Hid (∀ W : World, Below w.heap.size w W → _) := Lib.hid (fun W hb => wrong_any W _ (HOk.out W hb))
  have HHas := Lib.hid (fun (W : World) (hb : Below w.heap.size w W) => has_any W tb mb room l (HT.out.below hb (Nat.le_refl _)) gi hid)
  have HId := Lib.hid hid
  have HKd := Lib.hid hkd
  have hlt : mb < w.heap.size := h.map.lt
  have HLt := Lib.hid hlt
  clear hg h hid hkd hlt
  go_enter Try.func15, Try.ntmps15
  go_upto_region 1 with fail
  refine one_box_wp ?_
  intro W hb1 hbel hsz
  have K : Hid (KR w.heap.size w [(w.heap.size, 24, #[.int .i64 gi, .int .i64 gk, gv])] W) := Lib.hid ((KR.start hbel hbel.size).add hb1)
  clear hb1 hbel hsz
  go_wp2_with (first
    | (refine wpList_load_row rfl 24 _ rfl _ rfl _ _ _ _ (K.out.at 0 rfl) Try.underlying24 rfl (by kernel_rfl) ?_)
    | fail)
  refine (HWr.out _ K.out.below).mono ?_
  rintro e w1 ⟨rfl, hb1⟩
  replace K := Lib.hid (K.out.call hb1)
  clear hb1 HWr
  by_cases hw : wrongF gi gk (bs.map coreB) = 0
  · have HW0 := Lib.hid hw
    have HA2 := HA.out
    rw [hw] at HA2
    simp only [ne_eq, not_true, if_false] at HA2
    have HA3 := Lib.hid HA2
    rw [hw]
    clear HA HA2 hw
    have c0 := (K.out.at 0 rfl).cell 0 _ rfl
    go_wp2_with fail
    refine (HHas.out _ K.out.below).mono ?_
    rintro e w2 ⟨rfl, hb2⟩
    replace K := Lib.hid (K.out.call hb2)
    clear hb2 HHas c0
    cases hl1 : (lookL l gi).isSome with
    | true =>
      have e : R = 29 := by rw [HA3.out, if_pos hl1]
      subst e
      clear HA3 hl1
      go_wp2_with fail
      go_ret
      exact ⟨rfl, belowGrown K.out.below _, .inl ⟨by decide, HT.out.below K.out.below (Nat.le_refl _)⟩⟩
    | false =>
      rw [if_neg (by simp [hl1])] at HA3
      have HNo : Hid (lookL l gi = none) := Lib.hid (by simpa using hl1)
      clear hl1
      have HWh : Hid _ := Lib.hid (fun (W : World) (hb : Below w.heap.size w W) => whole_any W tb mb room l (HT.out.below hb (Nat.le_refl _)) _ (HOk.out W hb) (lead_ok HW0.out))
      simp only at HWh
      go_wp2_with (first
        | (refine wpList_load_row rfl 24 _ rfl _ rfl _ _ _ _ (K.out.at 0 rfl) Try.underlying24 rfl (by kernel_rfl) ?_)
        | fail)
      refine (HWh.out _ K.out.below).mono ?_
      rintro e w3 ⟨rfl, hb3⟩
      replace K := Lib.hid (K.out.call hb3)
      clear hb3 HWh
      cases hl2 : wholeF l (bs.map coreB) with
      | false =>
        have e : R = 31 := by rw [HA3.out, if_pos hl2]
        subst e
        clear HA3 hl2
        go_wp2_with fail
        go_ret
        exact ⟨rfl, belowGrown K.out.below _, .inl ⟨by decide, HT.out.below K.out.below (Nat.le_refl _)⟩⟩
      | true =>
        rw [if_neg (by simp [hl2])] at HA3
        clear hl2
        have K2 : Hid (TabS w.heap.size w [(w.heap.size, 24, #[.int .i64 gi, .int .i64 gk, gv])] tb mb room l w3 w3) := Lib.hid ⟨KS.start K.out, HT.out.below K.out.below (Nat.le_refl _)⟩
        clear K
        have hl64 : (l.length : Int) ≤ 1000 := by omega
        by_cases hr : room ≤ l.length
        · have t1 : decide (room ≤ (l.length : Int)) = true := decide_eq_true hr
          have e : R = 27 := by rw [HA3.out, if_pos hr]
          subst e
          clear HA3 hr
          go_upto_region 10 with fail
          refine wp_region_noPanic ?_
          refine wp_region_G 11 (TabS w.heap.size w [(w.heap.size, 24, #[.int .i64 gi, .int .i64 gk, gv])] tb mb room l w3) (by kernel_rfl) ?_
          change wpG _ _ _ _ _ 11 #[false, false, false, false, false, false, false, false, false, false, false] _ (World.drew _)
          replace K2 := Lib.hid K2.out.drew
          refine wpG_pure (i := 0) (v := ?_) rfl (by kernel_rfl) (by kernel_rfl) (by kernel_rfl) (fun _ _ _ h => h) (Or.inl ⟨by rfl, ?_⟩) ?_
          rotate_left
          · (intro w_ hS; clear hS; go_simp; try with_reducible rfl)
          try simp only [List.getElem_toArray, List.getElem_cons_zero, List.getElem_cons_succ, Act.put, List.setIfInBounds_toArray, List.set_cons_zero, List.set_cons_succ]
          refine wpG_pure (i := 1) (v := ?_) rfl (by kernel_rfl) (by kernel_rfl) (by kernel_rfl) (fun _ _ _ h => h) (Or.inl ⟨by rfl, ?_⟩) ?_
          rotate_left
          · (intro w_ hS; clear hS; go_simp; try with_reducible rfl)
          try simp only [List.getElem_toArray, List.getElem_cons_zero, List.getElem_cons_succ, Act.put, List.setIfInBounds_toArray, List.set_cons_zero, List.set_cons_succ]
          refine wpG_pure (i := 2) (v := ?_) rfl (by kernel_rfl) (by kernel_rfl) (by kernel_rfl) (fun _ _ _ h => h) (Or.inl ⟨by rfl, ?_⟩) ?_
          rotate_left
          · (intro w_ hS; clear hS; go_simp; try with_reducible rfl)
          try simp only [List.getElem_toArray, List.getElem_cons_zero, List.getElem_cons_succ, Act.put, List.setIfInBounds_toArray, List.set_cons_zero, List.set_cons_succ]
          refine wpG_take (i := 3) (v := ?_) rfl (by kernel_rfl) (by kernel_rfl) (by kernel_rfl) (fun _ _ _ h => h) (Or.inl ⟨by rfl, ?_⟩) K2.out ?_
          rotate_left
          · (intro w_ hS; have cq_ := hS.2.tab.cell 1 _ rfl; clear hS; go_simp; try with_reducible rfl)
          try simp only [List.getElem_toArray, List.getElem_cons_zero, List.getElem_cons_succ, Act.put, List.setIfInBounds_toArray, List.set_cons_zero, List.set_cons_succ]
          refine wpG_take (i := 4) (v := ?_) rfl (by kernel_rfl) (by kernel_rfl) (by kernel_rfl) (fun _ _ _ h => h) (Or.inl ⟨by rfl, ?_⟩) K2.out ?_
          rotate_left
          · (intro w_ hS; have cq_ := fun ty => hS.2.map.len Try.underlying66 ty; clear hS; go_simp; try with_reducible rfl)
          try simp only [List.getElem_toArray, List.getElem_cons_zero, List.getElem_cons_succ, Act.put, List.setIfInBounds_toArray, List.set_cons_zero, List.set_cons_succ]
          refine wpG_pure (i := 5) (v := ?_) rfl (by kernel_rfl) (by kernel_rfl) (by kernel_rfl) (fun _ _ _ h => h) (Or.inl ⟨by rfl, ?_⟩) ?_
          rotate_left
          · (intro w_ hS; clear hS; go_simp; try with_reducible rfl)
          try simp only [List.getElem_toArray, List.getElem_cons_zero, List.getElem_cons_succ, Act.put, List.setIfInBounds_toArray, List.set_cons_zero, List.set_cons_succ]
          refine wpG_pure (i := 6) (v := ?_) rfl (by kernel_rfl) (by kernel_rfl) (by kernel_rfl) (fun _ _ _ h => h) (Or.inl ⟨by rfl, ?_⟩) ?_
          rotate_left
          · (intro w_ hS; clear hS; go_simp; try with_reducible rfl)
          try simp only [List.getElem_toArray, List.getElem_cons_zero, List.getElem_cons_succ, Act.put, List.setIfInBounds_toArray, List.set_cons_zero, List.set_cons_succ]
          refine wpG_pure (i := 7) (v := ?_) rfl (by kernel_rfl) (by kernel_rfl) (by kernel_rfl) (fun _ _ _ h => h) (Or.inl ⟨by rfl, ?_⟩) ?_
          rotate_left
          · (intro w_ hS; clear hS; go_simp; try with_reducible rfl)
          try simp only [List.getElem_toArray, List.getElem_cons_zero, List.getElem_cons_succ, Act.put, List.setIfInBounds_toArray, List.set_cons_zero, List.set_cons_succ]
          refine wpG_take (i := 8) (v := ?_) rfl (by kernel_rfl) (by kernel_rfl) (by kernel_rfl) (fun _ _ _ h => h) (Or.inl ⟨by rfl, ?_⟩) K2.out ?_
          rotate_left
          · (intro w_ hS; have cq_ := hS.2.tab.cell 0 _ rfl; clear hS; go_simp; try with_reducible rfl)
          try simp only [List.getElem_toArray, List.getElem_cons_zero, List.getElem_cons_succ, Act.put, List.setIfInBounds_toArray, List.set_cons_zero, List.set_cons_succ]
          refine wpG_pure (i := 9) (v := ?_) rfl (by kernel_rfl) (by kernel_rfl) (by kernel_rfl) (fun _ _ _ h => h) (Or.inl ⟨by rfl, ?_⟩) ?_
          rotate_left
          · (intro w_ hS; clear hS; go_simp; try with_reducible rfl)
          try simp only [List.getElem_toArray, List.getElem_cons_zero, List.getElem_cons_succ, Act.put, List.setIfInBounds_toArray, List.set_cons_zero, List.set_cons_succ]
          refine wpG_pure (i := 10) (v := ?_) rfl (by kernel_rfl) (by kernel_rfl) (by kernel_rfl) (fun _ _ _ h => h) (Or.inl ⟨by rfl, ?_⟩) ?_
          rotate_left
          · (intro w_ hS; clear hS; go_simp; try with_reducible rfl)
          try simp only [List.getElem_toArray, List.getElem_cons_zero, List.getElem_cons_succ, Act.put, List.setIfInBounds_toArray, List.set_cons_zero, List.set_cons_succ]
          refine wpG_done (by kernel_rfl) ?_ _
          refine NoPanic.normal ?_
          go_wp2_with fail
          go_ret
          exact ⟨rfl, belowGrown K2.out.below _, .inl ⟨by decide, K2.out.2⟩⟩
        · have t1 : decide (room ≤ (l.length : Int)) = false := decide_eq_false hr
          have e : R = 0 := by rw [HA3.out, if_neg hr]
          subst e
          simp only [ne_eq, not_true, false_and, false_or, true_and]
          clear HA3 hr
          go_upto_region 10 with fail
          refine wp_region_noPanic ?_
          refine wp_region_G 11 (TabS w.heap.size w [(w.heap.size, 24, #[.int .i64 gi, .int .i64 gk, gv])] tb mb room l w3) (by kernel_rfl) ?_
          change wpG _ _ _ _ _ 11 #[false, false, false, false, false, false, false, false, false, false, false] _ (World.drew _)
          replace K2 := Lib.hid K2.out.drew
          refine wpG_pure (i := 0) (v := ?_) rfl (by kernel_rfl) (by kernel_rfl) (by kernel_rfl) (fun _ _ _ h => h) (Or.inl ⟨by rfl, ?_⟩) ?_
          rotate_left
          · (intro w_ hS; clear hS; go_simp; try with_reducible rfl)
          try simp only [List.getElem_toArray, List.getElem_cons_zero, List.getElem_cons_succ, Act.put, List.setIfInBounds_toArray, List.set_cons_zero, List.set_cons_succ]
          refine wpG_pure (i := 1) (v := ?_) rfl (by kernel_rfl) (by kernel_rfl) (by kernel_rfl) (fun _ _ _ h => h) (Or.inl ⟨by rfl, ?_⟩) ?_
          rotate_left
          · (intro w_ hS; clear hS; go_simp; try with_reducible rfl)
          try simp only [List.getElem_toArray, List.getElem_cons_zero, List.getElem_cons_succ, Act.put, List.setIfInBounds_toArray, List.set_cons_zero, List.set_cons_succ]
          refine wpG_pure (i := 2) (v := ?_) rfl (by kernel_rfl) (by kernel_rfl) (by kernel_rfl) (fun _ _ _ h => h) (Or.inl ⟨by rfl, ?_⟩) ?_
          rotate_left
          · (intro w_ hS; clear hS; go_simp; try with_reducible rfl)
          try simp only [List.getElem_toArray, List.getElem_cons_zero, List.getElem_cons_succ, Act.put, List.setIfInBounds_toArray, List.set_cons_zero, List.set_cons_succ]
          refine wpG_take (i := 3) (v := ?_) rfl (by kernel_rfl) (by kernel_rfl) (by kernel_rfl) (fun _ _ _ h => h) (Or.inl ⟨by rfl, ?_⟩) K2.out ?_
          rotate_left
          · (intro w_ hS; have cq_ := hS.2.tab.cell 1 _ rfl; clear hS; go_simp; try with_reducible rfl)
          try simp only [List.getElem_toArray, List.getElem_cons_zero, List.getElem_cons_succ, Act.put, List.setIfInBounds_toArray, List.set_cons_zero, List.set_cons_succ]
          refine wpG_take (i := 4) (v := ?_) rfl (by kernel_rfl) (by kernel_rfl) (by kernel_rfl) (fun _ _ _ h => h) (Or.inl ⟨by rfl, ?_⟩) K2.out ?_
          rotate_left
          · (intro w_ hS; have cq_ := fun ty => hS.2.map.len Try.underlying66 ty; clear hS; go_simp; try with_reducible rfl)
          try simp only [List.getElem_toArray, List.getElem_cons_zero, List.getElem_cons_succ, Act.put, List.setIfInBounds_toArray, List.set_cons_zero, List.set_cons_succ]
          refine wpG_pure (i := 5) (v := ?_) rfl (by kernel_rfl) (by kernel_rfl) (by kernel_rfl) (fun _ _ _ h => h) (Or.inl ⟨by rfl, ?_⟩) ?_
          rotate_left
          · (intro w_ hS; clear hS; go_simp; try with_reducible rfl)
          try simp only [List.getElem_toArray, List.getElem_cons_zero, List.getElem_cons_succ, Act.put, List.setIfInBounds_toArray, List.set_cons_zero, List.set_cons_succ]
          refine wpG_pure (i := 6) (v := ?_) rfl (by kernel_rfl) (by kernel_rfl) (by kernel_rfl) (fun _ _ _ h => h) (Or.inl ⟨by rfl, ?_⟩) ?_
          rotate_left
          · (intro w_ hS; clear hS; go_simp; try with_reducible rfl)
          try simp only [List.getElem_toArray, List.getElem_cons_zero, List.getElem_cons_succ, Act.put, List.setIfInBounds_toArray, List.set_cons_zero, List.set_cons_succ]
          refine wpG_pure (i := 7) (v := ?_) rfl (by kernel_rfl) (by kernel_rfl) (by kernel_rfl) (fun _ _ _ h => h) (Or.inl ⟨by rfl, ?_⟩) ?_
          rotate_left
          · (intro w_ hS; clear hS; go_simp; try with_reducible rfl)
          try simp only [List.getElem_toArray, List.getElem_cons_zero, List.getElem_cons_succ, Act.put, List.setIfInBounds_toArray, List.set_cons_zero, List.set_cons_succ]
          refine wpG_take (i := 8) (v := ?_) rfl (by kernel_rfl) (by kernel_rfl) (by kernel_rfl) (fun _ _ _ h => h) (Or.inl ⟨by rfl, ?_⟩) K2.out ?_
          rotate_left
          · (intro w_ hS; have cq_ := hS.2.tab.cell 0 _ rfl; clear hS; go_simp; try with_reducible rfl)
          try simp only [List.getElem_toArray, List.getElem_cons_zero, List.getElem_cons_succ, Act.put, List.setIfInBounds_toArray, List.set_cons_zero, List.set_cons_succ]
          refine wpG_pure (i := 9) (v := ?_) rfl (by kernel_rfl) (by kernel_rfl) (by kernel_rfl) (fun _ _ _ h => h) (Or.inl ⟨by rfl, ?_⟩) ?_
          rotate_left
          · (intro w_ hS; clear hS; go_simp; try with_reducible rfl)
          try simp only [List.getElem_toArray, List.getElem_cons_zero, List.getElem_cons_succ, Act.put, List.setIfInBounds_toArray, List.set_cons_zero, List.set_cons_succ]
          refine wpG_pure (i := 10) (v := ?_) rfl (by kernel_rfl) (by kernel_rfl) (by kernel_rfl) (fun _ _ _ h => h) (Or.inl ⟨by rfl, ?_⟩) ?_
          rotate_left
          · (intro w_ hS; clear hS; go_simp; try with_reducible rfl)
          try simp only [List.getElem_toArray, List.getElem_cons_zero, List.getElem_cons_succ, Act.put, List.setIfInBounds_toArray, List.set_cons_zero, List.set_cons_succ]
          refine wpG_done (by kernel_rfl) ?_ _
          refine NoPanic.normal ?_
          have HKp : Hid (∀ W : World, Below w.heap.size w W → _) := Lib.hid (fun W hb => kept_any W _ (HOk.out W hb) (few_of HW0.out))
          simp only at HKp
          go_upto_region 12 with fail
          have HBS : Hid (w.heap.size ≤ w3.heap.size) := Lib.hid K2.out.1.1.size
          refine wp_region_noPanic ?_
          refine wp_region_G 8 (TabS w.heap.size w [(w.heap.size, 24, #[.int .i64 gi, .int .i64 gk, gv])] tb mb room l w3) (by kernel_rfl) ?_
          change wpG _ _ _ _ _ 9 #[false, false, false, false, false, false, false, false, false] _ (World.drew _)
          replace K2 := Lib.hid K2.out.drew
          refine wpG_pure (i := 0) (v := ?_) rfl (by kernel_rfl) (by kernel_rfl) (by kernel_rfl) (fun _ _ _ h => h) (Or.inl ⟨by rfl, ?_⟩) ?_
          rotate_left
          · (intro w_ hS; clear hS; go_simp; try with_reducible rfl)
          try simp only [List.getElem_toArray, List.getElem_cons_zero, List.getElem_cons_succ, Act.put, List.setIfInBounds_toArray, List.set_cons_zero, List.set_cons_succ]
          refine wpG_pure (i := 1) (v := ?_) rfl (by kernel_rfl) (by kernel_rfl) (by kernel_rfl) (fun _ _ _ h => h) (Or.inl ⟨by rfl, ?_⟩) ?_
          rotate_left
          · (intro w_ hS; clear hS; go_simp; try with_reducible rfl)
          try simp only [List.getElem_toArray, List.getElem_cons_zero, List.getElem_cons_succ, Act.put, List.setIfInBounds_toArray, List.set_cons_zero, List.set_cons_succ]
          refine wpG_pure (i := 2) (v := ?_) rfl (by kernel_rfl) (by kernel_rfl) (by kernel_rfl) (fun _ _ _ h => h) (Or.inl ⟨by rfl, ?_⟩) ?_
          rotate_left
          · (intro w_ hS; clear hS; go_simp; try with_reducible rfl)
          try simp only [List.getElem_toArray, List.getElem_cons_zero, List.getElem_cons_succ, Act.put, List.setIfInBounds_toArray, List.set_cons_zero, List.set_cons_succ]
          refine wpG_take (i := 3) (v := ?_) rfl (by kernel_rfl) (by kernel_rfl) (by kernel_rfl) (fun _ _ _ h => h) (Or.inl ⟨by rfl, ?_⟩) K2.out ?_
          rotate_left
          · (intro w_ hS; have cq_ := hS.2.tab.cell 1 _ rfl; clear hS; go_simp; try with_reducible rfl)
          try simp only [List.getElem_toArray, List.getElem_cons_zero, List.getElem_cons_succ, Act.put, List.setIfInBounds_toArray, List.set_cons_zero, List.set_cons_succ]
          refine wpG_pure (i := 4) (v := ?_) rfl (by kernel_rfl) (by kernel_rfl) (by kernel_rfl) (fun _ _ _ h => h) (Or.inl ⟨by rfl, ?_⟩) ?_
          rotate_left
          · (intro w_ hS; clear hS; go_simp; try with_reducible rfl)
          try simp only [List.getElem_toArray, List.getElem_cons_zero, List.getElem_cons_succ, Act.put, List.setIfInBounds_toArray, List.set_cons_zero, List.set_cons_succ]
          refine wpG_take (i := 5) (v := ?_) rfl (by kernel_rfl) (by kernel_rfl) (by kernel_rfl) (fun _ _ _ h => h) (Or.inl ⟨by rfl, ?_⟩) K2.out ?_
          rotate_left
          · (intro w_ hS; have cq_ := (hS.at 0 rfl).cell 0 _ rfl; clear hS; go_simp; try with_reducible rfl)
          try simp only [List.getElem_toArray, List.getElem_cons_zero, List.getElem_cons_succ, Act.put, List.setIfInBounds_toArray, List.set_cons_zero, List.set_cons_succ]
          refine wpG_take (i := 6) rfl (by kernel_rfl) (by kernel_rfl) (by kernel_rfl) (fun _ _ _ h => h) (Or.inl ⟨by rfl, fun w_ hS => exec_row 24 _ rfl _ rfl _ (run_loadVar_row w_ _ _ 24 _ (0, 0) _ (hS.at 0 rfl) Try.underlying24 rfl (by kernel_rfl))⟩) K2.out ?_
          try simp only [List.getElem_toArray, List.getElem_cons_zero, List.getElem_cons_succ, Act.put, List.setIfInBounds_toArray, List.set_cons_zero, List.set_cons_succ]
          refine wpG_ready (i := 7) rfl (by kernel_rfl) (fun K_ hK => ?_)
          go_simp
          refine (HKp.out _ K2.out.below).mono ?_
          rintro e w4 ⟨v4, news, rfl, hn4, hc4, hb4⟩
          replace K2 := Lib.hid (K2.out.call hb4)
          refine hK.out _ _ (fun h_ _ => K2.out) ?_
          clear hK K_
          try simp only [List.getElem_toArray, List.getElem_cons_zero, List.getElem_cons_succ, Act.put, List.setIfInBounds_toArray, List.set_cons_zero, List.set_cons_succ]
          have hN4 : okGX w4 mb ⟨gi, gk, v4, news⟩ := hn4.okGX (by have := K2.out.2.map.lt; have := HLt.out; have := HBS.out; simp; omega) HId.out HKd.out
          obtain ⟨w5, hup, hm5, hb5⟩ := K2.out.2.map.update keyE_int Try.underlying66 K2.out.2.keys gi HId.out ⟨gi, gk, v4, news⟩
          have hup2 : (Instr.mapUpdate 66 (.map (some mb)) (.int .i64 gi) (.agg #[.int .i64 gi, .int .i64 gk, v4])).run Try.prog w4 = .ok () w5 := hup
          have HT5 : Hid (TableW w5 tb mb room (l ++ [(gi, ⟨gi, gk, v4, news⟩)])) := Lib.hid (by
            have hne := K2.out.2.lt
            refine ⟨K2.out.2.tab.bar hb5 (by omega), ?_, ?_, ?_, hne⟩
            · have := hm5
              unfold putL at this
              rwa [if_pos HNo.out] at this
            · intro p hp
              rcases List.mem_append.1 hp with hp | hp
              · exact K2.out.2.keys p hp
              · obtain rfl := List.mem_singleton.1 hp; exact HId.out
            · intro p hp
              rcases List.mem_append.1 hp with hp | hp
              · exact (K2.out.2.ok p hp).bar hb5 (Nat.le_refl _)
              · obtain rfl := List.mem_singleton.1 hp; exact hN4.bar hb5 (Nat.le_refl _))
          have HG5 : Hid (w.grownBy w5 (some mb)) := Lib.hid (grown_bar K2.out.below hb5)
          have HC4 := Lib.hid hc4
          have HN5 : Hid (okGX w5 (w.heap.size - 1) ⟨gi, gk, v4, news⟩) := Lib.hid ((hn4.okGX (show w.heap.size - 1 < _ by have := HLt.out; have := HBS.out; simp; omega) HId.out HKd.out).bar hb5 (by have := HLt.out; omega))
          clear hup hm5 hb5 hN4 hn4 hc4 hb4 HKp
          refine wpG_ready (i := 8) rfl (by kernel_rfl) (fun K_ hK => ?_)
          go_simp
          refine hK.out _ _ (fun h_ _ => absurd h_ (by decide)) ?_
          clear hK K_
          try simp only [List.getElem_toArray, List.getElem_cons_zero, List.getElem_cons_succ, Act.put, List.setIfInBounds_toArray, List.set_cons_zero, List.set_cons_succ]
          refine wpG_done (by kernel_rfl) ?_ _
          refine NoPanic.normal ?_
          go_wp2_with fail
          go_ret
          exact ⟨rfl, HG5.out, ⟨⟨gi, gk, v4, news⟩, (HC.out _).2 ⟨rfl, rfl, HC4.out⟩, HN5.out, HT5.out⟩⟩
  · have hne : (wrongF gi gk (bs.map coreB) != 0) = true := by simpa using hw
    have HA2 : Hid (R = wrongF gi gk (bs.map coreB)) := Lib.hid (by rw [HA.out, if_pos hw])
    have HNe := Lib.hid hw
    clear HA hw
    generalize wrongF gi gk (bs.map coreB) = X at *
    go_wp2_with fail
    go_ret
    exact ⟨by rw [HA2.out]; rfl, belowGrown K.out.below _, .inl ⟨by rw [HA2.out]; exact HNe.out, HT.out.below K.out.below (Nat.le_refl _)⟩⟩
end Go.Proofs.Ytfjngecgfmlnfaa
