/- A table of groups: Modify. -/
import Derived.Test.YtfjngecgfmlnfaaGroupT
namespace Go.Proofs.Ytfjngecgfmlnfaa
open Go.RowKit Go.Maps
set_option linter.unusedVariables false
set_option linter.unusedSimpArgs false

theorem putL_mem {α β : Type} [DecidableEq α] {l : List (α × β)} {x : α} {y : β} {p : α × β} (h : p ∈ putL l x y) : p ∈ l ∨ p = (x, y) := by
  unfold putL at h
  split at h
  · rcases List.mem_append.1 h with h | h
    · exact .inl h
    · exact .inr (List.mem_singleton.1 h)
  · obtain ⟨q, hq, rfl⟩ := List.mem_map.1 h
    split
    · exact .inr rfl
    · exact .inl hq
/-- The table behind a store. -/
theorem TableW.put {w w' : World} {tb mb : Nat} {room : Int} {l : List (Int × Group)} (h : TableW w tb mb room l) (id : Int) (g : Group) (hid : wfI id) (hg : okGX w mb g) (hm : MapL w' mb keyI valGroup (putL l id g)) (hb : Bar mb w w') : TableW w' tb mb room (putL l id g) :=
  ⟨h.tab.bar hb (Nat.ne_of_gt h.lt), hm, fun p hp => (putL_mem hp).elim (h.keys p) (fun e => by rw [e]; exact hid), fun p hp => (putL_mem hp).elim (fun hp => (h.ok p hp).bar hb (Nat.le_refl _)) (fun e => by rw [e]; exact hg.bar hb (Nat.le_refl _)), h.lt⟩
open Classical in
/-- What Modify answers. -/
noncomputable def modF (l : List (Int × Group)) (id kind : Int) (c : List Core) : Int :=
  if wrongF id kind c ≠ 0 then wrongF id kind c else if (lookL l id).isSome = false then 31 else if wholeF l c = false then 31 else if (∃ n ∈ leadsF c, Comes (nextF l) n id) then 30 else 0

set_option maxRecDepth 100000 in
set_option maxHeartbeats 8000000 in
theorem Modify_any (w : World) (tb mb : Nat) (room : Int) (l : List (Int × Group)) (h : TableW w tb mb room l) (hok : TabOk l) (g : Group) (hg : okGroup w g) :
    Calls Try.prog 17 #[.pointer (some ⟨tb, 0, none⟩), valGroup g] w fun e w' => e = .returned (.int .i64 (modF l g.fID g.fKind (g.fBuckets.map coreB))) ∧ w.grownBy w' (some mb) ∧
      ((modF l g.fID g.fKind (g.fBuckets.map coreB) ≠ 0 ∧ TableW w' tb mb room l) ∨ (modF l g.fID g.fKind (g.fBuckets.map coreB) = 0 ∧ ∃ g', coreG g' = coreG g ∧ okGX w' (w.heap.size - 1) g' ∧ TableW w' tb mb room (putL l g.fID g'))) := by
  have hgv := hg.2.2.1.1.one
  have HOk : Hid (∀ W : World, Below w.heap.size w W → okGroup W g) := Lib.hid (fun W hb => ⟨hg.1, hg.2.1, ⟨hg.2.2.1.1.below hb (Nat.le_refl _), fun y hy => okBucket_below (hg.2.2.1.2 y hy) hb (Nat.le_refl _)⟩, trivial⟩)
  have HT := Lib.hid h
  have HTk := Lib.hid hok
  have hid : wfI g.fID := hg.1
  have hkd : wfI g.fKind := hg.2.1
  obtain ⟨gi, gk, gv, bs⟩ := g
  simp only at *
  have HA : Hid (modF l gi gk (bs.map coreB) = _) := Lib.hid (by unfold modF; rfl)
  have HC : Hid (∀ g' : Group, coreG g' = coreG ⟨gi, gk, gv, bs⟩ ↔ g'.fID = gi ∧ g'.fKind = gk ∧ g'.fBuckets.map coreB = bs.map coreB) := Lib.hid (fun g' => by simp [coreG])
  generalize modF l gi gk (bs.map coreB) = R at *
  have HWr : Hid (∀ W : World, Below w.heap.size w W → _) := Lib.hid (fun W hb => wrong_any W _ (HOk.out W hb))
  have HHas := Lib.hid (fun (W : World) (hb : Below w.heap.size w W) => has_any W tb mb room l (HT.out.below hb (Nat.le_refl _)) gi hid)
  have HId := Lib.hid hid
  have HKd := Lib.hid hkd
  have hlt : mb < w.heap.size := h.map.lt
  have HLt := Lib.hid hlt
  clear hg h hid hkd hlt hok
  go_enter Try.func17, Try.ntmps17
  go_upto_region 1 with fail
  refine one_box_wp ?_
  intro W hb1 hbel hsz
  have K : Hid (KR w.heap.size w [(w.heap.size, 24, #[.int .i64 gi, .int .i64 gk, gv])] W) := Lib.hid ((KR.start hbel hbel.size).add hb1)
  clear hb1 hbel hsz
  go_wp2_with (first
    | (refine wpList_load_row rfl 24 _ rfl _ rfl _ _ _ _ (K.out.at 0 rfl) Try.underlying24 rfl (by kernel_rfl) ?_)
    | fail)
  refine (HWr.out _ K.out.below).mono ?_
  rintro e w1 ⟨rfl, hb1⟩
  replace K := Lib.hid (K.out.call hb1)
  clear hb1 HWr
  by_cases hw : wrongF gi gk (bs.map coreB) = 0
  · have HW0 := Lib.hid hw
    have HA2 := HA.out
    rw [hw] at HA2
    simp only [ne_eq, not_true, if_false] at HA2
    have HA3 := Lib.hid HA2
    rw [hw]
    clear HA HA2 hw
    have c0 := (K.out.at 0 rfl).cell 0 _ rfl
    go_wp2_with fail
    refine (HHas.out _ K.out.below).mono ?_
    rintro e w2 ⟨rfl, hb2⟩
    replace K := Lib.hid (K.out.call hb2)
    clear hb2 HHas c0
    cases hl1 : (lookL l gi).isSome with
    | false =>
      have e : R = 31 := by rw [HA3.out, if_pos hl1]
      subst e
      clear HA3 hl1
      go_wp2_with fail
      go_ret
      exact ⟨rfl, belowGrown K.out.below _, .inl ⟨by decide, HT.out.below K.out.below (Nat.le_refl _)⟩⟩
    | true =>
      rw [if_neg (by simp [hl1])] at HA3
      have HIs : Hid ((lookL l gi).isSome = true) := Lib.hid hl1
      clear hl1
      have HWh : Hid _ := Lib.hid (fun (W : World) (hb : Below w.heap.size w W) => whole_any W tb mb room l (HT.out.below hb (Nat.le_refl _)) _ (HOk.out W hb) (lead_ok HW0.out))
      simp only at HWh
      have c0 := (K.out.at 0 rfl).cell 0 _ rfl
      have c1 := (K.out.at 0 rfl).cell 1 _ rfl
      have c2 := (K.out.at 0 rfl).cell 2 _ rfl
      go_wp2_with fail
      refine (HWh.out _ K.out.below).mono ?_
      rintro e w3 ⟨rfl, hb3⟩
      replace K := Lib.hid (K.out.call hb3)
      clear hb3 HWh c0 c1 c2
      cases hl2 : wholeF l (bs.map coreB) with
      | false =>
        have e : R = 31 := by rw [HA3.out, if_pos hl2]
        subst e
        clear HA3 hl2
        go_wp2_with fail
        go_ret
        exact ⟨rfl, belowGrown K.out.below _, .inl ⟨by decide, HT.out.below K.out.below (Nat.le_refl _)⟩⟩
      | true =>
        rw [if_neg (by simp [hl2])] at HA3
        clear hl2
        have K2 : Hid (TabS w.heap.size w [(w.heap.size, 24, #[.int .i64 gi, .int .i64 gk, gv])] tb mb room l w3 w3) := Lib.hid ⟨KS.start K.out, HT.out.below K.out.below (Nat.le_refl _)⟩
        clear K
        have HLd := Lib.hid (fun W (hb : Below w.heap.size w W) => leads_any W _ (HOk.out W hb) (lead_ok HW0.out))
        simp only at HLd
        have hll : (leadsF (bs.map coreB)).length ≤ 400 := by
          have h1 := lead_ok HW0.out
          have h2 := leadsF_len _ h1 20
          rw [List.take_of_length_le h1.1] at h2
          exact h2
        have HLL := Lib.hid hll
        have HLw := Lib.hid (leadsF_wf _ (lead_ok HW0.out))
        clear hll
        go_upto_region 8 with fail
        refine wp_region_noPanic ?_
        refine wp_region_G 7 (TabS w.heap.size w [(w.heap.size, 24, #[.int .i64 gi, .int .i64 gk, gv])] tb mb room l w3) (by kernel_rfl) ?_
        change wpG _ _ _ _ _ 7 #[false, false, false, false, false, false, false] _ (World.drew _)
        replace K2 := Lib.hid K2.out.drew
        refine wpG_pure (i := 0) (v := ?_) rfl (by kernel_rfl) (by kernel_rfl) (by kernel_rfl) (fun _ _ _ h => h) (Or.inl ⟨by rfl, ?_⟩) ?_
        rotate_left
        · (intro w_ hS; clear hS; go_simp; try with_reducible rfl)
        try simp only [List.getElem_toArray, List.getElem_cons_zero, List.getElem_cons_succ, Act.put, List.setIfInBounds_toArray, List.set_cons_zero, List.set_cons_succ]
        refine wpG_take (i := 1) rfl (by kernel_rfl) (by kernel_rfl) (by kernel_rfl) (fun _ _ _ h => h) (Or.inl ⟨by rfl, fun w_ hS => exec_row 24 _ rfl _ rfl _ (run_loadVar_row w_ _ _ 24 _ (0, 0) _ (hS.at 0 rfl) Try.underlying24 rfl (by kernel_rfl))⟩) K2.out ?_
        try simp only [List.getElem_toArray, List.getElem_cons_zero, List.getElem_cons_succ, Act.put, List.setIfInBounds_toArray, List.set_cons_zero, List.set_cons_succ]
        refine wpG_pure (i := 3) (v := ?_) rfl (by kernel_rfl) (by kernel_rfl) (by kernel_rfl) (fun _ _ _ h => h) (Or.inl ⟨by rfl, ?_⟩) ?_
        rotate_left
        · (intro w_ hS; clear hS; go_simp; try with_reducible rfl)
        try simp only [List.getElem_toArray, List.getElem_cons_zero, List.getElem_cons_succ, Act.put, List.setIfInBounds_toArray, List.set_cons_zero, List.set_cons_succ]
        refine wpG_take (i := 4) (v := ?_) rfl (by kernel_rfl) (by kernel_rfl) (by kernel_rfl) (fun _ _ _ h => h) (Or.inl ⟨by rfl, ?_⟩) K2.out ?_
        rotate_left
        · (intro w_ hS; have cq_ := (hS.at 0 rfl).cell 0 _ rfl; clear hS; go_simp; try with_reducible rfl)
        try simp only [List.getElem_toArray, List.getElem_cons_zero, List.getElem_cons_succ, Act.put, List.setIfInBounds_toArray, List.set_cons_zero, List.set_cons_succ]
        refine wpG_ready (i := 2) rfl (by kernel_rfl) (fun K_ hK => ?_)
        go_simp
        refine (HLd.out _ K2.out.below).mono ?_
        rintro e w4 ⟨v4, B4, hB4, rfl, ho4, hb4⟩
        replace K2 := Lib.hid (K2.out.call hb4)
        refine hK.out _ _ (fun h_ _ => K2.out) ?_
        clear hK K_
        try simp only [List.getElem_toArray, List.getElem_cons_zero, List.getElem_cons_succ, Act.put, List.setIfInBounds_toArray, List.set_cons_zero, List.set_cons_succ]
        have HCm := Lib.hid (comes_any w4 tb mb room l K2.out.2 HTk.out v4 _ (ReadL.of_own ho4 encI_len) HLL.out HLw.out gi)
        clear ho4 hb4 hB4 HLd
        refine wpG_ready (i := 5) rfl (by kernel_rfl) (fun K_ hK => ?_)
        go_simp
        refine (HCm.out).mono ?_
        rintro e w5 ⟨b5, rfl, hc5, hb5⟩
        replace K2 := Lib.hid (K2.out.call hb5)
        refine hK.out _ _ (fun h_ _ => K2.out) ?_
        clear hK K_
        try simp only [List.getElem_toArray, List.getElem_cons_zero, List.getElem_cons_succ, Act.put, List.setIfInBounds_toArray, List.set_cons_zero, List.set_cons_succ]
        refine wpG_pure (i := 6) (v := ?_) rfl (by kernel_rfl) (by kernel_rfl) (by kernel_rfl) (fun _ _ _ h => h) (Or.inl ⟨by rfl, ?_⟩) ?_
        rotate_left
        · (intro w_ hS; clear hS; go_simp; try with_reducible rfl)
        try simp only [List.getElem_toArray, List.getElem_cons_zero, List.getElem_cons_succ, Act.put, List.setIfInBounds_toArray, List.set_cons_zero, List.set_cons_succ]
        refine wpG_done (by kernel_rfl) ?_ _
        refine NoPanic.normal ?_
        clear hb5 HCm
        cases b5 with
        | true =>
          have e : R = 30 := by rw [HA3.out, if_pos (hc5.1 rfl)]
          subst e
          clear HA3 hc5
          go_wp2_with fail
          go_ret
          exact ⟨rfl, belowGrown K2.out.below _, .inl ⟨by decide, K2.out.2⟩⟩
        | false =>
          have e : R = 0 := by rw [HA3.out, if_neg (fun h => by have := hc5.2 h; cases this)]
          subst e
          clear HA3 hc5
          have K3 : Hid (TabS w.heap.size w [(w.heap.size, 24, #[.int .i64 gi, .int .i64 gk, gv])] tb mb room l w5 w5) := Lib.hid ⟨KS.start K2.out.1.1, K2.out.2⟩
          clear K2
          have HKp : Hid (∀ W : World, Below w.heap.size w W → _) := Lib.hid (fun W hb => kept_any W _ (HOk.out W hb) (few_of HW0.out))
          simp only at HKp
          go_upto_region 10 with fail
          have HBS : Hid (w.heap.size ≤ w5.heap.size) := Lib.hid K3.out.1.1.size
          refine wp_region_noPanic ?_
          refine wp_region_G 8 (TabS w.heap.size w [(w.heap.size, 24, #[.int .i64 gi, .int .i64 gk, gv])] tb mb room l w5) (by kernel_rfl) ?_
          change wpG _ _ _ _ _ 9 #[false, false, false, false, false, false, false, false, false] _ (World.drew _)
          replace K3 := Lib.hid K3.out.drew
          refine wpG_pure (i := 0) (v := ?_) rfl (by kernel_rfl) (by kernel_rfl) (by kernel_rfl) (fun _ _ _ h => h) (Or.inl ⟨by rfl, ?_⟩) ?_
          rotate_left
          · (intro w_ hS; clear hS; go_simp; try with_reducible rfl)
          try simp only [List.getElem_toArray, List.getElem_cons_zero, List.getElem_cons_succ, Act.put, List.setIfInBounds_toArray, List.set_cons_zero, List.set_cons_succ]
          refine wpG_pure (i := 1) (v := ?_) rfl (by kernel_rfl) (by kernel_rfl) (by kernel_rfl) (fun _ _ _ h => h) (Or.inl ⟨by rfl, ?_⟩) ?_
          rotate_left
          · (intro w_ hS; clear hS; go_simp; try with_reducible rfl)
          try simp only [List.getElem_toArray, List.getElem_cons_zero, List.getElem_cons_succ, Act.put, List.setIfInBounds_toArray, List.set_cons_zero, List.set_cons_succ]
          refine wpG_pure (i := 2) (v := ?_) rfl (by kernel_rfl) (by kernel_rfl) (by kernel_rfl) (fun _ _ _ h => h) (Or.inl ⟨by rfl, ?_⟩) ?_
          rotate_left
          · (intro w_ hS; clear hS; go_simp; try with_reducible rfl)
          try simp only [List.getElem_toArray, List.getElem_cons_zero, List.getElem_cons_succ, Act.put, List.setIfInBounds_toArray, List.set_cons_zero, List.set_cons_succ]
          refine wpG_take (i := 3) (v := ?_) rfl (by kernel_rfl) (by kernel_rfl) (by kernel_rfl) (fun _ _ _ h => h) (Or.inl ⟨by rfl, ?_⟩) K3.out ?_
          rotate_left
          · (intro w_ hS; have cq_ := hS.2.tab.cell 1 _ rfl; clear hS; go_simp; try with_reducible rfl)
          try simp only [List.getElem_toArray, List.getElem_cons_zero, List.getElem_cons_succ, Act.put, List.setIfInBounds_toArray, List.set_cons_zero, List.set_cons_succ]
          refine wpG_pure (i := 4) (v := ?_) rfl (by kernel_rfl) (by kernel_rfl) (by kernel_rfl) (fun _ _ _ h => h) (Or.inl ⟨by rfl, ?_⟩) ?_
          rotate_left
          · (intro w_ hS; clear hS; go_simp; try with_reducible rfl)
          try simp only [List.getElem_toArray, List.getElem_cons_zero, List.getElem_cons_succ, Act.put, List.setIfInBounds_toArray, List.set_cons_zero, List.set_cons_succ]
          refine wpG_take (i := 5) (v := ?_) rfl (by kernel_rfl) (by kernel_rfl) (by kernel_rfl) (fun _ _ _ h => h) (Or.inl ⟨by rfl, ?_⟩) K3.out ?_
          rotate_left
          · (intro w_ hS; have cq_ := (hS.at 0 rfl).cell 0 _ rfl; clear hS; go_simp; try with_reducible rfl)
          try simp only [List.getElem_toArray, List.getElem_cons_zero, List.getElem_cons_succ, Act.put, List.setIfInBounds_toArray, List.set_cons_zero, List.set_cons_succ]
          refine wpG_take (i := 6) rfl (by kernel_rfl) (by kernel_rfl) (by kernel_rfl) (fun _ _ _ h => h) (Or.inl ⟨by rfl, fun w_ hS => exec_row 24 _ rfl _ rfl _ (run_loadVar_row w_ _ _ 24 _ (0, 0) _ (hS.at 0 rfl) Try.underlying24 rfl (by kernel_rfl))⟩) K3.out ?_
          try simp only [List.getElem_toArray, List.getElem_cons_zero, List.getElem_cons_succ, Act.put, List.setIfInBounds_toArray, List.set_cons_zero, List.set_cons_succ]
          refine wpG_ready (i := 7) rfl (by kernel_rfl) (fun K_ hK => ?_)
          go_simp
          refine (HKp.out _ K3.out.below).mono ?_
          rintro e w6 ⟨v6, news, rfl, hn6, hc6, hb6⟩
          replace K3 := Lib.hid (K3.out.call hb6)
          refine hK.out _ _ (fun h_ _ => K3.out) ?_
          clear hK K_
          try simp only [List.getElem_toArray, List.getElem_cons_zero, List.getElem_cons_succ, Act.put, List.setIfInBounds_toArray, List.set_cons_zero, List.set_cons_succ]
          have hN6 : okGX w6 mb ⟨gi, gk, v6, news⟩ := hn6.okGX (by have := K3.out.2.map.lt; have := HLt.out; have := HBS.out; simp; omega) HId.out HKd.out
          obtain ⟨w7, hup, hm7, hb7⟩ := K3.out.2.map.update keyE_int Try.underlying66 K3.out.2.keys gi HId.out ⟨gi, gk, v6, news⟩
          have hup2 : (Instr.mapUpdate 66 (.map (some mb)) (.int .i64 gi) (.agg #[.int .i64 gi, .int .i64 gk, v6])).run Try.prog w6 = .ok () w7 := hup
          have HT7 := Lib.hid (K3.out.2.put gi ⟨gi, gk, v6, news⟩ HId.out hN6 hm7 hb7)
          have HG7 : Hid (w.grownBy w7 (some mb)) := Lib.hid (grown_bar K3.out.below hb7)
          have HC6 := Lib.hid hc6
          have HN7 : Hid (okGX w7 (w.heap.size - 1) ⟨gi, gk, v6, news⟩) := Lib.hid ((hn6.okGX (show w.heap.size - 1 < _ by have := HLt.out; have := HBS.out; simp; omega) HId.out HKd.out).bar hb7 (by have := HLt.out; omega))
          clear hup hm7 hb7 hN6 hn6 hc6 hb6 HKp
          refine wpG_ready (i := 8) rfl (by kernel_rfl) (fun K_ hK => ?_)
          go_simp
          refine hK.out _ _ (fun h_ _ => absurd h_ (by decide)) ?_
          clear hK K_
          try simp only [List.getElem_toArray, List.getElem_cons_zero, List.getElem_cons_succ, Act.put, List.setIfInBounds_toArray, List.set_cons_zero, List.set_cons_succ]
          refine wpG_done (by kernel_rfl) ?_ _
          refine NoPanic.normal ?_
          go_wp2_with fail
          go_ret
          exact ⟨rfl, HG7.out, ⟨⟨gi, gk, v6, news⟩, (HC.out _).2 ⟨rfl, rfl, HC6.out⟩, HN7.out, HT7.out⟩⟩
  · have hne : (wrongF gi gk (bs.map coreB) != 0) = true := by simpa using hw
    have HA2 : Hid (R = wrongF gi gk (bs.map coreB)) := Lib.hid (by rw [HA.out, if_pos hw])
    have HNe := Lib.hid hw
    clear HA hw
    generalize wrongF gi gk (bs.map coreB) = X at *
    go_wp2_with fail
    go_ret
    exact ⟨by rw [HA2.out]; rfl, belowGrown K.out.below _, .inl ⟨by rw [HA2.out]; exact HNe.out, HT.out.below K.out.below (Nat.le_refl _)⟩⟩
end Go.Proofs.Ytfjngecgfmlnfaa
