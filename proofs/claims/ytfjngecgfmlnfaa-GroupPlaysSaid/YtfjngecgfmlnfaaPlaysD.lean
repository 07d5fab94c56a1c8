/- The reference's Add. -/
import Derived.Test.YtfjngecgfmlnfaaPlaysC
namespace Go.Proofs.Ytfjngecgfmlnfaa
open Go.RowKit Go.Maps
set_option linter.unusedVariables false
set_option linter.unusedSimpArgs false

/-- A group is put in its place, by rising numbers. -/
def insF (g : Group) : List Group → List Group
  | [] => [g]
  | x :: l => if g.fID < x.fID then g :: x :: l else x :: insF g l
/-- Between two rounds. -/
def InsI (g : Group) (L : List Group) (k : Nat) (dn : Bool) (out : List Group) : Prop := (dn = true → out ++ L.drop k = insF g L) ∧ (dn = false → out = L.take k ∧ L.take k ++ insF g (L.drop k) = insF g L)
theorem InsI.start (g : Group) (L : List Group) : InsI g L 0 false [] := ⟨fun h => (by cases h), fun _ => ⟨by simp, by simp⟩⟩
theorem InsI.put {g : Group} {L : List Group} {k : Nat} {out : List Group} (h : InsI g L k false out) (hk : k < L.length) (hg : g.fID < L[k].fID) : InsI g L (k + 1) true ((out ++ [g]) ++ [L[k]]) := by
  obtain ⟨h1, h2⟩ := h.2 rfl
  refine ⟨fun _ => ?_, fun h => by cases h⟩
  rw [← h2, h1, List.drop_eq_getElem_cons hk, insF, if_pos hg]
  simp
theorem InsI.pass {g : Group} {L : List Group} {k : Nat} {out : List Group} (h : InsI g L k false out) (hk : k < L.length) (hg : ¬ g.fID < L[k].fID) : InsI g L (k + 1) false (out ++ [L[k]]) := by
  obtain ⟨h1, h2⟩ := h.2 rfl
  refine ⟨fun h => (by cases h), fun _ => ⟨by rw [h1, List.take_succ_eq_append_getElem hk], ?_⟩⟩
  have e1 : L.take (k + 1) = L.take k ++ [L[k]] := List.take_succ_eq_append_getElem hk
  rw [← h2, List.drop_eq_getElem_cons hk, insF, if_neg hg, e1, List.append_assoc]
  rfl
theorem InsI.on {g : Group} {L : List Group} {k : Nat} {out : List Group} (h : InsI g L k true out) (hk : k < L.length) : InsI g L (k + 1) true (out ++ [L[k]]) := by
  refine ⟨fun _ => ?_, fun h => by cases h⟩
  rw [← h.1 rfl, List.drop_eq_getElem_cons hk]
  simp
theorem insF_len (g : Group) : ∀ L : List Group, (insF g L).length = L.length + 1
  | [] => rfl
  | x :: l => by
    rw [insF]
    split
    · rfl
    · simp [insF_len g l]
theorem insF_mem {g x : Group} : ∀ {L : List Group}, x ∈ insF g L ↔ x = g ∨ x ∈ L
  | [] => by simp [insF]
  | y :: l => by
    rw [insF]
    split
    · simp
    · simp only [List.mem_cons, insF_mem (L := l)]
      constructor
      · rintro (h | h | h) <;> simp [h]
      · rintro (h | h | h) <;> simp [h]
/-- What the reference's Add answers. -/
def addR (L : List Group) (room id kind : Int) (c : List Core) : Int :=
  if wrongF id kind c ≠ 0 then wrongF id kind c else if inL L id = true then 29 else if wholeR L c = false then 31 else if room ≤ L.length then 27 else 0
/-- Behind a call of the reference: its table's block and new ones are other. -/
theorem RefW.put {w w2 w' w0 : World} {rb : Nat} {room : Int} {lv lv' : Value} {L L' : List Group} (h : RefW w w0 rb room lv L) (hb : Below w.heap.size w w2) (hrow : OwnL w2 w.heap.size 24 3 encGroup lv' L') (hok : ∀ g ∈ L', okGroup w0 g) (hlen : L'.length ≤ 64)
    (hw : w' = w2.setCell ⟨rb, 0, none⟩ lv') : RefW w' w0 rb room lv' L' ∧ Bar rb w w' := by
  subst hw
  have h2 := h.below hb (Nat.le_refl _)
  have hne : lv'.ownBlock ≠ some rb := fun e => by have := (hrow.block rb e).1; have := h.tab.lt; omega
  refine ⟨⟨?_, ?_, hok, hlen, ?_, h.lt⟩, ?_⟩
  · have := h2.tab.set 0 lv'
    simpa using this
  · have h3 : OwnL w2 w0.heap.size 24 3 encGroup lv' L' := by
      rcases hrow.2 with ⟨hv, h0⟩ | ⟨k, cap, cur, hv, hk, r⟩
      · exact ⟨hrow.1, .inl ⟨hv, h0⟩⟩
      · exact ⟨hrow.1, .inr ⟨k, cap, cur, hv, Nat.le_trans h.base.size hk, r⟩⟩
    exact h3.bar ((Bar.refl rb w2).set 0 lv') (fun k hk e => hne (by rw [hk, e]))
  · exact ((Bar.refl rb w2).set 0 lv').below h2.base h.lt h2.base.size
  · exact (Bar.of_below hb).trans ((Bar.refl rb w2).set 0 lv')
/-- What the reference's Add leaves. -/
def AddPost (w w0 : World) (rb : Nat) (room : Int) (lv : Value) (L : List Group) (g : Group) (e : Ending) (w' : World) : Prop :=
  e = .returned (.int .i64 (addR L room g.fID g.fKind (g.fBuckets.map coreB))) ∧ ((addR L room g.fID g.fKind (g.fBuckets.map coreB) ≠ 0 ∧ Below w.heap.size w w') ∨
    (addR L room g.fID g.fKind (g.fBuckets.map coreB) = 0 ∧ ∃ lv', RefW w' w0 rb room lv' (insF g L) ∧ Bar rb w w' ∧ ∀ k, lv'.ownBlock = some k → w.heap.size ≤ k))

set_option maxRecDepth 100000 in
set_option maxHeartbeats 16000000 in
theorem rAdd_any (w w0 : World) (rb : Nat) (room : Int) (hroom : room ≤ 64) (lv : Value) (L : List Group) (h : RefW w w0 rb room lv L) (g : Group) (hg : okGroup w0 g) :
    Calls Try.prog 16 #[.pointer (some ⟨rb, 0, none⟩), valGroup g] w (AddPost w w0 rb room lv L g) := by
  have hgw := okGroup_below hg h.base (Nat.le_refl _)
  have hgv := hgw.2.2.1.1.one
  have HOk : Hid (∀ W : World, Below w.heap.size w W → okGroup W g) := Lib.hid (fun W hb => okGroup_below hgw hb (Nat.le_refl _))
  have HT := Lib.hid h
  have HG0 := Lib.hid hg
  have HRt : Hid (∀ W : World, Below w.heap.size w W → _) := Lib.hid (fun W hb => rRight_any W g (HOk.out W hb))
  have HAt := Lib.hid (fun W (hb : Below w.heap.size w W) => rat_any W w0 rb room lv L (HT.out.below hb (Nat.le_refl _)) g.fID)
  have HTh := Lib.hid (fun hl W (hb : Below w.heap.size w W) => rthere_any W w0 rb room lv L (HT.out.below hb (Nat.le_refl _)) g (HOk.out W hb) hl)
  have HAi := Lib.hid (rAtF_in L g.fID)
  have HPost : Hid (∀ e w', AddPost w w0 rb room lv L g e w' ↔ _) := Lib.hid (fun e w' => Iff.of_eq (by unfold AddPost; rfl))
  have HA : Hid (addR L room g.fID g.fKind (g.fBuckets.map coreB) = _) := Lib.hid (by unfold addR; rfl)
  have HIns : Hid (∀ k dn out, InsI g L k dn out ↔ _) := Lib.hid (fun k dn out => Iff.of_eq (by unfold InsI; rfl))
  have hw1 : ∀ u ∈ encGroup g, u.oneCell' = true := by
    intro u hu; simp [encGroup] at hu; rcases hu with rfl | rfl | rfl <;> first | rfl | exact hgv
  have HW1 := Lib.hid hw1
  obtain ⟨la, lcap, hlv, hlcap, hlmax⟩ := h.row.slice
  subst hlv
  have hlen := h.len
  unfold maxLen at hlmax
  obtain ⟨gq, hgq⟩ : ∃ gq, gq = g := ⟨_, rfl⟩
  obtain ⟨gi, gk, gv, bs⟩ := g
  simp only at *
  clear hw1 hgw hg
  go_enter Try.func16, Try.ntmps16
  go_upto_region 1 with fail
  refine one_box_wp ?_
  intro W hb1 hbel hsz
  have K : Hid (KR w.heap.size w [(w.heap.size, 24, #[.int .i64 gi, .int .i64 gk, gv]), (rb, 52, #[.slice la L.length lcap, .int .i64 room])] W) := Lib.hid (((KR.start hbel hbel.size).add (h.tab.below hbel h.tab.lt)).add hb1)
  clear hb1 hbel hsz h
  go_wp2_with (first
    | (refine wpList_load_row rfl 24 _ rfl _ rfl _ _ _ _ (K.out.at 0 rfl) Try.underlying24 rfl (by kernel_rfl) ?_)
    | fail)
  refine (HRt.out _ K.out.below).mono ?_
  rintro e w1 ⟨rfl, hb1⟩
  replace K := Lib.hid (K.out.call hb1)
  clear hb1 HRt
  by_cases hw : wrongF gi gk (bs.map coreB) = 0
  · have HW0 := Lib.hid hw
    have HA2 := HA.out
    rw [hw] at HA2
    simp only [ne_eq, not_true, if_false] at HA2
    have HA3 := Lib.hid HA2
    rw [hw]
    clear HA HA2 hw
    have c0 := (K.out.at 0 rfl).cell 0 _ rfl
    go_wp2_with fail
    refine (HAt.out _ K.out.below).mono ?_
    rintro e w2 ⟨rfl, rfl⟩
    clear HAt c0
    cases hin : inL L gi with
    | true =>
      have t1 : decide (0 ≤ rAtF L gi) = true := by rw [HAi.out, hin]
      rw [if_pos hin] at HA3
      clear hin HAi
      generalize rAtF L gi = at0 at *
      go_wp2_with fail
      go_ret
      exact (HPost.out _ _).2 ⟨by rw [HA3.out]; rfl, .inl ⟨by rw [HA3.out]; decide, K.out.below⟩⟩
    | false =>
      have t1 : decide (0 ≤ rAtF L gi) = false := by rw [HAi.out, hin]
      rw [if_neg (by simp [hin])] at HA3
      clear hin HAi
      generalize rAtF L gi = at0 at *
      have HTh2 := Lib.hid (HTh.out (lead_ok HW0.out))
      clear HTh
      go_wp2_with (first
        | (refine wpList_load_row rfl 24 _ rfl _ rfl _ _ _ _ (K.out.at 0 rfl) Try.underlying24 rfl (by kernel_rfl) ?_)
        | fail)
      refine (HTh2.out _ K.out.below).mono ?_
      rintro e w3 ⟨rfl, hb3⟩
      replace K := Lib.hid (K.out.call hb3)
      clear hb3 HTh2 t1
      cases hwh : wholeR L (bs.map coreB) with
      | false =>
        rw [if_pos hwh] at HA3
        clear hwh
        go_wp2_with fail
        go_ret
        exact (HPost.out _ _).2 ⟨by rw [HA3.out]; rfl, .inl ⟨by rw [HA3.out]; decide, K.out.below⟩⟩
      | true =>
        rw [if_neg (by simp [hwh])] at HA3
        clear hwh
        by_cases hrm : room ≤ L.length
        · have t1 : decide (room ≤ (L.length : Int)) = true := decide_eq_true hrm
          rw [if_pos hrm] at HA3
          clear hrm
          haveI : Nonempty (Keep (KR w.heap.size w [(w.heap.size, 24, #[.int .i64 gi, .int .i64 gk, gv]), (rb, 52, #[.slice la L.length lcap, .int .i64 room])])) := ⟨⟨_, K.out⟩⟩
          have kc0 := fun q : Keep (KR w.heap.size w [(w.heap.size, 24, #[.int .i64 gi, .int .i64 gk, gv]), (rb, 52, #[.slice la L.length lcap, .int .i64 room])]) => (KR.at q.h 1 rfl).cell 0 _ rfl
          have kc1 := fun q : Keep (KR w.heap.size w [(w.heap.size, 24, #[.int .i64 gi, .int .i64 gk, gv]), (rb, 52, #[.slice la L.length lcap, .int .i64 room])]) => (KR.at q.h 1 rfl).cell 1 _ rfl
          go_upto_region 8 with fail
          refine wp_region_keep2 (Cl := KR w.heap.size w [(w.heap.size, 24, #[.int .i64 gi, .int .i64 gk, gv]), (rb, 52, #[.slice la L.length lcap, .int .i64 room])]) (by kernel_rfl) (by kernel_rfl) K.out.drew ?_
          intro y' hy'
          clear hy' K
          repeat
            first
              | (refine wpQ2_step (fun K hK => ?_)
                 go_simp
                 first
                   | (refine hK _ ?_; clear hK K)
                   | (apply Exists.intro
                      refine ⟨fun _ => ?_, hK _ ?_⟩
                      (rw [if_neg (by omega)]; exact ⟨rfl, rfl⟩)
                      clear hK K))
          refine wpQ2_nil ?_
          clear kc0 kc1
          intro Wk Kk
          have K := Lib.hid Kk
          clear Kk
          go_wp2_with fail
          go_ret
          exact (HPost.out _ _).2 ⟨by rw [HA3.out]; rfl, .inl ⟨by rw [HA3.out]; decide, K.out.below⟩⟩
        · have t1 : decide (room ≤ (L.length : Int)) = false := decide_eq_false hrm
          rw [if_neg hrm] at HA3
          have hl63 : L.length + 1 ≤ 64 := by omega
          have HL63 := Lib.hid hl63
          clear hrm hl63
          haveI : Nonempty (Keep (KR w.heap.size w [(w.heap.size, 24, #[.int .i64 gi, .int .i64 gk, gv]), (rb, 52, #[.slice la L.length lcap, .int .i64 room])])) := ⟨⟨_, K.out⟩⟩
          have kc0 := fun q : Keep (KR w.heap.size w [(w.heap.size, 24, #[.int .i64 gi, .int .i64 gk, gv]), (rb, 52, #[.slice la L.length lcap, .int .i64 room])]) => (KR.at q.h 1 rfl).cell 0 _ rfl
          have kc1 := fun q : Keep (KR w.heap.size w [(w.heap.size, 24, #[.int .i64 gi, .int .i64 gk, gv]), (rb, 52, #[.slice la L.length lcap, .int .i64 room])]) => (KR.at q.h 1 rfl).cell 1 _ rfl
          go_upto_region 8 with fail
          refine wp_region_keep2 (Cl := KR w.heap.size w [(w.heap.size, 24, #[.int .i64 gi, .int .i64 gk, gv]), (rb, 52, #[.slice la L.length lcap, .int .i64 room])]) (by kernel_rfl) (by kernel_rfl) K.out.drew ?_
          intro y' hy'
          clear hy' K
          repeat
            first
              | (refine wpQ2_step (fun K hK => ?_)
                 go_simp
                 first
                   | (refine hK _ ?_; clear hK K)
                   | (apply Exists.intro
                      refine ⟨fun _ => ?_, hK _ ?_⟩
                      (rw [if_neg (by omega)]; exact ⟨rfl, rfl⟩)
                      clear hK K))
          refine wpQ2_nil ?_
          clear kc0 kc1
          intro Wk Kk
          have K := Lib.hid Kk
          clear Kk
          go_wp2_with fail
          have HBs : Hid (w.heap.size + 1 ≤ _) := Lib.hid (K.out.at 0 rfl).lt
          obtain ⟨B, hB⟩ : ∃ B, B = w.heap.size + 1 := ⟨_, rfl⟩
          have HBq := Lib.hid hB
          have HBW : Hid (B ≤ Wk.heap.size) := Lib.hid (by rw [hB]; exact HBs.out)
          have HRbl : Hid (rb < w.heap.size) := Lib.hid HT.out.tab.lt
          have HNe : Hid (∀ (W : World) (ov : Value) {xs : List Group}, OwnL W B 24 3 encGroup ov xs → ∀ x ∈ [(w.heap.size, 24, #[.int .i64 gi, .int .i64 gk, gv]), (rb, 52, #[.slice la L.length lcap, .int .i64 room])], some x.1 ≠ ov.ownBlock) := Lib.hid (fun W ov xs ho x hx e => by
            have h1 := (ho.block _ e.symm).1
            have h2 := HBq.out
            have h3 := HRbl.out
            simp only [List.mem_cons, List.not_mem_nil, or_false] at hx
            rcases hx with rfl | rfl
            · simp only at h1; omega
            · simp only at h1; omega)
          have HGe : Hid (∀ (W : World) (ov : Value) {xs : List Group}, OwnL W B 24 3 encGroup ov xs → ∀ k, ov.ownBlock = some k → w.heap.size ≤ k) := Lib.hid (fun W ov xs ho k hk => by
            have h1 := (ho.block _ hk).1
            have h2 := HBq.out
            omega)
          clear hB HBs t1
          go_loopw [6, 7, 8] (fun ov dv iv wr => ∃ (k : Nat) (dn : Bool) (out : List Group), k ≤ L.length ∧ iv = .int .i64 k ∧ dv = .bool dn ∧ Hid (KR w.heap.size w [(w.heap.size, 24, #[.int .i64 gi, .int .i64 gk, gv]), (rb, 52, #[.slice la L.length lcap, .int .i64 room])] wr) ∧ Hid (OwnL wr B 24 3 encGroup ov out) ∧ Hid (InsI ⟨gi, gk, gv, bs⟩ L k dn out) ∧ Hid (out.length ≤ k + 1) ∧ Hid (∀ x ∈ out, x = ⟨gi, gk, gv, bs⟩ ∨ x ∈ L) ∧ Hid (B ≤ wr.heap.size)) (fun _ _ iv _ => L.length - (intOf iv).toNat)
          case atStart => exact ⟨0, false, [], Nat.zero_le _, rfl, rfl, K, Lib.hid (OwnL.nil _ _ _ _ _), Lib.hid (InsI.start _ _), Lib.hid (by simp), Lib.hid (by simp), HBW⟩
          case round =>
            obtain ⟨k, dn, out, hk, rfl, rfl, K, HO, HI, HOl, HOm, HBW⟩ := hrel
            by_cases hlt : k < L.length
            · have d2 : decide (k < L.length) = true := by simpa using hlt
              rcases ReadL.of_own HT.out.row encGroup_len with ⟨la', lcap', hlv', _, _, hnil | ⟨b, off, rfl, hblt, hcell⟩⟩
              · rw [hnil] at hlt; simp at hlt
              obtain ⟨rfl, rfl⟩ : la = some ⟨b, off, none⟩ ∧ lcap = lcap' := by simpa using hlv'
              have HRow := Lib.hid (fun W (hb : Below w.heap.size w W) => range_of hcell hb hblt k hlt)
              have hm := List.getElem_mem hlt
              have h1x : ∀ u ∈ encGroup L[k], u.oneCell' = true := by
                have := (HT.out.okAt hm).2.2.1.1.one
                intro u hu; simp [encGroup] at hu; rcases hu with rfl | rfl | rfl <;> first | rfl | exact this
              have HIput : Hid (dn = false → gi < L[k].fID → InsI ⟨gi, gk, gv, bs⟩ L (k + 1) true ((out ++ [⟨gi, gk, gv, bs⟩]) ++ [L[k]])) := Lib.hid (fun h hg => by subst h; exact HI.out.put hlt hg)
              have HIpass : Hid (dn = false → ¬ gi < L[k].fID → InsI ⟨gi, gk, gv, bs⟩ L (k + 1) false (out ++ [L[k]])) := Lib.hid (fun h hg => by subst h; exact HI.out.pass hlt hg)
              have HIon : Hid (dn = true → InsI ⟨gi, gk, gv, bs⟩ L (k + 1) true (out ++ [L[k]])) := Lib.hid (fun h => by subst h; exact HI.out.on hlt)
              have HOl1 := HOl.out
              have HOk1 : Hid (dn = false → out.length ≤ k) := Lib.hid (fun h => by subst h; rw [(HI.out.2 rfl).1]; exact List.length_take_le _ _)
              have HOm1 : Hid (∀ x ∈ out ++ [L[k]], x = ⟨gi, gk, gv, bs⟩ ∨ x ∈ L) := Lib.hid (fun x hx => by
                rcases List.mem_append.1 hx with hx | hx
                · exact HOm.out x hx
                · rw [List.mem_singleton.1 hx]; exact .inr hm)
              have HOm2 : Hid (∀ x ∈ (out ++ [⟨gi, gk, gv, bs⟩]) ++ [L[k]], x = ⟨gi, gk, gv, bs⟩ ∨ x ∈ L) := Lib.hid (fun x hx => by
                rcases List.mem_append.1 hx with hx | hx
                · rcases List.mem_append.1 hx with hx | hx
                  · exact HOm.out x hx
                  · exact .inl (List.mem_singleton.1 hx)
                · rw [List.mem_singleton.1 hx]; exact .inr hm)
              clear hcell hlv' hm HOm HI
              have HIdc : Hid (∀ W, Below w.heap.size w W → W.cell? ⟨b, off + k * 3, none⟩ = some (.int .i64 L[k].fID)) := Lib.hid (fun W hb => by
                have := HRow.out W hb 0 (.int .i64 L[k].fID) rfl
                simpa using this)
              generalize L[k] = x at *
              obtain ⟨xi, xk, xv, xb⟩ := x
              simp only [encGroup] at HRow
              simp only at HIdc HIput HIpass
              have t0 := (K.out.at 1 rfl).cell 0 _ rfl
              replace K := Lib.hid (KS.start K.out)
              have kcI := fun q : Keep (KS w.heap.size w [(w.heap.size, 24, #[.int .i64 gi, .int .i64 gk, gv]), (rb, 52, #[.slice (some ⟨b, off, none⟩) L.length lcap, .int .i64 room])] wr) => HIdc.out _ q.h.below
              cases dn with
              | true =>
                have HI2 := Lib.hid (HIon.out rfl)
                clear HIput HIpass HIon
                haveI : Nonempty (Keep (KS w.heap.size w [(w.heap.size, 24, #[.int .i64 gi, .int .i64 gk, gv]), (rb, 52, #[.slice (some ⟨b, off, none⟩) L.length lcap, .int .i64 room])] wr)) := ⟨⟨_, K.out⟩⟩
                have kc0 := fun q : Keep (KS w.heap.size w [(w.heap.size, 24, #[.int .i64 gi, .int .i64 gk, gv]), (rb, 52, #[.slice (some ⟨b, off, none⟩) L.length lcap, .int .i64 room])] wr) => (KS.at q.h 1 rfl).cell 0 _ rfl
                have kc1 := fun q : Keep (KS w.heap.size w [(w.heap.size, 24, #[.int .i64 gi, .int .i64 gk, gv]), (rb, 52, #[.slice (some ⟨b, off, none⟩) L.length lcap, .int .i64 room])] wr) => (KS.at q.h 0 rfl).cell 0 _ rfl
                go_upto_region 15 with fail
                refine wp_region_keep2 (Cl := KS w.heap.size w [(w.heap.size, 24, #[.int .i64 gi, .int .i64 gk, gv]), (rb, 52, #[.slice (some ⟨b, off, none⟩) L.length lcap, .int .i64 room])] wr) (by kernel_rfl) (by kernel_rfl) K.out.drew ?_
                intro y' hy'
                have g2_ := fun tmps => hy' tmps 2 44 rfl
                have gb_ := yl_bool
                clear hy' K
                repeat
                  first
                    | (refine wpQ2_step (fun K hK => ?_)
                       go_simp
                       first
                         | (refine hK _ ?_; clear hK K)
                         | (apply Exists.intro
                            refine ⟨fun _ => ?_, hK _ ?_⟩
                            (rw [if_neg (by omega)]; exact ⟨rfl, rfl⟩)
                            clear hK K))
                refine wpQ2_nil ?_
                clear kc0 kc1
                intro Wk Kk
                have K := Lib.hid Kk
                clear Kk
                clear gb_ g2_
                clear kcI
                replace HO := Lib.hid (HO.out.belowAll K.out.2)
                replace HBW := Lib.hid (Nat.le_trans HBW.out K.out.2.size)
                replace K := Lib.hid K.out.1
                have t0 := (K.out.at 1 rfl).cell 0 _ rfl
                have r1 := HRow.out _ K.out.below
                go_wp2_with (first
                  | (refine wpList_load_mid rfl 24 _ rfl _ _ rfl _ _ r1 Try.underlying24 rfl (by kernel_rfl) ?_)
                  | (at_builtin; refine app_at HO.out (⟨xi, xk, xv, xb⟩ : Group) Try.underlying49 groupInfo rfl (by decide) encGroup_len h1x rfl rfl rfl rfl ?c1 ?c2 HBW.out ?_)
                  | fail)
                case c1 => have := HOl.out; omega
                case c2 => have := HOl.out; omega
                intro g6 cap6 w6 hown6 hgrow6 _
                replace K := Lib.hid (K.out.grown hgrow6 (HNe.out _ _ HO.out) (HGe.out _ _ HO.out))
                have HBW6 := Lib.hid (Nat.le_trans HBW.out hgrow6.size)
                have HO6 := Lib.hid hown6
                clear hown6 hgrow6 HO t0 r1
                go_wp2_with fail
                go_roundw
                case rel => exact ⟨k + 1, true, out ++ [⟨xi, xk, xv, xb⟩], by omega, by go_num, rfl, K, HO6, HI2, Lib.hid (by simp; omega), HOm1, HBW6⟩
                case measure => simp [intOf]; omega
              | false =>
                by_cases hgx : gi < xi
                · have t2 : decide (gi < xi) = true := decide_eq_true hgx
                  have HI2 := Lib.hid (HIput.out rfl hgx)
                  clear HIput HIpass HIon hgx
                  haveI : Nonempty (Keep (KS w.heap.size w [(w.heap.size, 24, #[.int .i64 gi, .int .i64 gk, gv]), (rb, 52, #[.slice (some ⟨b, off, none⟩) L.length lcap, .int .i64 room])] wr)) := ⟨⟨_, K.out⟩⟩
                  have kc0 := fun q : Keep (KS w.heap.size w [(w.heap.size, 24, #[.int .i64 gi, .int .i64 gk, gv]), (rb, 52, #[.slice (some ⟨b, off, none⟩) L.length lcap, .int .i64 room])] wr) => (KS.at q.h 1 rfl).cell 0 _ rfl
                  have kc1 := fun q : Keep (KS w.heap.size w [(w.heap.size, 24, #[.int .i64 gi, .int .i64 gk, gv]), (rb, 52, #[.slice (some ⟨b, off, none⟩) L.length lcap, .int .i64 room])] wr) => (KS.at q.h 0 rfl).cell 0 _ rfl
                  go_upto_region 15 with fail
                  refine wp_region_keep2 (Cl := KS w.heap.size w [(w.heap.size, 24, #[.int .i64 gi, .int .i64 gk, gv]), (rb, 52, #[.slice (some ⟨b, off, none⟩) L.length lcap, .int .i64 room])] wr) (by kernel_rfl) (by kernel_rfl) K.out.drew ?_
                  intro y' hy'
                  have g2_ := fun tmps => hy' tmps 2 44 rfl
                  have gb_ := yl_bool
                  clear hy' K
                  repeat
                    first
                      | (refine wpQ2_step (fun K hK => ?_)
                         go_simp
                         first
                           | (refine hK _ ?_; clear hK K)
                           | (apply Exists.intro
                              refine ⟨fun _ => ?_, hK _ ?_⟩
                              (rw [if_neg (by omega)]; exact ⟨rfl, rfl⟩)
                              clear hK K))
                  refine wpQ2_nil ?_
                  clear kc0 kc1
                  intro Wk Kk
                  have K := Lib.hid Kk
                  clear Kk
                  clear gb_ g2_
                  clear kcI
                  replace HO := Lib.hid (HO.out.belowAll K.out.2)
                  replace HBW := Lib.hid (Nat.le_trans HBW.out K.out.2.size)
                  replace K := Lib.hid K.out.1
                  go_wp2_with (first
                    | (refine wpList_load_row rfl 24 _ rfl _ rfl _ _ _ _ (K.out.at 0 rfl) Try.underlying24 rfl (by kernel_rfl) ?_)
                    | (at_builtin; refine app_at HO.out (⟨gi, gk, gv, bs⟩ : Group) Try.underlying49 groupInfo rfl (by decide) encGroup_len HW1.out rfl rfl rfl rfl ?c1 ?c2 HBW.out ?_)
                    | fail)
                  case c1 => have := HOl.out; omega
                  case c2 => have := HOl.out; omega
                  intro g6 cap6 w6 hown6 hgrow6 _
                  replace K := Lib.hid (K.out.grown hgrow6 (HNe.out _ _ HO.out) (HGe.out _ _ HO.out))
                  replace HBW := Lib.hid (Nat.le_trans HBW.out hgrow6.size)
                  have HO6 := Lib.hid hown6
                  clear hown6 hgrow6 HO
                  replace HOl : Hid ((out ++ [(⟨gi, gk, gv, bs⟩ : Group)]).length ≤ k + 1) := Lib.hid (by have := HOk1.out trivial; simp; omega)
                  replace HO := HO6
                  clear HO6
                  have t0 := (K.out.at 1 rfl).cell 0 _ rfl
                  have r1 := HRow.out _ K.out.below
                  generalize hou : out ++ [(⟨gi, gk, gv, bs⟩ : Group)] = out2 at *
                  have HOu := Lib.hid hou
                  clear hou
                  generalize hq6 : (Value.slice (some ⟨g6, 0, none⟩) (out.length + 1) cap6) = ov6 at *
                  clear hq6
                  go_wp2_with (first
                    | (refine wpList_load_mid rfl 24 _ rfl _ _ rfl _ _ r1 Try.underlying24 rfl (by kernel_rfl) ?_)
                    | (at_builtin; refine app_at HO.out (⟨xi, xk, xv, xb⟩ : Group) Try.underlying49 groupInfo rfl (by decide) encGroup_len h1x rfl rfl rfl rfl ?c1 ?c2 HBW.out ?_)
                    | fail)
                  case c1 => have := HOl.out; omega
                  case c2 => have := HOl.out; omega
                  intro g7 cap7 w7 hown7 hgrow7 _
                  replace K := Lib.hid (K.out.grown hgrow7 (HNe.out _ _ HO.out) (HGe.out _ _ HO.out))
                  have HBW7 := Lib.hid (Nat.le_trans HBW.out hgrow7.size)
                  have HO7 := Lib.hid hown7
                  have hol2 := HOl.out
                  clear hown7 hgrow7 HO t0 r1
                  go_wp2_with fail
                  go_roundw
                  case rel => exact ⟨k + 1, true, out2 ++ [⟨xi, xk, xv, xb⟩], by omega, by go_num, rfl, K, HO7, HI2, Lib.hid (by simp; omega), HOm2, HBW7⟩
                  case measure => simp [intOf]; omega
                · have t2 : decide (gi < xi) = false := decide_eq_false hgx
                  have HI2 := Lib.hid (HIpass.out rfl hgx)
                  clear HIput HIpass HIon hgx
                  haveI : Nonempty (Keep (KS w.heap.size w [(w.heap.size, 24, #[.int .i64 gi, .int .i64 gk, gv]), (rb, 52, #[.slice (some ⟨b, off, none⟩) L.length lcap, .int .i64 room])] wr)) := ⟨⟨_, K.out⟩⟩
                  have kc0 := fun q : Keep (KS w.heap.size w [(w.heap.size, 24, #[.int .i64 gi, .int .i64 gk, gv]), (rb, 52, #[.slice (some ⟨b, off, none⟩) L.length lcap, .int .i64 room])] wr) => (KS.at q.h 1 rfl).cell 0 _ rfl
                  have kc1 := fun q : Keep (KS w.heap.size w [(w.heap.size, 24, #[.int .i64 gi, .int .i64 gk, gv]), (rb, 52, #[.slice (some ⟨b, off, none⟩) L.length lcap, .int .i64 room])] wr) => (KS.at q.h 0 rfl).cell 0 _ rfl
                  go_upto_region 15 with fail
                  refine wp_region_keep2 (Cl := KS w.heap.size w [(w.heap.size, 24, #[.int .i64 gi, .int .i64 gk, gv]), (rb, 52, #[.slice (some ⟨b, off, none⟩) L.length lcap, .int .i64 room])] wr) (by kernel_rfl) (by kernel_rfl) K.out.drew ?_
                  intro y' hy'
                  have g2_ := fun tmps => hy' tmps 2 44 rfl
                  have gb_ := yl_bool
                  clear hy' K
                  repeat
                    first
                      | (refine wpQ2_step (fun K hK => ?_)
                         go_simp
                         first
                           | (refine hK _ ?_; clear hK K)
                           | (apply Exists.intro
                              refine ⟨fun _ => ?_, hK _ ?_⟩
                              (rw [if_neg (by omega)]; exact ⟨rfl, rfl⟩)
                              clear hK K))
                  refine wpQ2_nil ?_
                  clear kc0 kc1
                  intro Wk Kk
                  have K := Lib.hid Kk
                  clear Kk
                  clear gb_ g2_
                  clear kcI
                  replace HO := Lib.hid (HO.out.belowAll K.out.2)
                  replace HBW := Lib.hid (Nat.le_trans HBW.out K.out.2.size)
                  replace K := Lib.hid K.out.1
                  have t0 := (K.out.at 1 rfl).cell 0 _ rfl
                  have r1 := HRow.out _ K.out.below
                  go_wp2_with (first
                    | (refine wpList_load_mid rfl 24 _ rfl _ _ rfl _ _ r1 Try.underlying24 rfl (by kernel_rfl) ?_)
                    | (at_builtin; refine app_at HO.out (⟨xi, xk, xv, xb⟩ : Group) Try.underlying49 groupInfo rfl (by decide) encGroup_len h1x rfl rfl rfl rfl ?c1 ?c2 HBW.out ?_)
                    | fail)
                  case c1 => have := HOl.out; omega
                  case c2 => have := HOl.out; omega
                  intro g6 cap6 w6 hown6 hgrow6 _
                  replace K := Lib.hid (K.out.grown hgrow6 (HNe.out _ _ HO.out) (HGe.out _ _ HO.out))
                  have HBW6 := Lib.hid (Nat.le_trans HBW.out hgrow6.size)
                  have HO6 := Lib.hid hown6
                  clear hown6 hgrow6 HO t0 r1
                  go_wp2_with fail
                  go_roundw
                  case rel => exact ⟨k + 1, false, out ++ [⟨xi, xk, xv, xb⟩], by omega, by go_num, rfl, K, HO6, HI2, Lib.hid (by simp; omega), HOm1, HBW6⟩
                  case measure => simp [intOf]; omega
            · have d2 : decide (k < L.length) = false := by simpa using hlt
              have t0 := (K.out.at 1 rfl).cell 0 _ rfl
              have hlen2 : (insF ⟨gi, gk, gv, bs⟩ L).length ≤ 64 := by rw [insF_len]; exact HL63.out
              have hokn : ∀ x ∈ insF (⟨gi, gk, gv, bs⟩ : Group) L, okGroup w0 x := fun x hx => by
                rcases insF_mem.1 hx with rfl | hx
                · exact HG0.out
                · exact HT.out.ok x hx
              have HFin : Hid (∀ (W : World) (ov : Value), Below w.heap.size w W → OwnL W B 24 3 encGroup ov (insF ⟨gi, gk, gv, bs⟩ L) → AddPost w w0 rb room (.slice la L.length lcap) L ⟨gi, gk, gv, bs⟩ (.returned (.int .i64 0)) (W.setCell ⟨rb, 0, none⟩ ov)) := Lib.hid (fun W ov hb ho => by
                have ho2 : OwnL W w.heap.size 24 3 encGroup ov (insF ⟨gi, gk, gv, bs⟩ L) := by
                  rcases ho.2 with ⟨hv, h0⟩ | ⟨q, cap, cur, hv, hq, r⟩
                  · exact ⟨ho.1, .inl ⟨hv, h0⟩⟩
                  · exact ⟨ho.1, .inr ⟨q, cap, cur, hv, by have := HBq.out; omega, r⟩⟩
                obtain ⟨hR, hBar⟩ := HT.out.put hb ho2 hokn hlen2 rfl
                exact (HPost.out _ _).2 ⟨by rw [HA3.out], .inr ⟨HA3.out, ov, hR, hBar, fun q hq => (ho2.block q hq).1⟩⟩)
              have HI1 := HI.out
              have hkl : L.drop k = [] := List.drop_eq_nil_of_le (by omega)
              have hrl := (K.out.at 1 rfl).lt
              have f0 := (K.out.at 1 rfl).frozen 0
              clear hlen2 hokn HPost HA3 HIns
              cases dn with
              | true =>
                have he : out = insF ⟨gi, gk, gv, bs⟩ L := by
                  have := HI1.1 rfl
                  rwa [hkl, List.append_nil] at this
                rw [he] at HO
                obtain ⟨oa, oc, hov, _, _⟩ := HO.out.slice
                subst hov
                have HF2 := Lib.hid (HFin.out wr _ K.out.below HO.out)
                clear he HI1 HI hkl HFin
                go_wp2_with fail
                go_ret
                exact HF2.out
              | false =>
                obtain ⟨ho1, ho2⟩ := HI1.2 rfl
                rw [hkl, insF, List.take_of_length_le (by omega)] at ho2
                rw [List.take_of_length_le (by omega)] at ho1
                have he : out ++ [⟨gi, gk, gv, bs⟩] = insF ⟨gi, gk, gv, bs⟩ L := by rw [ho1, ho2]
                have HEq := Lib.hid he
                clear he HI1 HI hkl ho1 ho2 hrl f0
                go_wp2_with (first
                  | (refine wpList_load_row rfl 24 _ rfl _ rfl _ _ _ _ (K.out.at 0 rfl) Try.underlying24 rfl (by kernel_rfl) ?_)
                  | (at_builtin; refine app_at HO.out (⟨gi, gk, gv, bs⟩ : Group) Try.underlying49 groupInfo rfl (by decide) encGroup_len HW1.out rfl rfl rfl rfl ?c1 ?c2 HBW.out ?_)
                  | fail)
                case c1 => have := HOl.out; omega
                case c2 => have := HOl.out; omega
                intro g6 cap6 w6 hown6 hgrow6 _
                replace K := Lib.hid (K.out.grown hgrow6 (HNe.out _ _ HO.out) (HGe.out _ _ HO.out))
                have HO6 := Lib.hid hown6
                clear hown6 hgrow6 HO
                clear t0
                rw [HEq.out] at HO6
                have HF2 := Lib.hid (HFin.out w6 _ K.out.below HO6.out)
                have t0 := (K.out.at 1 rfl).cell 0 _ rfl
                have hrl := (K.out.at 1 rfl).lt
                have f0 := (K.out.at 1 rfl).frozen 0
                clear HFin HEq HO6
                go_wp2_with fail
                go_ret
                exact HF2.out
  · have hne : (wrongF gi gk (bs.map coreB) != 0) = true := by simpa using hw
    have HA2 : Hid (addR L room gi gk (bs.map coreB) = wrongF gi gk (bs.map coreB)) := Lib.hid (by rw [HA.out, if_pos hw])
    have HNe := Lib.hid hw
    clear HA hw
    obtain ⟨X, hX⟩ : ∃ X, X = wrongF gi gk (bs.map coreB) := ⟨_, rfl⟩
    rw [← hX] at hne HA2 HNe ⊢
    clear hX
    go_wp2_with fail
    go_ret
    exact (HPost.out _ _).2 ⟨by rw [HA2.out]; rfl, .inl ⟨by rw [HA2.out]; exact HNe.out, K.out.below⟩⟩
end Go.Proofs.Ytfjngecgfmlnfaa
