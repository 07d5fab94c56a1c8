/- GroupPlays: what each call answers, and which groups there are, call by call. -/
import Derived.Test.YtfjngecgfmlnfaaPlaysJ
import Derived.Test.YtfjngecgfmlnfaaAwake10
namespace Go.Proofs.Ytfjngecgfmlnfaa
open Go.RowKit Go.Maps
set_option linter.unusedVariables false
set_option linter.unusedSimpArgs false

def PlayS (B : Nat) (w : World) (lst : List (Nat × TypeId × Array Value)) (tb mb : Nat) (room : Int) (l : List (Int × Group)) (rb : Nat) (lv : Value) (L : List Group) (wr W : World) : Prop := KS B w lst wr W ∧ TableW W tb mb room l ∧ RefW W w rb room lv L
section
variable {B tb mb rb : Nat} {w wr W W' : World} {lst : List (Nat × TypeId × Array Value)} {room : Int} {l : List (Int × Group)} {lv : Value} {L : List Group}
theorem PlayS.at (h : PlayS B w lst tb mb room l rb lv L wr W) (i : Nat) {g : Nat} {t : TypeId} {cs : Array Value} (hi : lst[i]? = some (g, t, cs)) : BlkAt W g t cs := h.1.at i hi
theorem PlayS.drew (h : PlayS B w lst tb mb room l rb lv L wr W) : PlayS B w lst tb mb room l rb lv L wr W.drew := ⟨h.1.drew, h.2.1.drew, h.2.2.below (Below.refl _ _).drew (Nat.le_refl _)⟩
theorem PlayS.call (h : PlayS B w lst tb mb room l rb lv L wr W) (hb : Below W.heap.size W W') : PlayS B w lst tb mb room l rb lv L wr W' := ⟨h.1.call hb, h.2.1.below hb (Nat.le_refl _), h.2.2.below hb (Nat.le_refl _)⟩
end
theorem room_len {room : Int} {l : List (Int × Group)} (h : TabI l room) : l.length ≤ 1000 := by have := h.ok.1; omega

set_option maxRecDepth 100000 in
set_option maxHeartbeats 32000000 in
theorem GroupPlays_walk (w : World) (room : Int) (hroom : (Lit.int .i64 room).wf = true) (ov : Value) (ops : List GOp) (hops : ReadL w 4 encGOp ov ops) (hok : ∀ x ∈ ops, okGOp w x) :
    Calls Try.prog 5 #[.int .i64 room, ov] w fun x w' => x = .returned (.bool true) ∧ Below w.heap.size w w' := by
  have HA := Lib.hid awake10
  obtain ⟨oa, ocap, hov, hocap, homax, hoc⟩ := hops
  subst hov
  unfold maxLen at homax
  have HOC := Lib.hid hoc
  have HOk := Lib.hid (fun k (hk : k < ops.length) => (hok _ (List.getElem_mem hk)).2.1)
  clear hoc hok
  cases hr : okRoom room with
  | false =>
    have HNw := Lib.hid (New_none w room hr)
    have HRw := Lib.hid (fun W => rNew_none W room hr)
    clear hr
    go_enter Try.func5, Try.ntmps5
    go_wp2_with fail
    refine HNw.out.mono ?_
    rintro e w1 ⟨rfl, hb1⟩
    have HB := Lib.hid hb1
    clear hb1 HNw
    go_wp2_with fail
    refine (HRw.out _).mono ?_
    rintro e w2 ⟨rfl, hb2⟩
    replace HB := Lib.hid (HB.out.trans (hb2.mono HB.out.size))
    clear hb2
    go_wp2_with fail
    refine (HA.out _).mono ?_
    rintro e w3 ⟨rfl, hb3⟩
    replace HB := Lib.hid (HB.out.trans (hb3.mono HB.out.size))
    clear hb3
    go_wp2_with fail
    go_ret
    exact ⟨rfl, HB.out⟩
  | true =>
    have HNw := Lib.hid (New_any w room hr)
    have HRw := Lib.hid (fun W => rNew_any W room hr)
    simp only [okRoom, Bool.and_eq_true, decide_eq_true_eq] at hr
    have hr1 := hr.1
    have hr2 := hr.2
    clear hr
    go_enter Try.func5, Try.ntmps5
    go_wp2_with fail
    refine HNw.out.mono ?_
    rintro e w1 ⟨tb, mb, rfl, hmb, hT, hb1⟩
    have HT := Lib.hid hT
    have HB := Lib.hid hb1
    have HMb := Lib.hid hmb
    have HI := Lib.hid (TabI.nil hr1)
    clear hb1 hT hmb HNw
    go_wp2_with fail
    refine (HRw.out _).mono ?_
    rintro e w2 ⟨rfl, hrt, hb2⟩
    have HRf : Hid (RefW w2 w w1.heap.size room (.slice none 0 0) []) := Lib.hid ⟨hrt, OwnL.nil _ _ _ _ _, by simp, by simp, HB.out.trans (hb2.mono HB.out.size), HB.out.size⟩
    replace HT := Lib.hid (HT.out.below hb2 (Nat.le_refl _))
    generalize w1.heap.size = rb at *
    clear hrt hb2 HRw HB
    go_wp2_with fail
    go_loopw [9] (fun iv wr => ∃ (k : Nat) (l : List (Int × Group)) (L : List Group) (lv : Value), k ≤ ops.length ∧ k ≤ 60 ∧ iv = .int .i64 k ∧ Hid (TableW wr tb mb room l) ∧ Hid (TabI l room) ∧ Hid (RefW wr w rb room lv L) ∧ Hid (RelT l L) ∧ Hid (TabStay wr mb rb lv l)) (fun iv _ => ops.length - (intOf iv).toNat)
    case atStart => exact ⟨0, [], [], .slice none 0 0, Nat.zero_le _, Nat.zero_le _, rfl, HT, HI, HRf, Lib.hid RelT.nil, Lib.hid (TabStay.nil _ _ _ _)⟩
    case round =>
      obtain ⟨k, l, L, lv, hk, hk40, rfl, HT, HI, HRf, HRel, HSt⟩ := hrel
      have HB := Lib.hid HRf.out.base
      by_cases hlt : k < ops.length ∧ k < 60
      · obtain ⟨hlt, h40⟩ := hlt
        have d2 : decide (k < ops.length) = true := by simpa using hlt
        have d3 : decide ((k : Int) < 60) = true := decide_eq_true (by omega)
        rcases HOC.out with hnil | ⟨b, off, rfl, hblt, hcell⟩
        · rw [hnil] at hlt; simp at hlt
        have HR0 := Lib.hid (fun W (hb : Below w.heap.size w W) => range_of hcell hb hblt k hlt)
        have HRg : Hid (∀ W, Below w.heap.size w W → W.rangeAt b (off + k * 4 + 1) [.int .i64 ops[k].fGroup.fID, .int .i64 ops[k].fGroup.fKind, ops[k].fGroup.vBuckets]) := Lib.hid (fun W hb j v hv => by
          have := HR0.out W hb (j + 1) v (by simpa [encGOp] using hv)
          rwa [show off + k * 4 + 1 + j = off + k * 4 + (j + 1) by omega])
        have HAsk : Hid (∀ W, Below w.heap.size w W → W.cell? ⟨b, off + k * 4, none⟩ = some (.int .i64 ops[k].fAsk)) := Lib.hid (fun W hb => by
          have := HR0.out W hb 0 (.int .i64 ops[k].fAsk) rfl
          simpa using this)
        have HG0 := Lib.hid (HOk.out k hlt)
        clear hcell HOC HOk HR0
        generalize ops[k] = x at *
        obtain ⟨ask, g⟩ := x
        simp only at HRg HAsk HG0
        have HG := Lib.hid (fun W (hb : Below w.heap.size w W) => okGroup_below HG0.out hb (Nat.le_refl _))
        have HFew := Lib.hid (fun W hb => few_any W g (HG.out W hb))
        have hgv := HG0.out.2.2.1.1.one
        have HId : Hid (wfI g.fID) := Lib.hid HG0.out.1
        obtain ⟨gq, hgq⟩ : ∃ gq, gq = g := ⟨_, rfl⟩
        have HGq := Lib.hid hgq
        clear hgq
        have r1 := HRg.out _ HB.out
        have hx2 : ∀ u ∈ #[Value.int .i64 g.fID, Value.int .i64 g.fKind, g.vBuckets].toList, u.oneCell' = true := by
          intro u hu; simp at hu; rcases hu with rfl | rfl | rfl <;> first | rfl | exact hgv
        have K : Hid (KR w.heap.size w [] wr) := Lib.hid (KR.start HB.out HB.out.size)
        have HWr : Hid (mb < wr.heap.size ∧ rb < wr.heap.size ∧ (∀ q, lv.ownBlock = some q → q < wr.heap.size ∧ w.heap.size ≤ q) ∧ w.heap.size ≤ rb) := Lib.hid ⟨HT.out.map.lt, HRf.out.tab.lt, fun q hq => ⟨(HRf.out.row.block q hq).2, (HRf.out.row.block q hq).1⟩, HRf.out.lt⟩
        go_wp2_with (first
          | (refine wpList_load_mid rfl 24 _ rfl _ _ rfl _ _ r1 Try.underlying24 rfl (by kernel_rfl) ?_)
          | (refine wpList_store_row rfl 24 _ _ rfl _ rfl #[.int .i64 g.fID, .int .i64 g.fKind, g.vBuckets] rfl _ _ ((K.out.box _ _).at 0 rfl) rfl (by kernel_rfl) hx2 ?_)
          | fail)
        intro Wi hbi hbari
        have HbW : Hid (Below wr.heap.size wr Wi) := Lib.hid (hbari.below ((Below.refl _ _).alloc (Nat.le_refl _) _) (Nat.le_refl _) (by simp))
        replace K := Lib.hid (K.out.into hbari hbi)
        replace HT := Lib.hid (HT.out.below HbW.out (Nat.le_refl _))
        replace HRf := Lib.hid (HRf.out.below HbW.out (Nat.le_refl _))
        replace HSt := Lib.hid (HSt.out.step (agree_below HbW.out) (fun q hq => .inl hq.symm))
        clear hbi hbari HbW r1 HB
        generalize wr.heap.size = gb at *
        go_wp2_with (first
          | (refine wpList_load_row rfl 24 _ rfl _ rfl _ _ _ _ (K.out.at 0 rfl) Try.underlying24 rfl (by kernel_rfl) ?_)
          | fail)
        refine (HFew.out _ K.out.below).mono ?_
        rintro e w2 ⟨rfl, hb2⟩
        replace HT := Lib.hid (HT.out.below hb2 (Nat.le_refl _))
        replace HRf := Lib.hid (HRf.out.below hb2 (Nat.le_refl _))
        replace HSt := Lib.hid (HSt.out.step (agree_below hb2) (fun q hq => .inl hq.symm))
        replace K := Lib.hid (K.out.call hb2)
        clear hb2 HFew
        cases hf : fewF g with
        | false =>
          clear hf
          go_wp2_with fail
          refine (HA.out _).mono ?_
          rintro e w3 ⟨rfl, hb3⟩
          replace K := Lib.hid (K.out.call hb3)
          clear hb3
          go_wp2_with fail
          go_ret
          exact ⟨rfl, K.out.below⟩
        | true =>
          clear hf
          have a1 := HAsk.out _ K.out.below
          have HNx : Hid (∀ q, mb = q ∨ rb = q ∨ lv.ownBlock = some q → ∀ y ∈ [(gb, 24, #[Value.int .i64 g.fID, .int .i64 g.fKind, g.vBuckets])], y.1 ≠ q) := Lib.hid (fun q hq y hy e => by
            rw [List.mem_singleton.1 hy] at e
            simp only at e
            obtain ⟨h1, h2, h3, _⟩ := HWr.out
            rcases hq with h | h | h
            · omega
            · omega
            · have := (h3 q h).1; omega)
          have hin : True := trivial
          rcases (by by_cases h0 : ask = 0; exact .inl h0; by_cases h1 : ask = 1; exact .inr (.inl ⟨h0, h1⟩); exact .inr (.inr ⟨h0, h1⟩) : ask = 0 ∨ (ask ≠ 0 ∧ ask = 1) ∨ (ask ≠ 0 ∧ ask ≠ 1)) with h0 | ⟨h0, h1⟩ | ⟨h0, h1⟩
          case' inl =>
            have t0 : (ask == 0) = true := by simpa using h0
            have HAd := Lib.hid (Add_any w2 tb mb room l HT.out g (HG.out _ K.out.below) (room_len HI.out))
            clear h0
            go_wp2_with (first
              | (refine wpList_load_row rfl 24 _ rfl _ rfl _ _ _ _ (K.out.at 0 rfl) Try.underlying24 rfl (by kernel_rfl) ?_)
              | fail)
            refine HAd.out.mono ?_
            rintro e w3 ⟨rfl, hg3, hq3⟩
            have HRf3 := Lib.hid (HRf.out.grown HT.out.map HMb.out hg3)
            have HSt3 := Lib.hid (HSt.out.step (agree_grown hg3) (fun q hq => .inl hq.symm))
            replace K := Lib.hid (K.out.grown hg3 (fun y hy e => HNx.out mb (.inl rfl) y hy (by simpa using e)) (fun q hq => by cases hq; exact HMb.out))
            have HZ : Hid (addR L room g.fID g.fKind (g.fBuckets.map coreB) = addF l room g.fID g.fKind (g.fBuckets.map coreB)) := Lib.hid (HRel.out.addEq HI.out _ _ _)
            have HX : Hid (∃ l', TableW w3 tb mb room l' ∧ TabI l' room ∧ TabStay w3 mb rb lv l' ∧ (addF l room g.fID g.fKind (g.fBuckets.map coreB) ≠ 0 → l' = l) ∧ (addF l room g.fID g.fKind (g.fBuckets.map coreB) = 0 → RelT l' (insF g L))) := Lib.hid (by
              rcases hq3 with ⟨hne, h⟩ | ⟨he, g', hc, hgn, h⟩
              · exact ⟨l, h, HI.out, HSt3.out, fun _ => rfl, fun h0 => absurd h0 hne⟩
              · exact ⟨_, h, HI.out.add hr2 he hc, HSt3.out.put hgn HT.out.map.lt HRf.out.tab.lt (fun q hq => (HRf.out.row.block q hq).2) (fun p hp => by
                  rcases List.mem_append.1 hp with hp | hp
                  · exact .inl hp
                  · exact .inr (by rw [List.mem_singleton.1 hp])), fun hne => absurd he hne, fun _ => HRel.out.add HI.out he hc⟩)
            have HAr := Lib.hid (rAdd_any w3 w rb room hr2 lv L HRf3.out g HG0.out)
            unfold AddPost at HAr
            clear hg3 hq3 HAd HT HSt
            rw [HZ.out] at HAr
            generalize addF l room g.fID g.fKind (g.fBuckets.map coreB) = z at *
            go_wp2_with (first
              | (refine wpList_load_row rfl 24 _ rfl _ rfl _ _ _ _ (K.out.at 0 rfl) Try.underlying24 rfl (by kernel_rfl) ?_)
              | fail)
            refine HAr.out.mono ?_
            rintro e w4 ⟨he4, hq4⟩
            subst he4
            obtain ⟨l', hT3, hI3, hS3, hz1, hz2⟩ := HX.out
            have HP : Hid (∃ (L' : List Group) (lv' : Value), TableW w4 tb mb room l' ∧ RefW w4 w rb room lv' L' ∧ RelT l' L' ∧ TabStay w4 mb rb lv' l' ∧ KR w.heap.size w [(gb, 24, #[.int .i64 g.fID, .int .i64 g.fKind, g.vBuckets])] w4) := Lib.hid (by
              rcases hq4 with ⟨hne, hb⟩ | ⟨he, lv', hR, hbar, hnew⟩
              · have hll := hz1 hne
                subst hll
                exact ⟨L, lv, hT3.below hb (Nat.le_refl _), HRf3.out.below hb (Nat.le_refl _), HRel.out, hS3.step (agree_below hb) (fun q hq => .inl hq.symm), K.out.call hb⟩
              · exact ⟨_, lv', hT3.agree HRf3.out hS3 HMb.out rb (.inl rfl) hbar, hR, hz2 he, hS3.step (agree_rb hbar) (fun q hq => .inr (hnew q hq)), K.out.barOut hbar HWr.out.2.2.2 (fun y hy => HNx.out rb (.inr (.inl rfl)) y hy)⟩)
            have HI4 := Lib.hid hI3
            clear K hT3 hI3 hS3 hz1 hz2
            clear HAr HX HRf3 HSt3 HRf HI HRel HZ hq4
          case' inr.inl =>
            have t0 : (ask == 0) = false := by simpa using h0
            have t1 : (ask == 1) = true := by simpa using h1
            have HAd := Lib.hid (Modify_any w2 tb mb room l HT.out HI.out.ok g (HG.out _ K.out.below))
            clear h0 h1
            go_wp2_with (first
              | (refine wpList_load_row rfl 24 _ rfl _ rfl _ _ _ _ (K.out.at 0 rfl) Try.underlying24 rfl (by kernel_rfl) ?_)
              | fail)
            refine HAd.out.mono ?_
            rintro e w3 ⟨rfl, hg3, hq3⟩
            have HRf3 := Lib.hid (HRf.out.grown HT.out.map HMb.out hg3)
            have HSt3 := Lib.hid (HSt.out.step (agree_grown hg3) (fun q hq => .inl hq.symm))
            replace K := Lib.hid (K.out.grown hg3 (fun y hy e => HNx.out mb (.inl rfl) y hy (by simpa using e)) (fun q hq => by cases hq; exact HMb.out))
            have HZ : Hid (modR L g.fID g.fKind (g.fBuckets.map coreB) = modF l g.fID g.fKind (g.fBuckets.map coreB)) := Lib.hid (HRel.out.modEq HI.out _ _ _)
            have HX : Hid (∃ l', TableW w3 tb mb room l' ∧ TabI l' room ∧ TabStay w3 mb rb lv l' ∧ (modF l g.fID g.fKind (g.fBuckets.map coreB) ≠ 0 → l' = l) ∧ (modF l g.fID g.fKind (g.fBuckets.map coreB) = 0 → RelT l' (L.set (rAtF L g.fID).toNat g))) := Lib.hid (by
              rcases hq3 with ⟨hne, h⟩ | ⟨he, g', hc, hgn, h⟩
              · exact ⟨l, h, HI.out, HSt3.out, fun _ => rfl, fun h0 => absurd h0 hne⟩
              · have his : inL L g.fID = true := by
                  rw [HRel.out.inL HI.out]
                  unfold modF at he
                  split at he
                  · rename_i hw; exact absurd he hw
                  · split at he
                    · cases he
                    · rename_i hl
                      cases hq : (lookL l g.fID).isSome with
                      | true => rfl
                      | false => exact absurd hq hl
                exact ⟨_, h, HI.out.modify he hc, HSt3.out.put hgn HT.out.map.lt HRf.out.tab.lt (fun q hq => (HRf.out.row.block q hq).2) (fun p hp => by
                  rcases putL_mem hp with hp | hp
                  · exact .inl hp
                  · exact .inr (by rw [hp])), fun hne => absurd he hne, fun _ => HRel.out.modify HI.out his hc⟩)
            have HAr := Lib.hid (rModify_any w3 w rb room lv L HRf3.out (HRel.out.refOk HI.out) (HRel.out.wholeL HI.out) g HG0.out)
            unfold ModPost at HAr
            clear hg3 hq3 HAd HT HSt
            rw [HZ.out] at HAr
            generalize modF l g.fID g.fKind (g.fBuckets.map coreB) = z at *
            go_wp2_with (first
              | (refine wpList_load_row rfl 24 _ rfl _ rfl _ _ _ _ (K.out.at 0 rfl) Try.underlying24 rfl (by kernel_rfl) ?_)
              | fail)
            refine HAr.out.mono ?_
            rintro e w4 ⟨he4, hq4⟩
            subst he4
            obtain ⟨l', hT3, hI3, hS3, hz1, hz2⟩ := HX.out
            have HP : Hid (∃ (L' : List Group) (lv' : Value), TableW w4 tb mb room l' ∧ RefW w4 w rb room lv' L' ∧ RelT l' L' ∧ TabStay w4 mb rb lv' l' ∧ KR w.heap.size w [(gb, 24, #[.int .i64 g.fID, .int .i64 g.fKind, g.vBuckets])] w4) := Lib.hid (by
              rcases hq4 with ⟨hne, hb⟩ | ⟨he, hR, hbar⟩
              · have hll := hz1 hne
                subst hll
                exact ⟨L, lv, hT3.below hb (Nat.le_refl _), HRf3.out.below hb (Nat.le_refl _), HRel.out, hS3.step (agree_below hb) (fun q hq => .inl hq.symm), K.out.call hb⟩
              · obtain ⟨q, hq, hbar⟩ := hbar
                exact ⟨_, lv, hT3.agree HRf3.out hS3 HMb.out q (.inr hq.symm) hbar, hR, hz2 he, hS3.step (agree_row hq hbar) (fun q hq => .inl hq.symm), K.out.barOut hbar (HWr.out.2.2.1 q hq).2 (fun y hy => HNx.out q (.inr (.inr hq)) y hy)⟩)
            have HI4 := Lib.hid hI3
            clear K hT3 hI3 hS3 hz1 hz2
            clear HAr HX HRf3 HSt3 HRf HI HRel HZ hq4
          case' inr.inr =>
            have t0 : (ask == 0) = false := by simpa using h0
            have t1 : (ask == 1) = false := by simpa using h1
            have c0 := (K.out.at 0 rfl).cell 0 _ rfl
            have HAd := Lib.hid (Delete_any w2 tb mb room l HT.out HI.out.ok g.fID HId.out)
            clear h0 h1
            go_wp2_with (first
              | (refine wpList_load_row rfl 24 _ rfl _ rfl _ _ _ _ (K.out.at 0 rfl) Try.underlying24 rfl (by kernel_rfl) ?_)
              | fail)
            refine HAd.out.mono ?_
            rintro e w3 ⟨rfl, hg3, hq3⟩
            have HRf3 := Lib.hid (HRf.out.grown HT.out.map HMb.out hg3)
            have HSt3 := Lib.hid (HSt.out.step (agree_grown hg3) (fun q hq => .inl hq.symm))
            replace K := Lib.hid (K.out.grown hg3 (fun y hy e => HNx.out mb (.inl rfl) y hy (by simpa using e)) (fun q hq => by cases hq; exact HMb.out))
            have HZ : Hid (delR L g.fID = delF l g.fID) := Lib.hid (HRel.out.delEq HI.out _)
            have HX : Hid (∃ l', TableW w3 tb mb room l' ∧ TabI l' room ∧ TabStay w3 mb rb lv l' ∧ (delF l g.fID ≠ 0 → l' = l) ∧ (delF l g.fID = 0 → RelT l' (L.eraseIdx (rAtF L g.fID).toNat))) := Lib.hid (by
              rcases hq3 with ⟨hne, h⟩ | ⟨he, h⟩
              · exact ⟨l, h, HI.out, HSt3.out, fun _ => rfl, fun h0 => absurd h0 hne⟩
              · have his : inL L g.fID = true := by
                  rw [HRel.out.inL HI.out]
                  unfold delF at he
                  split at he
                  · cases he
                  · rename_i hl
                    cases hq : (lookL l g.fID).isSome with
                    | true => rfl
                    | false => exact absurd hq hl
                exact ⟨_, h, HI.out.delete he, fun p hp => HSt3.out p (delL_mem hp).1, fun hne => absurd he hne, fun _ => HRel.out.delete HI.out his⟩)
            have HAr := Lib.hid (rDelete_any w3 w rb room lv L HRf3.out (HRel.out.refOk HI.out) g.fID)
            unfold DelPost at HAr
            clear hg3 hq3 HAd HT HSt c0
            have c0 := (K.out.at 0 rfl).cell 0 _ rfl
            rw [HZ.out] at HAr
            generalize delF l g.fID = z at *
            go_wp2_with (first
              | (refine wpList_load_row rfl 24 _ rfl _ rfl _ _ _ _ (K.out.at 0 rfl) Try.underlying24 rfl (by kernel_rfl) ?_)
              | fail)
            refine HAr.out.mono ?_
            rintro e w4 ⟨he4, hq4⟩
            subst he4
            obtain ⟨l', hT3, hI3, hS3, hz1, hz2⟩ := HX.out
            have HP : Hid (∃ (L' : List Group) (lv' : Value), TableW w4 tb mb room l' ∧ RefW w4 w rb room lv' L' ∧ RelT l' L' ∧ TabStay w4 mb rb lv' l' ∧ KR w.heap.size w [(gb, 24, #[.int .i64 g.fID, .int .i64 g.fKind, g.vBuckets])] w4) := Lib.hid (by
              rcases hq4 with ⟨hne, hb⟩ | ⟨he, lv', hR, hbar, hnew⟩
              · have hll := hz1 hne
                subst hll
                exact ⟨L, lv, hT3.below hb (Nat.le_refl _), HRf3.out.below hb (Nat.le_refl _), HRel.out, hS3.step (agree_below hb) (fun q hq => .inl hq.symm), K.out.call hb⟩
              · exact ⟨_, lv', hT3.agree HRf3.out hS3 HMb.out rb (.inl rfl) hbar, hR, hz2 he, hS3.step (agree_rb hbar) (fun q hq => .inr (hnew q hq)), K.out.barOut hbar HWr.out.2.2.2 (fun y hy => HNx.out rb (.inr (.inl rfl)) y hy)⟩)
            have HI4 := Lib.hid hI3
            clear K hT3 hI3 hS3 hz1 hz2
            clear HAr HX HRf3 HSt3 HRf HI HRel HZ hq4
          all_goals
            obtain ⟨L4, lv4, hT4, hR4, hRel4, hSt4, hK4⟩ := HP.out
            have HT4 := Lib.hid hT4
            have HR4 := Lib.hid hR4
            have HRel4 := Lib.hid hRel4
            have HSt4 := Lib.hid hSt4
            have K := Lib.hid hK4
            clear hT4 hR4 hRel4 hSt4 hK4 HP a1 hx2
            try clear c0
            have HOkE : Hid (okE (inL L4 g.fID) = okE (lookL l' g.fID).isSome) := Lib.hid (by rw [HRel4.out.inL HI4.out])
            have HGe := Lib.hid (HRel4.out.get HI4.out g.fID)
            have HLs := Lib.hid (HRel4.out.list HI4.out)
            have HGt := Lib.hid (Get_any w4 tb mb room l' HT4.out HI4.out.ok g.fID HId.out)
            generalize okE (lookL l' g.fID).isSome = E at *
            have c0 := (K.out.at 0 rfl).cell 0 _ rfl
            go_wp2_with fail
            refine HGt.out.mono ?_
            rintro e w5 ⟨g5, rfl, hc5, hok5, hb5⟩
            replace HT4 := Lib.hid (HT4.out.below hb5 (Nat.le_refl _))
            replace HR4 := Lib.hid (HR4.out.below hb5 (Nat.le_refl _))
            replace HSt4 := Lib.hid (HSt4.out.step (agree_below hb5) (fun q hq => .inl hq.symm))
            replace K := Lib.hid (K.out.call hb5)
            have HOk5 := Lib.hid hok5
            have HC5 := Lib.hid hc5
            clear hb5 hok5 hc5 HGt c0
            obtain ⟨g5i, g5k, g5v, g5b⟩ := g5
            have hx5 : ∀ u ∈ #[Value.int .i64 g5i, Value.int .i64 g5k, g5v].toList, u.oneCell' = true := by
              have := HOk5.out.2.2.1.1.one
              intro u hu; simp at hu; rcases hu with rfl | rfl | rfl <;> first | rfl | exact this
            simp only [valGroup]
            go_wp2_with (first
              | (refine wpList_store_row rfl 24 _ _ rfl _ rfl #[.int .i64 g5i, .int .i64 g5k, g5v] rfl _ _ ((K.out.box _ _).at 0 rfl) rfl (by kernel_rfl) hx5 ?_)
              | fail)
            intro Wi hbi hbari
            have HbW : Hid (Below w5.heap.size w5 Wi) := Lib.hid (hbari.below ((Below.refl _ _).alloc (Nat.le_refl _) _) (Nat.le_refl _) (by simp))
            replace K := Lib.hid (K.out.into hbari hbi)
            replace HT4 := Lib.hid (HT4.out.below HbW.out (Nat.le_refl _))
            replace HR4 := Lib.hid (HR4.out.below HbW.out (Nat.le_refl _))
            replace HSt4 := Lib.hid (HSt4.out.step (agree_below HbW.out) (fun q hq => .inl hq.symm))
            replace HOk5 := Lib.hid (okGroup_below HOk5.out HbW.out (Nat.le_refl _))
            clear hbi hbari HbW hx5
            generalize w5.heap.size = xb at *
            have c0 := (K.out.at 1 rfl).cell 0 _ rfl
            have HRg4 := Lib.hid (rGet_any Wi w rb room lv4 L4 HR4.out g.fID)
            rw [HOkE.out] at HRg4
            go_wp2_with fail
            refine HRg4.out.mono ?_
            rintro e w6 ⟨rfl, hok6, hb6⟩
            replace HT4 := Lib.hid (HT4.out.below hb6 (Nat.le_refl _))
            replace HR4 := Lib.hid (HR4.out.below hb6 (Nat.le_refl _))
            replace HSt4 := Lib.hid (HSt4.out.step (agree_below hb6) (fun q hq => .inl hq.symm))
            replace K := Lib.hid (K.out.call hb6)
            replace HOk5 := Lib.hid (okGroup_below HOk5.out hb6 (Nat.le_refl _))
            have HOk6 := Lib.hid hok6
            clear hb6 hok6 HRg4 c0
            obtain ⟨G6, hG6⟩ : ∃ G6, G6 = getR L4 g.fID := ⟨_, rfl⟩
            rw [← hG6] at HGe HOk6 ⊢
            rw [← HC5.out] at HGe
            clear hG6 HC5
            obtain ⟨g6i, g6k, g6v, g6b⟩ := G6
            have hx6 : ∀ u ∈ #[Value.int .i64 g6i, Value.int .i64 g6k, g6v].toList, u.oneCell' = true := by
              have := HOk6.out.2.2.1.1.one
              intro u hu; simp at hu; rcases hu with rfl | rfl | rfl <;> first | rfl | exact this
            simp only [valGroup]
            go_wp2_with (first
              | (refine wpList_store_row rfl 24 _ _ rfl _ rfl #[.int .i64 g6i, .int .i64 g6k, g6v] rfl _ _ ((K.out.box _ _).at 0 rfl) rfl (by kernel_rfl) hx6 ?_)
              | fail)
            intro Wj hbj hbarj
            have HbW : Hid (Below w6.heap.size w6 Wj) := Lib.hid (hbarj.below ((Below.refl _ _).alloc (Nat.le_refl _) _) (Nat.le_refl _) (by simp))
            replace K := Lib.hid (K.out.into hbarj hbj)
            replace HT4 := Lib.hid (HT4.out.below HbW.out (Nat.le_refl _))
            replace HR4 := Lib.hid (HR4.out.below HbW.out (Nat.le_refl _))
            replace HSt4 := Lib.hid (HSt4.out.step (agree_below HbW.out) (fun q hq => .inl hq.symm))
            replace HOk5 := Lib.hid (okGroup_below HOk5.out HbW.out (Nat.le_refl _))
            replace HOk6 := Lib.hid (okGroup_below HOk6.out HbW.out (Nat.le_refl _))
            clear hbj hbarj HbW hx6
            generalize w6.heap.size = yb at *
            have HSm := Lib.hid (fun W (hb : Below Wj.heap.size Wj W) => SameGroup_eq W ⟨g5i, g5k, g5v, g5b⟩ ⟨g6i, g6k, g6v, g6b⟩ (okGroup_below HOk5.out hb (Nat.le_refl _)) (okGroup_below HOk6.out hb (Nat.le_refl _)) HGe.out.symm)
            simp only [valGroup] at HSm
            have K2 : Hid (PlayS w.heap.size w [(yb, 24, #[.int .i64 g6i, .int .i64 g6k, g6v]), (xb, 24, #[.int .i64 g5i, .int .i64 g5k, g5v]), (gb, 24, #[.int .i64 g.fID, .int .i64 g.fKind, g.vBuckets])] tb mb room l' rb lv4 L4 Wj Wj) := Lib.hid ⟨KS.start K.out, HT4.out, HR4.out⟩
            clear K HT4 HR4
            go_upto_region 26 with fail
            refine wp_region_noPanic ?_
            refine wp_region_G 24 (PlayS w.heap.size w [(yb, 24, #[.int .i64 g6i, .int .i64 g6k, g6v]), (xb, 24, #[.int .i64 g5i, .int .i64 g5k, g5v]), (gb, 24, #[.int .i64 g.fID, .int .i64 g.fKind, g.vBuckets])] tb mb room l' rb lv4 L4 Wj) (by kernel_rfl) ?_
            change wpG _ _ _ _ _ 24 #[false, false, false, false, false, false, false, false, false, false, false, false, false, false, false, false, false, false, false, false, false, false, false, false] _ (World.drew _)
            replace K2 := Lib.hid K2.out.drew
            refine wpG_pure (i := 0) (v := ?_) rfl (by kernel_rfl) (by kernel_rfl) (by kernel_rfl) (fun _ _ _ h => h) (Or.inl ⟨by rfl, ?_⟩) ?_
            rotate_left
            · (intro w_ hS; clear hS; go_simp; try with_reducible rfl)
            try simp only [List.getElem_toArray, List.getElem_cons_zero, List.getElem_cons_succ, Act.put, List.setIfInBounds_toArray, List.set_cons_zero, List.set_cons_succ]
            refine wpG_pure (i := 1) (v := ?_) rfl (by kernel_rfl) (by kernel_rfl) (by kernel_rfl) (fun _ _ _ h => h) (Or.inl ⟨by rfl, ?_⟩) ?_
            rotate_left
            · (intro w_ hS; clear hS; go_simp; try with_reducible rfl)
            try simp only [List.getElem_toArray, List.getElem_cons_zero, List.getElem_cons_succ, Act.put, List.setIfInBounds_toArray, List.set_cons_zero, List.set_cons_succ]
            refine wpG_pure (i := 2) (v := ?_) rfl (by kernel_rfl) (by kernel_rfl) (by kernel_rfl) (fun _ _ _ h => h) (Or.inl ⟨by rfl, ?_⟩) ?_
            rotate_left
            · (intro w_ hS; clear hS; go_simp; try with_reducible rfl)
            try simp only [List.getElem_toArray, List.getElem_cons_zero, List.getElem_cons_succ, Act.put, List.setIfInBounds_toArray, List.set_cons_zero, List.set_cons_succ]
            refine wpG_pure (i := 3) (v := ?_) rfl (by kernel_rfl) (by kernel_rfl) (by kernel_rfl) (fun _ _ _ h => h) (Or.inl ⟨by rfl, ?_⟩) ?_
            rotate_left
            · (intro w_ hS; clear hS; go_simp; try with_reducible rfl)
            try simp only [List.getElem_toArray, List.getElem_cons_zero, List.getElem_cons_succ, Act.put, List.setIfInBounds_toArray, List.set_cons_zero, List.set_cons_succ]
            refine wpG_pure (i := 4) (v := ?_) rfl (by kernel_rfl) (by kernel_rfl) (by kernel_rfl) (fun _ _ _ h => h) (Or.inl ⟨by rfl, ?_⟩) ?_
            rotate_left
            · (intro w_ hS; clear hS; go_simp; try with_reducible rfl)
            try simp only [List.getElem_toArray, List.getElem_cons_zero, List.getElem_cons_succ, Act.put, List.setIfInBounds_toArray, List.set_cons_zero, List.set_cons_succ]
            refine wpG_pure (i := 5) (v := ?_) rfl (by kernel_rfl) (by kernel_rfl) (by kernel_rfl) (fun _ _ _ h => h) (Or.inl ⟨by rfl, ?_⟩) ?_
            rotate_left
            · (intro w_ hS; clear hS; go_simp; try with_reducible rfl)
            try simp only [List.getElem_toArray, List.getElem_cons_zero, List.getElem_cons_succ, Act.put, List.setIfInBounds_toArray, List.set_cons_zero, List.set_cons_succ]
            refine wpG_pure (i := 6) (v := ?_) rfl (by kernel_rfl) (by kernel_rfl) (by kernel_rfl) (fun _ _ _ h => h) (Or.inl ⟨by rfl, ?_⟩) ?_
            rotate_left
            · (intro w_ hS; clear hS; go_simp; try with_reducible rfl)
            try simp only [List.getElem_toArray, List.getElem_cons_zero, List.getElem_cons_succ, Act.put, List.setIfInBounds_toArray, List.set_cons_zero, List.set_cons_succ]
            refine wpG_pure (i := 7) (v := ?_) rfl (by kernel_rfl) (by kernel_rfl) (by kernel_rfl) (fun _ _ _ h => h) (Or.inl ⟨by rfl, ?_⟩) ?_
            rotate_left
            · (intro w_ hS; clear hS; go_simp; try with_reducible rfl)
            try simp only [List.getElem_toArray, List.getElem_cons_zero, List.getElem_cons_succ, Act.put, List.setIfInBounds_toArray, List.set_cons_zero, List.set_cons_succ]
            refine wpG_pure (i := 8) (v := ?_) rfl (by kernel_rfl) (by kernel_rfl) (by kernel_rfl) (fun _ _ _ h => h) (Or.inl ⟨by rfl, ?_⟩) ?_
            rotate_left
            · (intro w_ hS; clear hS; go_simp; try with_reducible rfl)
            try simp only [List.getElem_toArray, List.getElem_cons_zero, List.getElem_cons_succ, Act.put, List.setIfInBounds_toArray, List.set_cons_zero, List.set_cons_succ]
            refine wpG_take (i := 9) rfl (by kernel_rfl) (by kernel_rfl) (by kernel_rfl) (fun _ _ _ h => h) (Or.inl ⟨by rfl, fun w_ hS => exec_row 24 _ rfl _ rfl _ (run_loadVar_row w_ _ _ 24 _ (0, 0) _ (hS.at 1 rfl) Try.underlying24 rfl (by kernel_rfl))⟩) K2.out ?_
            try simp only [List.getElem_toArray, List.getElem_cons_zero, List.getElem_cons_succ, Act.put, List.setIfInBounds_toArray, List.set_cons_zero, List.set_cons_succ]
            refine wpG_take (i := 10) rfl (by kernel_rfl) (by kernel_rfl) (by kernel_rfl) (fun _ _ _ h => h) (Or.inl ⟨by rfl, fun w_ hS => exec_row 24 _ rfl _ rfl _ (run_loadVar_row w_ _ _ 24 _ (0, 0) _ (hS.at 0 rfl) Try.underlying24 rfl (by kernel_rfl))⟩) K2.out ?_
            try simp only [List.getElem_toArray, List.getElem_cons_zero, List.getElem_cons_succ, Act.put, List.setIfInBounds_toArray, List.set_cons_zero, List.set_cons_succ]
            refine wpG_ready (i := 11) rfl (by kernel_rfl) (fun K_ hK => ?_)
            go_simp
            refine (HSm.out _ K2.out.1.2).mono ?_
            rintro e w8 ⟨rfl, hb8⟩
            replace K2 := Lib.hid (K2.out.call hb8)
            refine hK.out _ _ (fun h_ _ => K2.out) ?_
            clear hK K_
            try simp only [List.getElem_toArray, List.getElem_cons_zero, List.getElem_cons_succ, Act.put, List.setIfInBounds_toArray, List.set_cons_zero, List.set_cons_succ]
            refine wpG_pure (i := 12) (v := ?_) rfl (by kernel_rfl) (by kernel_rfl) (by kernel_rfl) (fun _ _ _ h => h) (Or.inl ⟨by rfl, ?_⟩) ?_
            rotate_left
            · (intro w_ hS; clear hS; go_simp; try with_reducible rfl)
            try simp only [List.getElem_toArray, List.getElem_cons_zero, List.getElem_cons_succ, Act.put, List.setIfInBounds_toArray, List.set_cons_zero, List.set_cons_succ]
            refine wpG_pure (i := 13) (v := ?_) rfl (by kernel_rfl) (by kernel_rfl) (by kernel_rfl) (fun _ _ _ h => h) (Or.inl ⟨by rfl, ?_⟩) ?_
            rotate_left
            · (intro w_ hS; clear hS; go_simp; try with_reducible rfl)
            try simp only [List.getElem_toArray, List.getElem_cons_zero, List.getElem_cons_succ, Act.put, List.setIfInBounds_toArray, List.set_cons_zero, List.set_cons_succ]
            refine wpG_pure (i := 14) (v := ?_) rfl (by kernel_rfl) (by kernel_rfl) (by kernel_rfl) (fun _ _ _ h => h) (Or.inl ⟨by rfl, ?_⟩) ?_
            rotate_left
            · (intro w_ hS; clear hS; go_simp; try with_reducible rfl)
            try simp only [List.getElem_toArray, List.getElem_cons_zero, List.getElem_cons_succ, Act.put, List.setIfInBounds_toArray, List.set_cons_zero, List.set_cons_succ]
            refine wpG_pure (i := 15) (v := ?_) rfl (by kernel_rfl) (by kernel_rfl) (by kernel_rfl) (fun _ _ _ h => h) (Or.inl ⟨by rfl, ?_⟩) ?_
            rotate_left
            · (intro w_ hS; clear hS; go_simp; try with_reducible rfl)
            try simp only [List.getElem_toArray, List.getElem_cons_zero, List.getElem_cons_succ, Act.put, List.setIfInBounds_toArray, List.set_cons_zero, List.set_cons_succ]
            refine wpG_pure (i := 17) (v := ?_) rfl (by kernel_rfl) (by kernel_rfl) (by kernel_rfl) (fun _ _ _ h => h) (Or.inl ⟨by rfl, ?_⟩) ?_
            rotate_left
            · (intro w_ hS; clear hS; go_simp; try with_reducible rfl)
            try simp only [List.getElem_toArray, List.getElem_cons_zero, List.getElem_cons_succ, Act.put, List.setIfInBounds_toArray, List.set_cons_zero, List.set_cons_succ]
            refine wpG_pure (i := 18) (v := ?_) rfl (by kernel_rfl) (by kernel_rfl) (by kernel_rfl) (fun _ _ _ h => h) (Or.inl ⟨by rfl, ?_⟩) ?_
            rotate_left
            · (intro w_ hS; clear hS; go_simp; try with_reducible rfl)
            try simp only [List.getElem_toArray, List.getElem_cons_zero, List.getElem_cons_succ, Act.put, List.setIfInBounds_toArray, List.set_cons_zero, List.set_cons_succ]
            refine wpG_pure (i := 19) (v := ?_) rfl (by kernel_rfl) (by kernel_rfl) (by kernel_rfl) (fun _ _ _ h => h) (Or.inl ⟨by rfl, ?_⟩) ?_
            rotate_left
            · (intro w_ hS; clear hS; go_simp; try with_reducible rfl)
            try simp only [List.getElem_toArray, List.getElem_cons_zero, List.getElem_cons_succ, Act.put, List.setIfInBounds_toArray, List.set_cons_zero, List.set_cons_succ]
            refine wpG_take (i := 20) (v := ?_) rfl (by kernel_rfl) (by kernel_rfl) (by kernel_rfl) (fun _ _ _ h => h) (Or.inl ⟨by rfl, ?_⟩) K2.out ?_
            rotate_left
            · (intro w_ hS; have cq_ := hS.2.2.tab.cell 0 _ rfl; clear hS; go_simp; try with_reducible rfl)
            try simp only [List.getElem_toArray, List.getElem_cons_zero, List.getElem_cons_succ, Act.put, List.setIfInBounds_toArray, List.set_cons_zero, List.set_cons_succ]
            refine wpG_ready (i := 16) rfl (by kernel_rfl) (fun K_ hK => ?_)
            go_simp
            refine (List_any _ tb mb room l' K2.out.2.1 HI4.out.ok).mono ?_
            rintro e w9 ⟨lv9, B9, gs9, rfl, hB9, ho9, hgs9, hok9, hb9⟩
            replace K2 := Lib.hid (K2.out.call hb9)
            refine hK.out _ _ (fun h_ _ => K2.out) ?_
            clear hK K_
            try simp only [List.getElem_toArray, List.getElem_cons_zero, List.getElem_cons_succ, Act.put, List.setIfInBounds_toArray, List.set_cons_zero, List.set_cons_succ]
            have HSa := Lib.hid (same_any w9 lv9 lv4 gs9 L4 (ReadL.of_own ho9 encGroup_len) (ReadL.of_own K2.out.2.2.row encGroup_len) hok9 (fun x hx => K2.out.2.2.okAt hx) (hgs9.trans HLs.out.symm))
            clear hb8 hb9 hB9 ho9 hgs9 hok9 HSm
            refine wpG_ready (i := 21) rfl (by kernel_rfl) (fun K_ hK => ?_)
            go_simp
            refine (HSa.out).mono ?_
            rintro e w10 ⟨rfl, hb10⟩
            replace K2 := Lib.hid (K2.out.call hb10)
            refine hK.out _ _ (fun h_ _ => K2.out) ?_
            clear hK K_
            try simp only [List.getElem_toArray, List.getElem_cons_zero, List.getElem_cons_succ, Act.put, List.setIfInBounds_toArray, List.set_cons_zero, List.set_cons_succ]
            refine wpG_pure (i := 22) (v := ?_) rfl (by kernel_rfl) (by kernel_rfl) (by kernel_rfl) (fun _ _ _ h => h) (Or.inl ⟨by rfl, ?_⟩) ?_
            rotate_left
            · (intro w_ hS; clear hS; go_simp; try with_reducible rfl)
            try simp only [List.getElem_toArray, List.getElem_cons_zero, List.getElem_cons_succ, Act.put, List.setIfInBounds_toArray, List.set_cons_zero, List.set_cons_succ]
            refine wpG_pure (i := 23) (v := ?_) rfl (by kernel_rfl) (by kernel_rfl) (by kernel_rfl) (fun _ _ _ h => h) (Or.inl ⟨by rfl, ?_⟩) ?_
            rotate_left
            · (intro w_ hS; clear hS; go_simp; try with_reducible rfl)
            try simp only [List.getElem_toArray, List.getElem_cons_zero, List.getElem_cons_succ, Act.put, List.setIfInBounds_toArray, List.set_cons_zero, List.set_cons_succ]
            refine wpG_done (by kernel_rfl) ?_ _
            refine NoPanic.normal ?_
            have HT5 := Lib.hid K2.out.2.1
            have HR5 := Lib.hid K2.out.2.2
            have HSt5 := Lib.hid (HSt4.out.step (agree_below K2.out.1.2) (fun q hq => .inl hq.symm))
            clear K2 hb10 HSa HSt4
            go_wp2_with fail
            go_roundw
            case rel => exact ⟨k + 1, l', L4, lv4, by omega, by omega, by go_num, HT5, HI4, HR5, HRel4, HSt5⟩
            case measure => simp [intOf]; omega
      · rcases (by omega : ¬ k < ops.length ∨ (k < ops.length ∧ ¬ k < 60)) with hx | ⟨hx, hy⟩
        case' inl => have d2 : decide (k < ops.length) = false := by simpa using hx
        case' inr =>
          have d2 : decide (k < ops.length) = true := by simpa using hx
          have d3 : decide ((k : Int) < 60) = false := decide_eq_false (by omega)
          clear hy
        all_goals
          clear hx hlt
          go_wp2_with fail
          refine (HA.out _).mono ?_
          rintro e w6 ⟨rfl, hb6⟩
          have HB6 := Lib.hid (HB.out.trans (hb6.mono HB.out.size))
          clear hb6
          go_wp2_with fail
          go_ret
          exact ⟨rfl, HB6.out⟩
end Go.Proofs.Ytfjngecgfmlnfaa
