/- The reference's Modify. The reference's Modify, walked. -/
import Derived.Test.YtfjngecgfmlnfaaPlaysE
import Derived.Test.YtfjngecgfmlnfaaSetsAt
import Derived.Test.YtfjngecgfmlnfaaHeldRow
import Derived.Deep.LoopGhost
namespace Go.Proofs.Ytfjngecgfmlnfaa
section
open Go.RowKit Go.Maps Go.Deep
set_option linter.unusedVariables false
set_option linter.unusedSimpArgs false

/-- A whole struct of an own row is written. -/
theorem OwnL.setRow {α : Type} {w : World} {B size : Nat} {enc : α → List Value} {xs : List α} {e : TypeId} {k cap : Nat} (h : OwnL w B e size enc (.slice (some ⟨k, 0, none⟩) xs.length cap) xs) (he : ∀ x, (enc x).length = size) (hs : 0 < size) (i : Nat) (hi : i < xs.length) (y : α) :
    OwnL (w.setCells k (i * size) (enc y)) B e size enc (.slice (some ⟨k, 0, none⟩) xs.length cap) (xs.set i y) ∧ w.there k (i * size) size := by
  rcases RowOf.of_own h he with ⟨hv, _⟩ | ⟨k', cap', cur, hv, hB, hk, h1, h2, h3, h4⟩
  · cases hv
  · obtain ⟨rfl, rfl⟩ : k = k' ∧ cap = cap' := by simpa using hv
    have hle : i * size + size ≤ cur.size := by
      have := h4.1
      have := Nat.mul_le_mul_right size (show i + 1 ≤ xs.length by omega)
      rw [Nat.add_mul] at this; omega
    have h5 : RowOf size enc (setsAt cur (i * size) (enc y)) (xs.set i y) := h4.put he i y (setsAt_size _ _ _) (fun q hq => setsAt_out _ _ _ _ (by
      rw [he]
      rcases Nat.lt_or_ge q (i * size) with h | h
      · exact .inl h
      · rcases Nat.lt_or_ge q (i * size + size) with h' | h'
        · exact absurd (show q = i * size + (q - i * size) by omega) (hq (q - i * size) (by omega))
        · exact .inr h')) (fun j u hu => setsAt_in _ _ _ _ _ hu (by rw [he]; exact hle))
    refine ⟨?_, hk.there _ _ hle⟩
    have := h5.own (B := B) he hs hB (BlkAt.sets (enc y) hk (i * size)) (by rw [List.length_set]; exact h1) h2 (by rw [setsAt_size]; exact h3)
    rwa [List.length_set] at this
def nextR (L : List Group) (n : Int) : List Int := leadsF ((getR L n).fBuckets.map coreB)
def unseenR (L : List Group) (S : List Int) : Nat := L.countP fun g => !S.contains g.fID
theorem unseenR_lt {L : List Group} {S : List Int} {n : Int} (h : inL L n = true) (hn : n ∉ S) : unseenR L (S ++ [n]) < unseenR L S := by
  unfold inL at h
  obtain ⟨g, hg, he⟩ := List.any_eq_true.1 h
  have he' : g.fID = n := by simpa using he
  have h2 := unseen_lt (l := L.map fun g => (g.fID, g)) (seen := S) (n := n) (g := g) (by rw [← he']; exact List.mem_map.2 ⟨g, hg, rfl⟩) hn
  unfold unseen at h2
  unfold unseenR
  simpa [List.countP_map, Function.comp_def] using h2
/-- Between two rounds of the search. -/
structure SeenI (L : List Group) (frm : List Int) (id : Int) (k : Nat) (S : List Int) : Prop where
  sound : ∀ n ∈ S, ∃ m ∈ frm, Comes (nextR L) m n
  start : ∀ m ∈ frm, m ∈ S
  shut : ∀ j (hj : j < S.length), j < k → S[j] ≠ id ∧ ∀ x ∈ nextR L S[j], x ∈ S
  there : ∀ n ∈ S, inL L n = true ∧ wfI n
theorem SeenI.init {L : List Group} {frm : List Int} {id : Int} (h : ∀ n ∈ frm, inL L n = true ∧ wfI n) : SeenI L frm id 0 frm := ⟨fun n hn => ⟨n, hn, .refl n⟩, fun m hm => hm, fun j hj hk => absurd hk (Nat.not_lt_zero _), h⟩
theorem SeenI.done {L : List Group} {frm : List Int} {id : Int} {k : Nat} {S : List Int} (h : SeenI L frm id k S) (hk : S.length ≤ k) : ¬ ∃ m ∈ frm, Comes (nextR L) m id := by
  rintro ⟨m, hm, hc⟩
  have key : ∀ n q, Comes (nextR L) n q → n ∈ S → q ∈ S := fun n q hc => by
    induction hc with
    | refl n => exact fun hn => hn
    | step h1 _ ih => exact fun hn => ih (by
        obtain ⟨j, hj, rfl⟩ := List.getElem_of_mem hn
        exact (h.shut j hj (by omega)).2 _ h1)
  obtain ⟨j, hj, e⟩ := List.getElem_of_mem (key _ _ hc (h.start m hm))
  exact (h.shut j hj (by omega)).1 e
theorem SeenI.hit {L : List Group} {frm : List Int} {id : Int} {k : Nat} {S : List Int} (h : SeenI L frm id k S) (hk : k < S.length) (he : S[k] = id) : ∃ m ∈ frm, Comes (nextR L) m id := by
  have := h.sound _ (List.getElem_mem hk)
  rwa [he] at this
/-- Within a round: what is put behind S. -/
structure SeenJ (L : List Group) (frm : List Int) (S : List Int) (q : Int) (M : List Int) (j : Nat) (E : List Int) : Prop where
  sound : ∀ n ∈ S ++ E, ∃ m ∈ frm, Comes (nextR L) m n
  there : ∀ n ∈ S ++ E, inL L n = true ∧ wfI n
  got : ∀ i (hi : i < M.length), i < j → M[i] ∈ S ++ E
  size : (S ++ E).length + 2 * unseenR L (S ++ E) ≤ S.length + 2 * unseenR L S
  small : (S ++ E).length + unseenR L (S ++ E) ≤ S.length + unseenR L S
theorem SeenJ.init {L : List Group} {frm : List Int} {id : Int} {k : Nat} {S : List Int} (h : SeenI L frm id k S) (q : Int) (M : List Int) : SeenJ L frm S q M 0 [] :=
  ⟨by simpa using h.sound, by simpa using h.there, fun i hi hj => absurd hj (Nat.not_lt_zero _), by simp, by simp⟩
theorem SeenJ.skip {L : List Group} {frm S M E : List Int} {q : Int} {j : Nat} (h : SeenJ L frm S q M j E) (hj : j < M.length) (hm : M[j] ∈ S ++ E) : SeenJ L frm S q M (j + 1) E :=
  ⟨h.sound, h.there, fun i hi hij => if e : i = j then (by subst e; exact hm) else h.got i hi (by omega), h.size, h.small⟩
theorem SeenJ.put {L : List Group} {frm S M E : List Int} {q : Int} {j : Nat} (h : SeenJ L frm S q M j E) (hq : q ∈ S) (hM : M = nextR L q) (hw : ∀ n ∈ M, inL L n = true ∧ wfI n) (hj : j < M.length) (hm : M[j] ∉ S ++ E) : SeenJ L frm S q M (j + 1) (E ++ [M[j]]) := by
  have hlt := unseenR_lt (hw _ (List.getElem_mem hj)).1 hm
  have hmm : M[j] ∈ nextR L q := by rw [← hM]; exact List.getElem_mem hj
  refine ⟨fun n hn => ?_, fun n hn => ?_, fun i hi hij => ?_, ?_, ?_⟩
  · rw [← List.append_assoc] at hn
    rcases List.mem_append.1 hn with hn | hn
    · exact h.sound n hn
    · rw [List.mem_singleton.1 hn]
      obtain ⟨m, hm1, hm2⟩ := h.sound q (List.mem_append_left _ hq)
      exact ⟨m, hm1, hm2.snoc hmm⟩
  · rw [← List.append_assoc] at hn
    rcases List.mem_append.1 hn with hn | hn
    · exact h.there n hn
    · rw [List.mem_singleton.1 hn]; exact hw _ (List.getElem_mem hj)
  · rw [← List.append_assoc]
    by_cases e : i = j
    · subst e; exact List.mem_append_right _ (by simp)
    · exact List.mem_append_left _ (h.got i hi (by omega))
  · rw [← List.append_assoc]
    have := h.size
    simp only [List.length_append, List.length_cons, List.length_nil] at *
    omega
  · rw [← List.append_assoc]
    have := h.small
    simp only [List.length_append, List.length_cons, List.length_nil] at *
    omega
theorem SeenI.next {L : List Group} {frm S E M : List Int} {id q : Int} {k j : Nat} (h : SeenI L frm id k S) (hJ : SeenJ L frm S q M j E) (hk : k < S.length) (hq : q = S[k]) (hM : M = nextR L q) (hj : M.length ≤ j) (hne : S[k] ≠ id) : SeenI L frm id (k + 1) (S ++ E) := by
  refine ⟨hJ.sound, fun m hm => List.mem_append_left _ (h.start m hm), fun i hi hik => ?_, hJ.there⟩
  have hi' : i < S.length := by omega
  rw [List.getElem_append_left hi']
  by_cases e : i = k
  · subst e
    refine ⟨hne, fun x hx => ?_⟩
    rw [← hq, ← hM] at hx
    obtain ⟨i, hi2, rfl⟩ := List.getElem_of_mem hx
    exact hJ.got i hi2 (by omega)
  · obtain ⟨h1, h2⟩ := h.shut i hi' (by omega)
    exact ⟨h1, fun x hx => List.mem_append_left _ (h2 x hx)⟩
open Classical in
/-- What the reference's Modify answers. -/
noncomputable def modR (L : List Group) (id kind : Int) (c : List Core) : Int :=
  if wrongF id kind c ≠ 0 then wrongF id kind c else if inL L id = false then 31 else if wholeR L c = false then 31 else if (∃ n ∈ leadsF c, Comes (nextR L) n id) then 30 else 0
def ModPost (w w0 : World) (rb : Nat) (room : Int) (lv : Value) (L : List Group) (g : Group) (R : Int) (e : Ending) (w' : World) : Prop :=
  e = .returned (.int .i64 R) ∧ ((R ≠ 0 ∧ Below w.heap.size w w') ∨ (R = 0 ∧ RefW w' w0 rb room lv (L.set (rAtF L g.fID).toNat g) ∧ ∃ k, lv.ownBlock = some k ∧ Bar k w w'))
end
section
open Go.RowKit Go.Maps Go.Deep
set_option linter.unusedVariables false
set_option linter.unusedSimpArgs false

theorem OwnL.rebase {α : Type} {w : World} {B B' size : Nat} {enc : α → List Value} {v : Value} {xs : List α} {e : TypeId} (h : OwnL w B e size enc v xs) (hB : B' ≤ B) : OwnL w B' e size enc v xs := by
  rcases h.2 with ⟨hv, h0⟩ | ⟨k, cap, cur, hv, hk, r⟩
  · exact ⟨h.1, .inl ⟨hv, h0⟩⟩
  · exact ⟨h.1, .inr ⟨k, cap, cur, hv, Nat.le_trans hB hk, r⟩⟩
theorem getR_mem {L : List Group} {n : Int} (h : inL L n = true) : getR L n ∈ L := by
  obtain ⟨k, hk, _, _, hg, _⟩ := inL_at h
  rw [hg]; exact List.getElem_mem hk

theorem RefW.mod {w W w0 : World} {rb lb lcap : Nat} {room : Int} {L : List Group} (h : RefW w w0 rb room (.slice (some ⟨lb, 0, none⟩) L.length lcap) L) (hb : Below w.heap.size w W) (i : Nat) (hi : i < L.length) (g : Group) (hg : okGroup w0 g) :
    RefW (W.setCells lb (i * 3) (encGroup g)) w0 rb room (.slice (some ⟨lb, 0, none⟩) L.length lcap) (L.set i g) ∧ Bar lb w (W.setCells lb (i * 3) (encGroup g)) ∧ W.there lb (i * 3) 3 := by
  have h2 := h.below hb (Nat.le_refl _)
  obtain ⟨h3, h4⟩ := h2.row.setRow encGroup_len (by decide) i hi g
  have hne : rb ≠ lb := fun e => h2.sep (by rw [e]; rfl)
  refine ⟨⟨h2.tab.bar (Bar.sets _ _ _ _) hne, h3, fun x hx => ?_, by rw [List.length_set]; exact h.len, ?_, h.lt⟩, (Bar.of_below hb).trans (Bar.sets _ _ _ _), h4⟩
  · rcases List.mem_or_eq_of_mem_set hx with hx | rfl
    · exact h.ok x hx
    · exact hg
  · exact (Bar.sets _ _ _ _).below h2.base (h2.row.block lb rfl).1 h2.base.size

set_option maxRecDepth 100000 in
set_option maxHeartbeats 16000000 in
theorem rModify_any (w w0 : World) (rb : Nat) (room : Int) (lv : Value) (L : List Group) (h : RefW w w0 rb room lv L) (hok : RefOk L) (hwh : ∀ g ∈ L, ∀ n ∈ leadsF (g.fBuckets.map coreB), inL L n = true) (g : Group) (hg : okGroup w0 g) :
    Calls Try.prog 18 #[.pointer (some ⟨rb, 0, none⟩), valGroup g] w (ModPost w w0 rb room lv L g (modR L g.fID g.fKind (g.fBuckets.map coreB))) := by
  have hgw := okGroup_below hg h.base (Nat.le_refl _)
  have hgv := hgw.2.2.1.1.one
  have HOk : Hid (∀ W : World, Below w.heap.size w W → okGroup W g) := Lib.hid (fun W hb => okGroup_below hgw hb (Nat.le_refl _))
  have HT := Lib.hid h
  have HG0 := Lib.hid hg
  have HRk := Lib.hid hok
  have HRt : Hid (∀ W : World, Below w.heap.size w W → _) := Lib.hid (fun W hb => rRight_any W g (HOk.out W hb))
  have HAt := Lib.hid (fun id W (hb : Below w.heap.size w W) => rat_any W w0 rb room lv L (HT.out.below hb (Nat.le_refl _)) id)
  have HTh := Lib.hid (fun hl W (hb : Below w.heap.size w W) => rthere_any W w0 rb room lv L (HT.out.below hb (Nat.le_refl _)) g (HOk.out W hb) hl)
  have HLd := Lib.hid (fun hl W (hb : Below w.heap.size w W) => rleads_any W g (HOk.out W hb) hl)
  have HNx := Lib.hid (fun n (hn : inL L n = true) W (hb : Below w.heap.size w W) => rleads_any W (getR L n) (okGroup_below (HT.out.okAt (getR_mem hn)) hb (Nat.le_refl _)) (lead_ok (hok _ (getR_mem hn))))
  have HNw := Lib.hid (fun n (hn : inL L n = true) x (hx : x ∈ nextR L n) => And.intro (hwh _ (getR_mem hn) x hx) (leadsF_wf _ (lead_ok (hok _ (getR_mem hn))) x hx))
  have HNl := Lib.hid (fun n (hn : inL L n = true) => (by
    have h1 := lead_ok (hok _ (getR_mem hn))
    have h2 := leadsF_len _ h1 20
    rw [List.take_of_length_le h1.1] at h2
    exact h2 : (nextR L n).length ≤ 400))
  have HPost : Hid (∀ R e w', ModPost w w0 rb room lv L g R e w' ↔ _) := Lib.hid (fun R e w' => Iff.of_eq (by unfold ModPost; rfl))
  have HA : Hid (modR L g.fID g.fKind (g.fBuckets.map coreB) = _) := Lib.hid (by unfold modR; rfl)
  have hw1 : ∀ u ∈ encGroup g, u.oneCell' = true := by
    intro u hu; simp [encGroup] at hu; rcases hu with rfl | rfl | rfl <;> first | rfl | exact hgv
  have HW1 := Lib.hid hw1
  obtain ⟨la, lcap, hlv, hlcap, hlmax⟩ := h.row.slice
  subst hlv
  have hlen := h.len
  unfold maxLen at hlmax
  obtain ⟨gi, gkd, gv, bs⟩ := g
  simp only at *
  generalize modR L gi gkd (bs.map coreB) = R at *
  clear hw1 hgw hg hok hwh
  go_enter Try.func18, Try.ntmps18
  go_upto_region 1 with fail
  refine one_box_wp ?_
  intro W hb1 hbel hsz
  have K : Hid (KR w.heap.size w [(w.heap.size, 24, #[.int .i64 gi, .int .i64 gkd, gv]), (rb, 52, #[.slice la L.length lcap, .int .i64 room])] W) := Lib.hid (((KR.start hbel hbel.size).add (h.tab.below hbel h.tab.lt)).add hb1)
  clear hb1 hbel hsz h
  go_wp2_with (first
    | (refine wpList_load_row rfl 24 _ rfl _ rfl _ _ _ _ (K.out.at 0 rfl) Try.underlying24 rfl (by kernel_rfl) ?_)
    | fail)
  refine (HRt.out _ K.out.below).mono ?_
  rintro e w1 ⟨rfl, hb1⟩
  replace K := Lib.hid (K.out.call hb1)
  clear hb1 HRt
  by_cases hw : wrongF gi gkd (bs.map coreB) = 0
  · have HW0 := Lib.hid hw
    have HA2 := HA.out
    rw [hw] at HA2
    simp only [ne_eq, not_true, if_false] at HA2
    have HA3 := Lib.hid HA2
    rw [hw]
    clear HA HA2 hw
    have c0 := (K.out.at 0 rfl).cell 0 _ rfl
    go_wp2_with fail
    refine (HAt.out gi _ K.out.below).mono ?_
    rintro e w2 ⟨rfl, rfl⟩
    clear c0
    cases hin : inL L gi with
    | false =>
      have t1 : decide (rAtF L gi < 0) = true := decide_eq_true (inL_none hin).1
      rw [if_pos hin] at HA3
      have e := HA3.out
      subst e
      clear hin HA3
      generalize rAtF L gi = at0 at *
      go_wp2_with fail
      go_ret
      exact (HPost.out _ _ _).2 ⟨rfl, .inl ⟨by decide, K.out.below⟩⟩
    | true =>
      obtain ⟨i, hi, hat, hid, _, _⟩ := inL_at hin
      rcases ReadL.of_own HT.out.row encGroup_len with ⟨la', lcap', hlv', _, _, hnil | ⟨lb, loff, hla, hlblt, hlcell⟩⟩
      · rw [hnil] at hi; simp at hi
      obtain ⟨hla2, hlc2⟩ : la = la' ∧ lcap = lcap' := by simpa using hlv'
      subst hlc2
      rw [← hla2] at hla
      subst hla
      have HL0 : Hid (loff = 0) := Lib.hid (by
        rcases HT.out.row.form encGroup_len with ⟨h0, _⟩ | ⟨q, cp, h0, _⟩
        · cases h0
        · have : lb = q ∧ loff = 0 := by simpa using (by injection h0 : some (⟨lb, loff, none⟩ : Addr) = some ⟨q, 0, none⟩)
          exact this.2)
      have HRow := Lib.hid (fun k (hk : k < L.length) W (hb : Below w.heap.size w W) => range_of hlcell hb hlblt k hk)
      clear hlcell hlv' hla2
      rw [if_neg (by simp [hin])] at HA3
      rw [hat] at HPost ⊢
      have t1 : decide ((i : Int) < 0) = false := decide_eq_false (by omega)
      have HTh2 := Lib.hid (HTh.out (lead_ok HW0.out))
      clear HTh hin hat hid
      have c0 := (K.out.at 0 rfl).cell 0 _ rfl
      have c1 := (K.out.at 0 rfl).cell 1 _ rfl
      have c2 := (K.out.at 0 rfl).cell 2 _ rfl
      go_wp2_with fail
      refine (HTh2.out _ K.out.below).mono ?_
      rintro e w3 ⟨rfl, hb3⟩
      replace K := Lib.hid (K.out.call hb3)
      clear hb3 HTh2 c0 c1 c2
      cases hwh : wholeR L (bs.map coreB) with
      | false =>
        rw [if_pos hwh] at HA3
        have e := HA3.out
        subst e
        clear hwh HA3
        go_wp2_with fail
        go_ret
        exact (HPost.out _ _ _).2 ⟨rfl, .inl ⟨by decide, K.out.below⟩⟩
      | true =>
        rw [if_neg (by simp [hwh])] at HA3
        have HWl := Lib.hid (fun n (hn : n ∈ leadsF (bs.map coreB)) => And.intro (by unfold wholeR at hwh; exact List.all_eq_true.1 hwh n hn : inL L n = true) (leadsF_wf _ (lead_ok HW0.out) n hn))
        have HLl : Hid ((leadsF (bs.map coreB)).length ≤ 400) := Lib.hid (by
          have h1 := lead_ok HW0.out
          have h2 := leadsF_len _ h1 20
          rw [List.take_of_length_le h1.1] at h2
          exact h2)
        have HLd2 := Lib.hid (HLd.out (lead_ok HW0.out))
        clear hwh HLd
        go_wp2_with (first
          | (refine wpList_load_row rfl 24 _ rfl _ rfl _ _ _ _ (K.out.at 0 rfl) Try.underlying24 rfl (by kernel_rfl) ?_)
          | fail)
        refine (HLd2.out _ K.out.below).mono ?_
        rintro e w4 ⟨v4, B4, hB4, rfl, ho4, hb4⟩
        have HB3 := Lib.hid (K.out.at 0 rfl).lt
        replace K := Lib.hid (K.out.call hb4)
        obtain ⟨frm, hfrm⟩ : ∃ frm, frm = leadsF (bs.map coreB) := ⟨_, rfl⟩
        rw [← hfrm] at HWl HLl ho4 HA3
        obtain ⟨B, hB⟩ : ∃ B, B = w.heap.size + 1 := ⟨_, rfl⟩
        have HBq := Lib.hid hB
        have HO4 := Lib.hid (ho4.rebase (B' := B) (by have := HB3.out; rw [hB]; exact Nat.le_trans this hB4))
        have HBW : Hid (B ≤ w4.heap.size) := Lib.hid (by rw [hB]; exact Nat.le_trans HB3.out hb4.size)
        have HI0 := Lib.hid (SeenI.init (id := gi) HWl.out)
        have HU0 : Hid (frm.length + unseenR L frm ≤ 464) := Lib.hid (by have h1 := HLl.out; have h2 : unseenR L frm ≤ L.length := List.countP_le_length; omega)
        have HRbl : Hid (rb < w.heap.size) := Lib.hid HT.out.tab.lt
        have HNe : Hid (∀ (W : World) (ov : Value) {xs : List Int}, OwnL W B 3 1 encI ov xs → ∀ x ∈ [(w.heap.size, 24, #[.int .i64 gi, .int .i64 gkd, gv]), (rb, 52, #[.slice (some ⟨lb, loff, none⟩) L.length lcap, .int .i64 room])], some x.1 ≠ ov.ownBlock) := Lib.hid (fun W ov xs ho x hx e => by
          have h1 := (ho.block _ e.symm).1
          have h2 := HBq.out
          have h3 := HRbl.out
          simp only [List.mem_cons, List.not_mem_nil, or_false] at hx
          rcases hx with rfl | rfl
          · simp only at h1; omega
          · simp only at h1; omega)
        have HGe : Hid (∀ (W : World) (ov : Value) {xs : List Int}, OwnL W B 3 1 encI ov xs → ∀ k, ov.ownBlock = some k → w.heap.size ≤ k) := Lib.hid (fun W ov xs ho k hk => by
          have h1 := (ho.block _ hk).1
          have h2 := HBq.out
          omega)
        clear ho4 hb4 hB4 HLd2 hfrm hB HB3
        go_wp2_with fail
        go_loopg [7, 8] (frm.length + 2 * unseenR L frm) (fun n sv iv wr => ∃ (k : Nat) (S : List Int), iv = .int .i64 k ∧ k ≤ S.length ∧ Hid (KR w.heap.size w [(w.heap.size, 24, #[.int .i64 gi, .int .i64 gkd, gv]), (rb, 52, #[.slice (some ⟨lb, loff, none⟩) L.length lcap, .int .i64 room])] wr) ∧ Hid (OwnL wr B 3 1 encI sv S) ∧ Hid (SeenI L frm gi k S) ∧ Hid (S.length + unseenR L S ≤ 464) ∧ Hid (n = (S.length - k) + 2 * unseenR L S) ∧ Hid (B ≤ wr.heap.size))
        case atStart => exact ⟨0, frm, rfl, Nat.zero_le _, K, HO4, HI0, HU0, Lib.hid (by simp), HBW⟩
        case round =>
          obtain ⟨k, S, rfl, hk, K, HO, HI, HU, HN, HBW⟩ := hrel
          obtain ⟨sa, scap, hsv, hscap, hsmax⟩ := HO.out.slice
          subst hsv
          unfold maxLen at hsmax
          have hS := HU.out
          have hS2 : S.length ≤ 464 := by omega
          clear hS
          by_cases hlt : k < S.length
          · have d2 : decide (k < S.length) = true := by simpa using hlt
            rcases HO.out.form encI_len with ⟨hnil, h0⟩ | ⟨b, cp, hv, hbB, hblt, _, _, _, hcell⟩
            · rw [h0] at hlt; simp at hlt
            obtain ⟨rfl, rfl⟩ : sa = some ⟨b, 0, none⟩ ∧ scap = cp := by simpa using hv
            have hc := hcell k 0 (.int .i64 S[k]) hlt rfl
            simp only [Nat.mul_one, Nat.add_zero] at hc
            have HCl := Lib.hid (fun (W : World) (hb : Below wr.heap.size wr W) => (hb.cell (p := ⟨b, k, none⟩) hblt).trans hc)
            clear hcell hv hc
            replace K := Lib.hid (KS.start K.out)
            have kcI := fun q : Keep (KS w.heap.size w [(w.heap.size, 24, #[.int .i64 gi, .int .i64 gkd, gv]), (rb, 52, #[.slice (some ⟨lb, loff, none⟩) L.length lcap, .int .i64 room])] wr) => HCl.out _ q.h.2
            by_cases hq : S[k] = gi
            · have HHit := Lib.hid (HI.out.hit hlt hq)
              rw [if_pos HHit.out] at HA3
              have e := HA3.out
              subst e
              have t3 : (S[k] == gi) = true := by simpa using hq
              generalize S[k] = q at *
              clear hq HI HA3
              haveI : Nonempty (Keep (KS w.heap.size w [(w.heap.size, 24, #[.int .i64 gi, .int .i64 gkd, gv]), (rb, 52, #[.slice (some ⟨lb, loff, none⟩) L.length lcap, .int .i64 room])] wr)) := ⟨⟨_, K.out⟩⟩
              have kc0 := fun q : Keep (KS w.heap.size w [(w.heap.size, 24, #[.int .i64 gi, .int .i64 gkd, gv]), (rb, 52, #[.slice (some ⟨lb, loff, none⟩) L.length lcap, .int .i64 room])] wr) => (KS.at q.h 0 rfl).cell 0 _ rfl
              go_upto_region 11 with fail
              refine wp_region_keep2 (Cl := KS w.heap.size w [(w.heap.size, 24, #[.int .i64 gi, .int .i64 gkd, gv]), (rb, 52, #[.slice (some ⟨lb, loff, none⟩) L.length lcap, .int .i64 room])] wr) (by kernel_rfl) (by kernel_rfl) K.out.drew ?_
              intro y' hy'
              clear hy' K
              repeat
                first
                  | (refine wpQ2_step (fun K hK => ?_)
                     go_simp
                     first
                       | (refine hK _ ?_; clear hK K)
                       | (apply Exists.intro
                          refine ⟨fun _ => ?_, hK _ ?_⟩
                          (rw [if_neg (by omega)]; exact ⟨rfl, rfl⟩)
                          clear hK K))
              refine wpQ2_nil ?_
              clear kc0
              intro Wk Kk
              have K := Lib.hid Kk
              clear Kk
              go_wp2_with fail
              go_ret
              exact (HPost.out _ _ _).2 ⟨rfl, .inl ⟨by decide, K.out.1.below⟩⟩
            · have t3 : (S[k] == gi) = false := by simpa using hq
              have HNq : Hid (S[k] ≠ gi) := Lib.hid hq
              have HTh := HI.out.there _ (List.getElem_mem hlt)
              have HThq := Lib.hid HTh
              have HMem : Hid (S[k] ∈ S) := Lib.hid (List.getElem_mem hlt)
              obtain ⟨qk, hqk, hqat, _, hqg, _⟩ := inL_at HTh.1
              obtain ⟨q, hqe⟩ : ∃ q, q = S[k] := ⟨_, rfl⟩
              have HQe := Lib.hid hqe
              have HAt1 := Lib.hid (fun W hb => HAt.out S[k] W hb)
              have HNx1 := Lib.hid (fun W hb => HNx.out S[k] HTh.1 W hb)
              rw [hqat] at HAt1
              rw [← hqe] at HCl kcI t3 HThq HMem HAt1 HNx1
              rw [← hqe] at hqg
              clear hq HTh hqat
              have HRow1 := Lib.hid (HRow.out qk hqk)
              have HGq : Hid (L[qk] = getR L q) := Lib.hid hqg.symm
              rw [HGq.out] at HRow1
              clear hqg hqe
              haveI : Nonempty (Keep (KS w.heap.size w [(w.heap.size, 24, #[.int .i64 gi, .int .i64 gkd, gv]), (rb, 52, #[.slice (some ⟨lb, loff, none⟩) L.length lcap, .int .i64 room])] wr)) := ⟨⟨_, K.out⟩⟩
              have kc0 := fun q : Keep (KS w.heap.size w [(w.heap.size, 24, #[.int .i64 gi, .int .i64 gkd, gv]), (rb, 52, #[.slice (some ⟨lb, loff, none⟩) L.length lcap, .int .i64 room])] wr) => (KS.at q.h 0 rfl).cell 0 _ rfl
              go_upto_region 11 with fail
              refine wp_region_keep2 (Cl := KS w.heap.size w [(w.heap.size, 24, #[.int .i64 gi, .int .i64 gkd, gv]), (rb, 52, #[.slice (some ⟨lb, loff, none⟩) L.length lcap, .int .i64 room])] wr) (by kernel_rfl) (by kernel_rfl) K.out.drew ?_
              intro y' hy'
              clear hy' K
              repeat
                first
                  | (refine wpQ2_step (fun K hK => ?_)
                     go_simp
                     first
                       | (refine hK _ ?_; clear hK K)
                       | (apply Exists.intro
                          refine ⟨fun _ => ?_, hK _ ?_⟩
                          (rw [if_neg (by omega)]; exact ⟨rfl, rfl⟩)
                          clear hK K))
              refine wpQ2_nil ?_
              clear kc0
              intro Wk Kk
              have K := Lib.hid Kk
              clear Kk
              clear kcI t3
              replace HO := Lib.hid (HO.out.belowAll K.out.2)
              replace HBW := Lib.hid (Nat.le_trans HBW.out K.out.2.size)
              have HCk := Lib.hid (HCl.out _ K.out.2)
              replace K := Lib.hid K.out.1
              clear HCl
              have HK2 := Lib.hid (KS.start K.out)
              have HSz := Lib.hid (HO.out.block b rfl)
              go_upto_region 13 with fail
              refine wp_region_noPanic ?_
              refine wp_region_G 14 (KS w.heap.size w [(w.heap.size, 24, #[.int .i64 gi, .int .i64 gkd, gv]), (rb, 52, #[.slice (some ⟨lb, loff, none⟩) L.length lcap, .int .i64 room])] Wk) (by kernel_rfl) ?_
              change wpG _ _ _ _ _ 14 #[false, false, false, false, false, false, false, false, false, false, false, false, false, false] _ (World.drew _)
              replace HK2 := Lib.hid HK2.out.drew
              refine wpG_pure (i := 0) (v := ?_) rfl (by kernel_rfl) (by kernel_rfl) (by kernel_rfl) (fun _ _ _ h => h) (Or.inl ⟨by rfl, ?_⟩) ?_
              rotate_left
              · (intro w_ hS; clear hS; go_simp; try with_reducible rfl)
              try simp only [List.getElem_toArray, List.getElem_cons_zero, List.getElem_cons_succ, Act.put, List.setIfInBounds_toArray, List.set_cons_zero, List.set_cons_succ]
              refine wpG_pure (i := 1) (v := ?_) rfl (by kernel_rfl) (by kernel_rfl) (by kernel_rfl) (fun _ _ _ h => h) (Or.inl ⟨by rfl, ?_⟩) ?_
              rotate_left
              · (intro w_ hS; clear hS; go_simp; try with_reducible rfl)
              try simp only [List.getElem_toArray, List.getElem_cons_zero, List.getElem_cons_succ, Act.put, List.setIfInBounds_toArray, List.set_cons_zero, List.set_cons_succ]
              refine wpG_pure (i := 2) (v := ?_) rfl (by kernel_rfl) (by kernel_rfl) (by kernel_rfl) (fun _ _ _ h => h) (Or.inl ⟨by rfl, ?_⟩) ?_
              rotate_left
              · (intro w_ hS; clear hS; go_simp; try with_reducible rfl)
              try simp only [List.getElem_toArray, List.getElem_cons_zero, List.getElem_cons_succ, Act.put, List.setIfInBounds_toArray, List.set_cons_zero, List.set_cons_succ]
              refine wpG_take (i := 3) (v := ?_) rfl (by kernel_rfl) (by kernel_rfl) (by kernel_rfl) (fun _ _ _ h => h) (Or.inl ⟨by rfl, ?_⟩) HK2.out ?_
              rotate_left
              · (intro w_ hS; have cq_ := (hS.at 1 rfl).cell 0 _ rfl; clear hS; go_simp; try with_reducible rfl)
              try simp only [List.getElem_toArray, List.getElem_cons_zero, List.getElem_cons_succ, Act.put, List.setIfInBounds_toArray, List.set_cons_zero, List.set_cons_succ]
              refine wpG_pure (i := 4) (v := ?_) rfl (by kernel_rfl) (by kernel_rfl) (by kernel_rfl) (fun _ _ _ h => h) (Or.inl ⟨by rfl, ?_⟩) ?_
              rotate_left
              · (intro w_ hS; clear hS; go_simp; try with_reducible rfl)
              try simp only [List.getElem_toArray, List.getElem_cons_zero, List.getElem_cons_succ, Act.put, List.setIfInBounds_toArray, List.set_cons_zero, List.set_cons_succ]
              refine wpG_pure (i := 5) (v := ?_) rfl (by kernel_rfl) (by kernel_rfl) (by kernel_rfl) (fun _ _ _ h => h) (Or.inl ⟨by rfl, ?_⟩) ?_
              rotate_left
              · (intro w_ hS; clear hS; go_simp; try with_reducible rfl)
              try simp only [List.getElem_toArray, List.getElem_cons_zero, List.getElem_cons_succ, Act.put, List.setIfInBounds_toArray, List.set_cons_zero, List.set_cons_succ]
              refine wpG_pure (i := 6) (v := ?_) rfl (by kernel_rfl) (by kernel_rfl) (by kernel_rfl) (fun _ _ _ h => h) (Or.inl ⟨by rfl, ?_⟩) ?_
              rotate_left
              · (intro w_ hS; clear hS; go_simp; try with_reducible rfl)
              try simp only [List.getElem_toArray, List.getElem_cons_zero, List.getElem_cons_succ, Act.put, List.setIfInBounds_toArray, List.set_cons_zero, List.set_cons_succ]
              refine wpG_pure (i := 7) (v := ?_) rfl (by kernel_rfl) (by kernel_rfl) (by kernel_rfl) (fun _ _ _ h => h) (Or.inl ⟨by rfl, ?_⟩) ?_
              rotate_left
              · (intro w_ hS; clear hS; go_simp; try with_reducible rfl)
              try simp only [List.getElem_toArray, List.getElem_cons_zero, List.getElem_cons_succ, Act.put, List.setIfInBounds_toArray, List.set_cons_zero, List.set_cons_succ]
              refine wpG_take (i := 8) (v := ?_) rfl (by kernel_rfl) (by kernel_rfl) (by kernel_rfl) (fun _ _ _ h => h) (Or.inl ⟨by rfl, ?_⟩) HK2.out ?_
              rotate_left
              · (intro w_ hS; have cq_ := hS.cell HSz.out.2 HCk.out; clear hS; go_simp; try with_reducible rfl)
              try simp only [List.getElem_toArray, List.getElem_cons_zero, List.getElem_cons_succ, Act.put, List.setIfInBounds_toArray, List.set_cons_zero, List.set_cons_succ]
              refine wpG_ready (i := 9) rfl (by kernel_rfl) (fun K_ hK => ?_)
              go_simp
              refine (HAt1.out _ HK2.out.1.below).mono ?_
              rintro e w5 ⟨rfl, rfl⟩
              replace HK2 := Lib.hid (HK2.out)
              refine hK.out _ _ (fun h_ _ => HK2.out) ?_
              clear hK K_
              try simp only [List.getElem_toArray, List.getElem_cons_zero, List.getElem_cons_succ, Act.put, List.setIfInBounds_toArray, List.set_cons_zero, List.set_cons_succ]
              refine wpG_pure (i := 10) (v := ?_) rfl (by kernel_rfl) (by kernel_rfl) (by kernel_rfl) (fun _ _ _ h => h) (Or.inl ⟨by rfl, ?_⟩) ?_
              rotate_left
              · (intro w_ hS; clear hS; go_simp; try with_reducible rfl)
              try simp only [List.getElem_toArray, List.getElem_cons_zero, List.getElem_cons_succ, Act.put, List.setIfInBounds_toArray, List.set_cons_zero, List.set_cons_succ]
              refine wpG_ready (i := 11) rfl (by kernel_rfl) (fun K_ hK => ?_)
              rw [if_pos (by rfl)]
              refine wp_load_mid 24 _ rfl lb (loff + qk * 3) rfl (encGroup (getR L q)) _ (HRow1.out _ HK2.out.1.below) Try.underlying24 rfl (by kernel_rfl) ?_
              refine hK.out _ _ (fun h_ _ => HK2.out) ?_
              clear hK K_
              try simp only [List.getElem_toArray, List.getElem_cons_zero, List.getElem_cons_succ, Act.put, List.setIfInBounds_toArray, List.set_cons_zero, List.set_cons_succ]
              refine wpG_ready (i := 12) rfl (by kernel_rfl) (fun K_ hK => ?_)
              go_simp
              refine (HNx1.out _ HK2.out.1.below).mono ?_
              rintro e w6 ⟨v6, B6, hB6, rfl, ho6, hb6⟩
              replace HK2 := Lib.hid (HK2.out.call hb6)
              refine hK.out _ _ (fun h_ _ => HK2.out) ?_
              clear hK K_
              try simp only [List.getElem_toArray, List.getElem_cons_zero, List.getElem_cons_succ, Act.put, List.setIfInBounds_toArray, List.set_cons_zero, List.set_cons_succ]
              refine wpG_pure (i := 13) (v := ?_) rfl (by kernel_rfl) (by kernel_rfl) (by kernel_rfl) (fun _ _ _ h => h) (Or.inl ⟨by rfl, ?_⟩) ?_
              rotate_left
              · (intro w_ hS; clear hS; go_simp; try with_reducible rfl)
              try simp only [List.getElem_toArray, List.getElem_cons_zero, List.getElem_cons_succ, Act.put, List.setIfInBounds_toArray, List.set_cons_zero, List.set_cons_succ]
              refine wpG_done (by kernel_rfl) ?_ _
              refine NoPanic.normal ?_
              have HO6 := Lib.hid (HO.out.belowAll HK2.out.2)
              have HBW6 := Lib.hid (Nat.le_trans HBW.out HK2.out.2.size)
              replace K := Lib.hid HK2.out.1
              obtain ⟨M, hM⟩ : ∃ M, M = nextR L q := ⟨_, rfl⟩
              have hMu : leadsF ((getR L q).fBuckets.map coreB) = M := hM.symm
              rw [hMu] at ho6
              have HM := Lib.hid hM
              have HMl : Hid (M.length ≤ 400) := Lib.hid (by rw [hM]; exact HNl.out q HThq.out.1)
              have HMw : Hid (∀ x ∈ M, inL L x = true ∧ wfI x) := Lib.hid (by rw [hM]; exact HNw.out q HThq.out.1)
              have HOm := Lib.hid ho6
              have HSep : Hid (∀ x, (Value.slice (some ⟨b, 0, none⟩) S.length scap).ownBlock = some x → v6.ownBlock ≠ some x) := Lib.hid (fun x hx e => by
                have h1 := (HOm.out.block x e).1
                have h2 := (HO.out.block x hx).2
                have h3 : Wk.drew.heap.size = Wk.heap.size := rfl
                omega)
              have HJ := Lib.hid (SeenJ.init HI.out q M)
              clear ho6 hb6 hB6 hM hMu HO HBW HK2 HNx1 HAt1 HRow1 HGq
              obtain ⟨ma, mcap, hmv, hmcap, hmmax⟩ := HOm.out.slice
              subst hmv
              unfold maxLen at hmmax
              have hml := HMl.out
              go_wp2_with fail
              go_loopw [7, 10] (fun sv jv wr => ∃ (j : Nat) (E : List Int), j ≤ M.length ∧ jv = .int .i64 j ∧ Hid (KR w.heap.size w [(w.heap.size, 24, #[.int .i64 gi, .int .i64 gkd, gv]), (rb, 52, #[.slice (some ⟨lb, loff, none⟩) L.length lcap, .int .i64 room])] wr) ∧ Hid (OwnL wr B 3 1 encI sv (S ++ E)) ∧ Hid (SeenJ L frm S q M j E) ∧ Hid (OwnL wr B6 3 1 encI (.slice ma M.length mcap) M) ∧ Hid (∀ x, sv.ownBlock = some x → (Value.slice ma M.length mcap).ownBlock ≠ some x) ∧ Hid (B ≤ wr.heap.size)) (fun _ jv _ => M.length - (intOf jv).toNat)
              case atStart => exact ⟨0, [], Nat.zero_le _, rfl, K, Lib.hid (by rw [List.append_nil]; exact HO6.out), HJ, HOm, HSep, HBW6⟩
              case round =>
                obtain ⟨j, E, hj, rfl, K, HO, HJ, HOm, HSep, HBW⟩ := hrel
                by_cases hjt : j < M.length
                · have d3 : decide (j < M.length) = true := by simpa using hjt
                  rcases HOm.out.form encI_len with ⟨hnil, h0⟩ | ⟨mb, mp, hv, hmbB, hmblt, _, _, _, hmcell⟩
                  · rw [h0] at hjt; simp at hjt
                  obtain ⟨rfl, rfl⟩ : ma = some ⟨mb, 0, none⟩ ∧ mcap = mp := by simpa using hv
                  have m1 := hmcell j 0 (.int .i64 M[j]) hjt rfl
                  simp only [Nat.mul_one, Nat.add_zero] at m1
                  have HHas := Lib.hid (rhas_any wr u7 (S ++ E) (ReadL.of_own HO.out encI_len) M[j])
                  have HSk := Lib.hid (HJ.out.skip hjt)
                  have HPt := Lib.hid (HJ.out.put HMem.out HM.out HMw.out hjt)
                  have hse : (S ++ E).length ≤ 464 := by have h1 := HJ.out.small; have h2 := HU.out; omega
                  clear hmcell hv HJ
                  generalize M[j] = x at *
                  go_wp2_with fail
                  refine HHas.out.mono ?_
                  rintro e w7 ⟨rfl, hw7⟩
                  subst hw7
                  clear HHas
                  by_cases hx : x ∈ S ++ E
                  · have t5 : (S ++ E).contains x = true := List.contains_iff_mem.2 hx
                    have HJ2 := Lib.hid (HSk.out hx)
                    rw [t5]
                    clear hx HSk HPt t5
                    go_wp2_with fail
                    go_roundw
                    case rel => exact ⟨j + 1, E, by omega, by go_num, K, HO, HJ2, HOm, HSep, HBW⟩
                    case measure => simp [intOf]; omega
                  · have t5 : (S ++ E).contains x = false := by rw [Bool.eq_false_iff]; exact fun h => hx (List.contains_iff_mem.1 h)
                    have HJ2 := Lib.hid (HPt.out hx)
                    rw [t5]
                    clear hx HSk HPt t5
                    go_wp2_with (at_builtin; go_must (refine app_at HO.out x Try.underlying72 intInfo rfl (by decide) encI_len (encI_one x) rfl rfl rfl rfl ?c1 ?c2 HBW.out ?_))
                    case c1 => omega
                    case c2 => omega
                    intro g8 cap8 w8 hown8 hgrow8 hat8
                    have K8 := Lib.hid (K.out.grown hgrow8 (HNe.out _ _ HO.out) (HGe.out _ _ HO.out))
                    have HBW8 := Lib.hid (Nat.le_trans HBW.out hgrow8.size)
                    have HOm8 := Lib.hid (HOm.out.kept hgrow8 (.inr (fun e => HSep.out mb e.symm rfl)))
                    have HSep8 : Hid (∀ y, (Value.slice (some ⟨g8, 0, none⟩) (S.length + E.length + 1) cap8).ownBlock = some y → (Value.slice (some ⟨mb, 0, none⟩) M.length mcap).ownBlock ≠ some y) := Lib.hid (fun y hy e => by
                      obtain rfl : g8 = y := by simpa [Value.ownBlock] using hy
                      rcases hat8 with h | h
                      · exact HSep.out g8 h e
                      · have h2 := (HOm.out.block g8 e).2
                        omega)
                    have HO8 := Lib.hid hown8
                    clear hown8 hgrow8 hat8 K HBW HOm HSep HO m1
                    go_wp2_with fail
                    go_roundw
                    case rel => exact ⟨j + 1, E ++ [x], by omega, by go_num, K8, HO8, HJ2, HOm8, HSep8, HBW8⟩
                    case measure => simp [intOf]; omega
                · have d3 : decide (j < M.length) = false := by simpa using hjt
                  have HI2 := Lib.hid (HI.out.next HJ.out hlt HQe.out HM.out (by omega) HNq.out)
                  have HU2 : Hid ((S ++ E).length + unseenR L (S ++ E) ≤ 464) := Lib.hid (by have h1 := HJ.out.small; have h2 := HU.out; omega)
                  have HSz2 := Lib.hid HJ.out.size
                  have hle2 : k + 1 ≤ (S ++ E).length := by rw [List.length_append]; omega
                  have HM0 : Hid (((S ++ E).length - (k + 1)) + 2 * unseenR L (S ++ E) < gk) := Lib.hid (by rw [HN.out]; have := HSz2.out; omega)
                  clear HJ HI HU HN HSz2
                  go_wp2_with fail
                  go_roundg (((S ++ E).length - (k + 1)) + 2 * unseenR L (S ++ E))
                  case measure => exact HM0.out
                  case rel => exact ⟨k + 1, S ++ E, by go_num, hle2, K, HO, HI2, HU2, Lib.hid rfl, HBW⟩
          · have d2 : decide (k < S.length) = false := by simpa using hlt
            have hno := HI.out.done (by omega)
            rw [if_neg hno] at HA3
            have e := HA3.out
            subst e
            have e0 := HL0.out
            subst e0
            have HK2 : Hid (KR w.heap.size w [(w.heap.size, 24, #[.int .i64 gi, .int .i64 gkd, gv]), (rb, 52, #[.slice (some ⟨lb, 0, none⟩) L.length lcap, .int .i64 room])] wr) := Lib.hid K.out
            clear hno HA3 HI HU HN HO HNx HNw HNl K HAt HI0 HU0 HO4 HWl
            go_upto_region 19 with fail
            refine wp_region_noPanic ?_
            refine wp_region_G 7 (KR w.heap.size w [(w.heap.size, 24, #[.int .i64 gi, .int .i64 gkd, gv]), (rb, 52, #[.slice (some ⟨lb, 0, none⟩) L.length lcap, .int .i64 room])]) (by kernel_rfl) ?_
            change wpG _ _ _ _ _ 8 #[false, false, false, false, false, false, false, false] _ (World.drew _)
            replace HK2 := Lib.hid HK2.out.drew
            refine wpG_pure (i := 0) (v := ?_) rfl (by kernel_rfl) (by kernel_rfl) (by kernel_rfl) (fun _ _ _ h => h) (Or.inl ⟨by rfl, ?_⟩) ?_
            rotate_left
            · (intro w_ hS; clear hS; go_simp; try with_reducible rfl)
            try simp only [List.getElem_toArray, List.getElem_cons_zero, List.getElem_cons_succ, Act.put, List.setIfInBounds_toArray, List.set_cons_zero, List.set_cons_succ]
            refine wpG_pure (i := 1) (v := ?_) rfl (by kernel_rfl) (by kernel_rfl) (by kernel_rfl) (fun _ _ _ h => h) (Or.inl ⟨by rfl, ?_⟩) ?_
            rotate_left
            · (intro w_ hS; clear hS; go_simp; try with_reducible rfl)
            try simp only [List.getElem_toArray, List.getElem_cons_zero, List.getElem_cons_succ, Act.put, List.setIfInBounds_toArray, List.set_cons_zero, List.set_cons_succ]
            refine wpG_pure (i := 2) (v := ?_) rfl (by kernel_rfl) (by kernel_rfl) (by kernel_rfl) (fun _ _ _ h => h) (Or.inl ⟨by rfl, ?_⟩) ?_
            rotate_left
            · (intro w_ hS; clear hS; go_simp; try with_reducible rfl)
            try simp only [List.getElem_toArray, List.getElem_cons_zero, List.getElem_cons_succ, Act.put, List.setIfInBounds_toArray, List.set_cons_zero, List.set_cons_succ]
            refine wpG_take (i := 3) (v := ?_) rfl (by kernel_rfl) (by kernel_rfl) (by kernel_rfl) (fun _ _ _ h => h) (Or.inl ⟨by rfl, ?_⟩) HK2.out ?_
            rotate_left
            · (intro w_ hS; have cq_ := (hS.at 1 rfl).cell 0 _ rfl; clear hS; go_simp; try with_reducible rfl)
            try simp only [List.getElem_toArray, List.getElem_cons_zero, List.getElem_cons_succ, Act.put, List.setIfInBounds_toArray, List.set_cons_zero, List.set_cons_succ]
            refine wpG_pure (i := 4) (v := ?_) rfl (by kernel_rfl) (by kernel_rfl) (by kernel_rfl) (fun _ _ _ h => h) (Or.inl ⟨by rfl, ?_⟩) ?_
            rotate_left
            · (intro w_ hS; clear hS; go_simp; try with_reducible rfl)
            try simp only [List.getElem_toArray, List.getElem_cons_zero, List.getElem_cons_succ, Act.put, List.setIfInBounds_toArray, List.set_cons_zero, List.set_cons_succ]
            refine wpG_take (i := 5) rfl (by kernel_rfl) (by kernel_rfl) (by kernel_rfl) (fun _ _ _ h => h) (Or.inl ⟨by rfl, fun w_ hS => exec_row 24 _ rfl _ rfl _ (run_loadVar_row w_ _ _ 24 _ (0, 0) _ (hS.at 0 rfl) Try.underlying24 rfl (by kernel_rfl))⟩) HK2.out ?_
            try simp only [List.getElem_toArray, List.getElem_cons_zero, List.getElem_cons_succ, Act.put, List.setIfInBounds_toArray, List.set_cons_zero, List.set_cons_succ]
            refine wpG_pure (i := 6) (v := ?_) rfl (by kernel_rfl) (by kernel_rfl) (by kernel_rfl) (fun _ _ _ h => h) (Or.inl ⟨by rfl, ?_⟩) ?_
            rotate_left
            · (intro w_ hS; clear hS; go_simp; try with_reducible rfl)
            try simp only [List.getElem_toArray, List.getElem_cons_zero, List.getElem_cons_succ, Act.put, List.setIfInBounds_toArray, List.set_cons_zero, List.set_cons_succ]
            obtain ⟨hR, hBar, hth⟩ := HT.out.mod HK2.out.below i hi ⟨gi, gkd, gv, bs⟩ HG0.out
            have HF2 := Lib.hid ((HPost.out 0 (.returned (.int .i64 0)) _).2 ⟨rfl, .inr ⟨rfl, by rw [Int.toNat_natCast]; exact hR, lb, rfl, hBar⟩⟩)
            have hx2 : (#[Value.int .i64 gi, Value.int .i64 gkd, gv] : Array Value).all (·.oneCell') = true := by simp [hgv, show (Value.int .i64 gi).oneCell' = true from rfl, show (Value.int .i64 gkd).oneCell' = true from rfl]
            clear hR hBar HPost
            refine wpG_ready (i := 7) rfl (by kernel_rfl) (fun K_ hK => ?_)
            rw [if_pos (by rfl)]
            refine wp_store_mid 24 _ _ rfl lb (i * 3) #[.int .i64 gi, .int .i64 gkd, gv] ?ea rfl hth (by kernel_rfl) hx2 ?_
            case ea => rfl
            refine hK.out _ _ (fun h_ _ => absurd h_ (by decide)) ?_
            clear hK K_
            try simp only [List.getElem_toArray, List.getElem_cons_zero, List.getElem_cons_succ, Act.put, List.setIfInBounds_toArray, List.set_cons_zero, List.set_cons_succ]
            refine wpG_done (by kernel_rfl) ?_ _
            refine NoPanic.normal ?_
            go_wp2_with fail
            go_ret
            exact HF2.out
  · have hne : (wrongF gi gkd (bs.map coreB) != 0) = true := by simpa using hw
    have HA2 : Hid (R = wrongF gi gkd (bs.map coreB)) := Lib.hid (by rw [HA.out, if_pos hw])
    have HNe := Lib.hid hw
    clear HA hw
    obtain ⟨X, hX⟩ : ∃ X, X = wrongF gi gkd (bs.map coreB) := ⟨_, rfl⟩
    rw [← hX] at hne HA2 HNe ⊢
    clear hX
    have e := HA2.out
    subst e
    go_wp2_with fail
    go_ret
    exact (HPost.out _ _ _).2 ⟨rfl, .inl ⟨HNe.out, K.out.below⟩⟩
end
end Go.Proofs.Ytfjngecgfmlnfaa
