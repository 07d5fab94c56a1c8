/- A table of groups: Delete. -/
import Derived.Test.YtfjngecgfmlnfaaGroupU
import Derived.Test.YtfjngecgfmlnfaaMapD
import Derived.Test.YtfjngecgfmlnfaaShelfS
namespace Go.Proofs.Ytfjngecgfmlnfaa
open Go.RowKit Go.Maps
set_option linter.unusedVariables false
set_option linter.unusedSimpArgs false

theorem contains_any (W : World) (v : Value) (xs : List Int) (x : Int) (h : ReadL W 1 encI v xs) :
    Calls Try.prog 46 #[v, .int .i64 x] W fun e w' => e = .returned (.bool (xs.contains x)) ∧ w' = W := by
  obtain ⟨a, cap, rfl, hcap, hmax, hc⟩ := h
  unfold maxLen at hmax
  rcases hc with rfl | ⟨b, off, rfl, hlt, hcell⟩
  · exact Try.slices_Contains_int_empty a cap x W
  · have := Try.slices_Contains_int b off xs.length cap xs x W (Nat.le_refl _) (by omega) (fun j hj => by
      have := hcell j 0 (.int .i64 xs[j]) hj (by simp [encI])
      simpa [List.getD, hj] using this)
    rw [List.take_length] at this
    exact this
def ledB (id : Int) (p : Int × Group) : Bool := (leadsF (p.2.fBuckets.map coreB)).contains id
/-- What Delete answers. -/
def delF (l : List (Int × Group)) (id : Int) : Int := if (lookL l id).isSome = false then 31 else if l.any (ledB id) = true then 30 else 0
theorem mem_erase {α : Type} {l : List α} {i : Nat} {p : α} (hi : i < l.length) (h : p ∈ l) : p ∈ l.eraseIdx i ∨ p = l[i] := by
  induction l generalizing i with
  | nil => simp at hi
  | cons x l ih =>
    cases i with
    | zero =>
      rcases List.mem_cons.1 h with rfl | h
      · exact .inr rfl
      · exact .inl h
    | succ i =>
      rcases List.mem_cons.1 h with rfl | h
      · exact .inl (by simp)
      · rcases ih (by simpa using hi) h with h | h
        · exact .inl (by simp [h])
        · exact .inr h
theorem TableW.del {w w' : World} {tb mb : Nat} {room : Int} {l : List (Int × Group)} (h : TableW w tb mb room l) (id : Int) (hm : MapL w' mb keyI valGroup (delL l id)) (hb : Bar mb w w') : TableW w' tb mb room (delL l id) :=
  ⟨h.tab.bar hb (Nat.ne_of_gt h.lt), hm, fun p hp => h.keys p (delL_mem hp).1, fun p hp => (h.ok p (delL_mem hp).1).bar hb (Nat.le_refl _), h.lt⟩
theorem IterL.mem {w : World} {g r : Nat} {α β : Type} {ke : α → Value} {ve : β → Value} {l lf : List (α × β)} (hs : lf ⊆ l) (i : Nat) (hi : i < lf.length) : lf[i] ∈ l := hs (List.getElem_mem hi)

set_option maxRecDepth 100000 in
set_option maxHeartbeats 8000000 in
theorem Delete_any (w : World) (tb mb : Nat) (room : Int) (l : List (Int × Group)) (h : TableW w tb mb room l) (hok : TabOk l) (id : Int) (hid : wfI id) :
    Calls Try.prog 19 #[.pointer (some ⟨tb, 0, none⟩), .int .i64 id] w fun e w' => e = .returned (.int .i64 (delF l id)) ∧ w.grownBy w' (some mb) ∧
      ((delF l id ≠ 0 ∧ TableW w' tb mb room l) ∨ (delF l id = 0 ∧ TableW w' tb mb room (delL l id))) := by
  have HT := Lib.hid h
  have HTk := Lib.hid hok
  have HA : Hid (delF l id = _) := Lib.hid (by unfold delF; rfl)
  generalize delF l id = R at *
  have HHas := Lib.hid (has_any w tb mb room l h id hid)
  have HId := Lib.hid hid
  have hlt : mb < w.heap.size := h.map.lt
  have HLt := Lib.hid hlt
  clear h hid hlt hok
  go_enter Try.func19, Try.ntmps19
  go_wp2_with fail
  refine HHas.out.mono ?_
  rintro e w1 ⟨rfl, hb1⟩
  have HB := Lib.hid hb1
  have HB1 := Lib.hid hb1
  clear hb1 HHas
  cases hl1 : (lookL l id).isSome with
  | false =>
    have e : R = 31 := by rw [HA.out, if_pos hl1]
    subst e
    clear HA hl1
    go_wp2_with fail
    go_ret
    exact ⟨rfl, belowGrown HB.out _, .inl ⟨by decide, HT.out.below HB.out (Nat.le_refl _)⟩⟩
  | true =>
    rw [if_neg (by simp [hl1])] at HA
    clear hl1
    have HT1 := Lib.hid (HT.out.below HB.out (Nat.le_refl _))
    have c1 := HT1.out.tab.cell 1 _ rfl
    have hm := HT1.out.map
    have HLd := Lib.hid (fun (g : Group) (p : Int) (W : World) (hp : (p, g) ∈ l) (hb : Below w.heap.size w W) => leads_any W g ((HT.out.below hb (Nat.le_refl _)).ok _ hp).ok (lead_ok (HTk.out.2 _ hp)))
    go_wp2_with (first | (at_range; refine wpList_range_L rfl _ _ rfl Try.underlying66 rfl hm ?_; intro ob hit) | fail)
    obtain ⟨g1, hg1⟩ : ∃ g1, g1 = w1.heap.size := ⟨_, rfl⟩
    rw [← hg1] at hit ⊢
    have HG1 := Lib.hid hg1
    clear hg1 c1 hm
    go_frame
    go_loopg [] l.length (fun k wr => ∃ lf : List (Int × Group), Hid (IterL wr mb g1 keyI valGroup l lf) ∧ Hid (lf ⊆ l ∧ k = lf.length ∧ ∀ p ∈ l, p ∈ lf ∨ ledB id p = false) ∧ Hid (Below w.heap.size w wr))
    case atStart => exact ⟨l, Lib.hid hit, Lib.hid ⟨fun _ h => h, rfl, fun p hp => .inl hp⟩, Lib.hid (HB.out.alloc HB.out.size _)⟩
    case round =>
      obtain ⟨lf, HI, HN, HB⟩ := hrel
      clear hit
      have hit := HI.out
      go_wp2_with (first | (at_next; refine wpList_next_L rfl _ rfl rfl hit ?_ ?_) | fail)
      · intro h0
        subst h0
        have e : R = 0 := by
          rw [HA.out, if_neg]
          simp only [List.any_eq_true, not_exists, not_and]
          intro p hp
          rcases HN.out.2.2 p hp with h | h
          · cases h
          · simp [h]
        subst e
        clear HA
        have HT2 := Lib.hid (HT.out.below HB.out (Nat.le_refl _))
        have c1 := HT2.out.tab.cell 1 _ rfl
        obtain ⟨w2, hdel, hm2, hbar⟩ := HT2.out.map.delete keyE_int Try.underlying66 HT2.out.keys id HId.out 0
        simp only [keyI] at hdel
        have HT3 := Lib.hid (HT2.out.del id hm2 hbar)
        have HG3 : Hid (w.grownBy w2 (some mb)) := Lib.hid (grown_bar HB.out hbar)
        clear hm2 hbar HN hit HI HLd
        go_wp2_with fail
        go_ret
        exact ⟨rfl, HG3.out, HT3.out⟩
      · intro i hi w2 hit1 hbar hsz hen
        have hp := HN.out.1 (List.getElem_mem hi)
        have HLf := Lib.hid (fun (p : Int × Group) (hp : p ∈ l) (hnp : ledB id lf[i] = false) => (by
          rcases HN.out.2.2 p hp with h | h
          · rcases mem_erase hi h with h | h
            · exact .inl h
            · exact .inr (h ▸ hnp)
          · exact .inr h : p ∈ lf.eraseIdx i ∨ ledB id p = false))
        have HLs := Lib.hid (fun (p : Int × Group) (hp : p ∈ lf.eraseIdx i) => HN.out.1 (List.mem_of_mem_eraseIdx hp))
        have HLn : Hid ((lf.eraseIdx i).length < gk) := Lib.hid (by rw [List.length_eraseIdx_of_lt hi, HN.out.2.1]; omega)
        have hB2 : Below w.heap.size w w2 := hbar.below HB.out (by have := HG1.out; have := HB1.out.size; omega) HB.out.size
        have K : Hid (KR w.heap.size w [] w2) := Lib.hid (KR.start hB2 hB2.size)
        have HMg : Hid (mb < w2.heap.size ∧ g1 < w2.heap.size) := Lib.hid hit1.lt
        have HI1 := Lib.hid (hit1.below ((Below.refl w2.heap.size w2).alloc (Nat.le_refl _) (.cells #[.int .i64 0, .int .i64 0, .slice none 0 0] 24)) (Nat.le_refl _))
        have HAn : Hid (ledB id lf[i] = true → l.any (ledB id) = true) := Lib.hid (fun h => List.any_eq_true.2 ⟨_, hp, h⟩)
        have HOk := Lib.hid ((HT.out.below hB2 (Nat.le_refl _)).ok _ hp)
        have HLd2 := Lib.hid (fun W hb => HLd.out lf[i].2 lf[i].1 W hp hb)
        clear hit HI hbar hit1 HN HB hsz hB2 HLd hp
        generalize lf.eraseIdx i = lf1 at *
        have hgx : ∃ q, q = lf[i] := ⟨_, rfl⟩
        generalize lf[i] = q at *
        clear hgx
        obtain ⟨pid, gi, gk2, gv, bs⟩ := q
        simp only at HOk HLd2 hen
        have hx2 : ∀ u ∈ #[Value.int .i64 gi, .int .i64 gk2, gv].toList, u.oneCell' = true := by
          have := HOk.out.2.2.1.read.one
          intro u hu; simp at hu; rcases hu with rfl | rfl | rfl <;> first | rfl | exact this
        simp only [valGroup, keyI] at hen ⊢
        go_wp2_with (first
          | (refine wpList_store_row rfl 24 _ _ rfl _ rfl #[.int .i64 gi, .int .i64 gk2, gv] rfl _ _ ((K.out.box _ _).at 0 rfl) rfl (by kernel_rfl) hx2 ?_)
          | fail)
        intro Wi hbi hbari
        replace HI1 := Lib.hid (HI1.out.bar hbari (by have := HMg.out; omega) (by have := HMg.out; omega))
        replace K := Lib.hid (K.out.into hbari hbi)
        clear hbi hbari hx2 hen HMg
        go_wp2_with (first
          | (refine wpList_load_row rfl 24 _ rfl _ rfl _ _ _ _ (K.out.at 0 rfl) Try.underlying24 rfl (by kernel_rfl) ?_)
          | fail)
        refine (HLd2.out _ K.out.below).mono ?_
        rintro e w3 ⟨v3, B3, hB3, rfl, ho3, hb3⟩
        replace K := Lib.hid (K.out.call hb3)
        replace HI1 := Lib.hid (HI1.out.below hb3 (Nat.le_refl _))
        have HCt := Lib.hid (contains_any w3 v3 _ id (ReadL.of_own ho3 encI_len))
        have HLb : Hid (ledB id (pid, ⟨gi, gk2, gv, bs⟩) = (leadsF (bs.map coreB)).contains id) := Lib.hid rfl
        clear hb3 ho3 hB3 HLd2
        generalize (leadsF (bs.map coreB)).contains id = C at *
        generalize leadsF (bs.map coreB) = L at *
        go_wp2_with fail
        refine HCt.out.mono ?_
        rintro e w4 ⟨rfl, hw4⟩
        subst hw4
        clear HCt
        cases C with
        | true =>
          have e : R = 30 := by rw [HA.out, if_pos (HAn.out HLb.out)]
          subst e
          clear HA HAn HLb HLf
          go_wp2_with fail
          go_ret
          exact ⟨rfl, belowGrown K.out.below _, .inl ⟨by decide, HT.out.below K.out.below (Nat.le_refl _)⟩⟩
        | false =>
          have HLf2 := Lib.hid (fun p hp => HLf.out p hp HLb.out)
          clear HAn HLf HLb
          go_wp2_with fail
          go_roundg lf1.length
          case measure => exact HLn.out
          case rel => exact ⟨lf1, HI1, Lib.hid ⟨HLs.out, rfl, HLf2.out⟩, Lib.hid K.out.below⟩
end Go.Proofs.Ytfjngecgfmlnfaa
