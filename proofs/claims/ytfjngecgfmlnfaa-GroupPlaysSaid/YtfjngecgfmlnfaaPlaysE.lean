/- The reference's Delete. -/
import Derived.Test.YtfjngecgfmlnfaaPlaysD
namespace Go.Proofs.Ytfjngecgfmlnfaa
open Go.RowKit Go.Maps
set_option linter.unusedVariables false
set_option linter.unusedSimpArgs false

def ledR (id : Int) (g : Group) : Bool := (leadsF (g.fBuckets.map coreB)).contains id
/-- What the reference's Delete answers. -/
def delR (L : List Group) (id : Int) : Int := if inL L id = false then 31 else if L.any (ledR id) = true then 30 else 0
def RefOk (L : List Group) : Prop := ∀ g ∈ L, wrongF g.fID g.fKind (g.fBuckets.map coreB) = 0
def DelPost (w w0 : World) (rb : Nat) (room : Int) (L : List Group) (id : Int) (e : Ending) (w' : World) : Prop :=
  e = .returned (.int .i64 (delR L id)) ∧ ((delR L id ≠ 0 ∧ Below w.heap.size w w') ∨ (delR L id = 0 ∧ ∃ lv', RefW w' w0 rb room lv' (L.eraseIdx (rAtF L id).toNat) ∧ Bar rb w w' ∧ ∀ k, lv'.ownBlock = some k → w.heap.size ≤ k))
theorem ReadL.front {α : Type} {w : World} {size : Nat} {enc : α → List Value} {a : Option Addr} {cap : Nat} {xs : List α} (h : ReadL w size enc (.slice a xs.length cap) xs) (i : Nat) (hi : i ≤ xs.length) : ReadL w size enc (.slice a i cap) (xs.take i) := by
  obtain ⟨a', cap', hv, h1, h2, h3⟩ := h
  obtain ⟨rfl, rfl⟩ : a = a' ∧ cap = cap' := by simpa using hv
  have hl : (xs.take i).length = i := by rw [List.length_take]; omega
  refine ⟨a, cap, by rw [hl], by omega, h2, ?_⟩
  rcases h3 with rfl | ⟨b, off, ha, hb, hc⟩
  · exact .inl (by simp)
  · refine .inr ⟨b, off, ha, hb, fun j m u hj hu => ?_⟩
    rw [hl] at hj
    rw [List.getElem_take] at hu
    exact hc j m u (by omega) hu
theorem ReadL.back {α : Type} {w : World} {size : Nat} {enc : α → List Value} {b off cap : Nat} {xs : List α} (h : ReadL w size enc (.slice (some ⟨b, off, none⟩) xs.length cap) xs) (i : Nat) (hi : i ≤ xs.length) :
    ReadL w size enc (.slice (if cap = i then some ⟨b, off, none⟩ else some ⟨b, off + i * size, none⟩) (xs.length - i) (cap - i)) (xs.drop i) := by
  obtain ⟨a', cap', hv, h1, h2, h3⟩ := h
  obtain ⟨rfl, rfl⟩ : some ⟨b, off, none⟩ = a' ∧ cap = cap' := by simpa using hv
  have hl : (xs.drop i).length = xs.length - i := List.length_drop ..
  refine ⟨_, cap - i, by rw [hl], by omega, by omega, ?_⟩
  rcases h3 with rfl | ⟨b', off', ha, hb, hc⟩
  · exact .inl (by simp)
  · obtain ⟨rfl, rfl⟩ : b = b' ∧ off = off' := by simpa using ha
    by_cases hci : cap = i
    · exact .inl (List.drop_eq_nil_of_le (by omega))
    · rw [if_neg hci]
      refine .inr ⟨b, off + i * size, rfl, hb, fun j m u hj hu => ?_⟩
      rw [hl] at hj
      rw [List.getElem_drop] at hu
      have := hc (i + j) m u (by omega) hu
      rw [show off + i * size + (j * size + m) = off + ((i + j) * size + m) by rw [Nat.add_mul]; omega]
      exact this

set_option maxRecDepth 100000 in
set_option maxHeartbeats 16000000 in
theorem rDelete_any (w w0 : World) (rb : Nat) (room : Int) (lv : Value) (L : List Group) (h : RefW w w0 rb room lv L) (hok : RefOk L) (id : Int) :
    Calls Try.prog 20 #[.pointer (some ⟨rb, 0, none⟩), .int .i64 id] w (DelPost w w0 rb room L id) := by
  have HT := Lib.hid h
  have HAt := Lib.hid (rat_any w w0 rb room lv L h id)
  have HAi := Lib.hid (rAtF_in L id)
  have HPost : Hid (∀ e w', DelPost w w0 rb room L id e w' ↔ _) := Lib.hid (fun e w' => Iff.of_eq (by unfold DelPost; rfl))
  have HA : Hid (delR L id = _) := Lib.hid (by unfold delR; rfl)
  have HLd := Lib.hid (fun k (hk : k < L.length) W (hb : Below w.heap.size w W) => rleads_any W L[k] (okGroup_below (HT.out.okAt (List.getElem_mem hk)) hb (Nat.le_refl _)) (lead_ok (hok _ (List.getElem_mem hk))))
  have HW1 := Lib.hid (fun g (hg : g ∈ L) u (hu : u ∈ encGroup g) => (by
    have := (HT.out.okAt hg).2.2.1.1.one
    simp [encGroup] at hu; rcases hu with rfl | rfl | rfl <;> first | rfl | exact this : u.oneCell' = true))
  obtain ⟨la, lcap, hlv, hlcap, hlmax⟩ := h.row.slice
  subst hlv
  have hlen := h.len
  unfold maxLen at hlmax
  have K0 : Hid (Below w.heap.size w w) := Lib.hid (Below.refl _ _)
  clear h hok
  go_enter Try.func20, Try.ntmps20
  go_wp2_with fail
  refine HAt.out.mono ?_
  rintro e w1 ⟨rfl, hw1⟩
  subst hw1
  clear HAt
  cases hin : inL L id with
  | false =>
    have t1 : decide (rAtF L id < 0) = true := by have := inL_none hin; exact decide_eq_true this.1
    rw [if_pos hin] at HA
    clear hin HAi
    generalize rAtF L id = at0 at *
    go_wp2_with fail
    go_ret
    exact (HPost.out _ _).2 ⟨by rw [HA.out]; rfl, .inl ⟨by rw [HA.out]; decide, K0.out⟩⟩
  | true =>
    obtain ⟨i, hi, hat, hid, _, _⟩ := inL_at hin
    rw [if_neg (by simp [hin])] at HA
    rw [hat] at HPost ⊢
    have t1 : decide ((i : Int) < 0) = false := decide_eq_false (by omega)
    rcases ReadL.of_own HT.out.row encGroup_len with ⟨la', lcap', hlv', _, _, hnil | ⟨b, off, rfl, hblt, hcell⟩⟩
    · rw [hnil] at hi; simp at hi
    obtain ⟨rfl, rfl⟩ : la = some ⟨b, off, none⟩ ∧ lcap = lcap' := by simpa using hlv'
    have HRow := Lib.hid (fun k (hk : k < L.length) W (hb : Below w1.heap.size w1 W) => range_of hcell hb hblt k hk)
    have HLo := Lib.hid hid
    clear hin hat hcell hlv' HAi hid
    go_wp2_with fail
    go_loopw [6] (fun iv wr => ∃ k : Nat, k ≤ L.length ∧ iv = .int .i64 k ∧ Hid (Below w1.heap.size w1 wr) ∧ Hid (∀ j (hj : j < L.length), j < k → ledR id L[j] = false)) (fun iv _ => L.length - (intOf iv).toNat)
    case atStart => exact ⟨0, Nat.zero_le _, rfl, K0, Lib.hid (fun j hj hk => absurd hk (Nat.not_lt_zero _))⟩
    case round =>
      obtain ⟨k, hk, rfl, HB, HQ⟩ := hrel
      have c0 := (HT.out.below HB.out (Nat.le_refl _)).tab.cell 0 _ rfl
      by_cases hlt : k < L.length
      · have d2 : decide (k < L.length) = true := by simpa using hlt
        have HLd1 := Lib.hid (HLd.out k hlt)
        have r1 := HRow.out k hlt _ HB.out
        have HHit : Hid (ledR id L[k] = true → delR L id = 30) := Lib.hid (fun h => by rw [HA.out, if_pos (List.any_eq_true.2 ⟨_, List.getElem_mem hlt, h⟩)])
        have HQ2 : Hid (ledR id L[k] = false → ∀ j (hj : j < L.length), j < k + 1 → ledR id L[j] = false) := Lib.hid (fun h j hj hjk => if e : j = k then (by subst e; exact h) else HQ.out j hj (by omega))
        have HDef : Hid (ledR id L[k] = (leadsF (L[k].fBuckets.map coreB)).contains id) := Lib.hid rfl
        clear HQ HLd
        generalize L[k] = x at *
        simp only [encGroup] at r1
        go_wp2_with (first
          | (refine wpList_load_mid rfl 24 _ rfl _ _ rfl _ _ r1 Try.underlying24 rfl (by kernel_rfl) ?_)
          | fail)
        refine (HLd1.out _ HB.out).mono ?_
        rintro e w2 ⟨v2, B2, hB2, rfl, ho2, hb2⟩
        have HHs := Lib.hid (rhas_any w2 v2 _ (ReadL.of_own ho2 encI_len) id)
        rw [← HDef.out] at HHs
        have HB2 := Lib.hid (HB.out.trans (hb2.mono HB.out.size))
        clear ho2 hb2 hB2 HLd1 HDef r1 c0
        generalize ledR id x = C at *
        go_wp2_with fail
        refine HHs.out.mono ?_
        rintro e w3 ⟨rfl, hw3⟩
        subst hw3
        clear HHs
        cases C with
        | true =>
          have HA30 := Lib.hid (HHit.out rfl)
          clear HHit HQ2
          go_wp2_with fail
          go_ret
          exact (HPost.out _ _).2 ⟨by rw [HA30.out]; rfl, .inl ⟨by rw [HA30.out]; decide, HB2.out⟩⟩
        | false =>
          have HQ3 := Lib.hid (HQ2.out rfl)
          clear HHit HQ2
          go_wp2_with fail
          go_roundw
          case rel => exact ⟨k + 1, by omega, by go_num, HB2, HQ3⟩
          case measure => simp [intOf]; omega
      · have d2 : decide (k < L.length) = false := by simpa using hlt
        have HA0 : Hid (delR L id = 0) := Lib.hid (by
          rw [HA.out, if_neg]
          simp only [List.any_eq_true, not_exists, not_and]
          intro g hg
          obtain ⟨j, hj, rfl⟩ := List.getElem_of_mem hg
          simp [HQ.out j hj (by omega)])
        have HTw := HT.out.below HB.out (Nat.le_refl _)
        have HRd := Lib.hid (ReadL.of_own HTw.row encGroup_len)
        have HF := Lib.hid (HRd.out.front i (by omega))
        have HLi : (L.take i).length = i := by rw [List.length_take]; omega
        have hi1 : i + 1 ≤ L.length := hi
        clear HA HQ HLd HTw
        go_upto_region 10 with fail
        go_wp2_with (at_builtin; go_must (refine wpList_append_list (B := wr.heap.size) (vx := .slice none 0 0) (vy := .slice (some ⟨b, off, none⟩) i lcap) (xs := ([] : List Group)) (ys := L.take i) rfl _ _ rfl Try.underlying49 groupInfo rfl (by decide) encGroup_len rfl rfl (OwnL.nil _ _ _ _ _) HF.out (fun y hy => HW1.out y (List.mem_of_mem_take hy)) ?c1 ?c2 (Nat.le_refl _) ?_))
        case c1 => simp; omega
        case c2 => simp; omega
        intro v4 w4 ho4 hg4 _
        have HB4 := Lib.hid (HB.out.trans ((grownBy_none hg4).mono HB.out.size))
        have HT4 := Lib.hid (HT.out.below HB4.out (Nat.le_refl _))
        have HRd4 := Lib.hid (ReadL.of_own HT4.out.row encGroup_len)
        have HK := Lib.hid (HRd4.out.back (i + 1) hi1)
        have HO4 := Lib.hid ho4
        have HS4 : Hid (wr.heap.size ≤ w4.heap.size) := Lib.hid hg4.size
        clear ho4 hg4 HF HRd c0
        have c0 := HT4.out.tab.cell 0 _ rfl
        have hki : L.length - (i + 1) ≤ 64 := by omega
        obtain ⟨oa, oc, hov, _, hom⟩ := HO4.out.slice
        rw [HLi] at hov
        subst hov
        unfold maxLen at hom
        by_cases hci : lcap = i + 1
        case' pos =>
          subst hci
          simp only [if_true, Nat.sub_self] at HK
          rw [show L.length - (i + 1) = 0 by omega] at HK
        case' neg =>
          simp only [if_neg hci] at HK
        all_goals
          go_upto_region 11 with fail
          go_wp2_with (at_builtin; go_must (refine wpList_append_list (B := wr.heap.size) (vx := .slice oa i oc) (vy := _) (xs := L.take i) (ys := L.drop (i + 1)) rfl _ _ rfl Try.underlying49 groupInfo rfl (by decide) encGroup_len rfl rfl HO4.out HK.out (fun y hy => HW1.out y (List.mem_of_mem_drop hy)) ?c1 ?c2 HS4.out ?_))
          case c1 => simp; omega
          case c2 => simp; omega
          intro v5 w5 ho5 hg5 _
          have he : L.eraseIdx i = L.take i ++ L.drop (i + 1) := List.eraseIdx_eq_take_drop_succ ..
          rw [← he] at ho5
          have hl5 : (L.eraseIdx i).length ≤ 64 := by rw [List.length_eraseIdx_of_lt hi]; omega
          have hok5 : ∀ g ∈ L.eraseIdx i, okGroup w0 g := fun g hg => HT.out.ok g (List.mem_of_mem_eraseIdx hg)
          have ho6 : OwnL w5 w1.heap.size 24 3 encGroup v5 (L.eraseIdx i) := by
            rcases ho5.2 with ⟨hv, h0⟩ | ⟨q, cap, cur, hv, hq, r⟩
            · exact ⟨ho5.1, .inl ⟨hv, h0⟩⟩
            · exact ⟨ho5.1, .inr ⟨q, cap, cur, hv, Nat.le_trans HB.out.size hq, r⟩⟩
          have hb5 : Below w1.heap.size w1 w5 := HB4.out.grown hg5 HB4.out.size (fun q hq => Nat.le_trans HB.out.size (HO4.out.block q hq).1)
          obtain ⟨hR, hBar⟩ := HT.out.put hb5 ho6 hok5 hl5 rfl
          have HF2 := Lib.hid ((HPost.out (.returned (.int .i64 0)) _).2 ⟨by rw [HA0.out], .inr ⟨HA0.out, v5, by rw [Int.toNat_natCast]; exact hR, hBar, fun q hq => (ho6.block q hq).1⟩⟩)
          have htb := (HT.out.below hb5 (Nat.le_refl _)).tab
          have hrl := htb.lt
          have f0 := htb.frozen 0
          have q0 := htb.cell 0 _ rfl
          obtain ⟨o5, c5, hov5, _, _⟩ := ho6.slice
          subst hov5
          clear hR hBar ho6 ho5 hg5 hb5 he hl5 hok5 HPost HA0 htb c0
          go_wp2_with fail
          go_ret
          exact HF2.out
end Go.Proofs.Ytfjngecgfmlnfaa
