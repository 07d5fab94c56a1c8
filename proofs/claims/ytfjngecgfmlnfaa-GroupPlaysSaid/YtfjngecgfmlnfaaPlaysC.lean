/- The reference's Get and Add. -/
import Derived.Test.YtfjngecgfmlnfaaPlaysB
namespace Go.Proofs.Ytfjngecgfmlnfaa
open Go.RowKit Go.Maps
set_option linter.unusedVariables false
set_option linter.unusedSimpArgs false

def getR (L : List Group) (id : Int) : Group := (L.find? fun g => decide (g.fID = id)).getD zeroG
theorem inL_at {L : List Group} {id : Int} (h : inL L id = true) : ∃ k, ∃ hk : k < L.length, rAtF L id = k ∧ L[k].fID = id ∧ getR L id = L[k] ∧ ∀ j (hj : j < L.length), j < k → L[j].fID ≠ id := by
  unfold inL at h
  obtain ⟨g, hg, he⟩ := List.any_eq_true.1 h
  cases hf : L.findIdx? (fun g => decide (g.fID = id)) with
  | none =>
    have := List.findIdx?_eq_none_iff.1 hf g hg
    rw [he] at this; cases this
  | some k =>
    obtain ⟨hk, hp, hmin⟩ := List.findIdx?_eq_some_iff_getElem.1 hf
    have hp' : L[k].fID = id := by simpa using hp
    refine ⟨k, hk, by unfold rAtF idxF; rw [hf], hp', ?_, fun j hj hjk => by have := hmin j hjk; simpa using this⟩
    unfold getR
    have : L.find? (fun g => decide (g.fID = id)) = some L[k] := by
      rw [List.find?_eq_some_iff_getElem]
      exact ⟨hp, k, hk, rfl, fun j hj => by have := hmin j hj; simpa using this⟩
    rw [this]; rfl
theorem inL_none {L : List Group} {id : Int} (h : inL L id = false) : rAtF L id < 0 ∧ getR L id = zeroG := by
  have h1 := rAtF_in L id
  rw [h] at h1
  refine ⟨by have := of_decide_eq_false h1; omega, ?_⟩
  unfold getR
  have : L.find? (fun g => decide (g.fID = id)) = none := by
    rw [List.find?_eq_none]
    intro g hg
    unfold inL at h
    have := List.any_eq_false.1 h g hg
    simpa using this
  rw [this]; rfl

set_option maxRecDepth 100000 in
set_option maxHeartbeats 4000000 in
theorem rGet_any (w w0 : World) (rb : Nat) (room : Int) (lv : Value) (L : List Group) (h : RefW w w0 rb room lv L) (id : Int) :
    Calls Try.prog 22 #[.pointer (some ⟨rb, 0, none⟩), .int .i64 id] w fun e w' => e = .returned (.tuple #[valGroup (getR L id), .int .i64 (okE (inL L id))]) ∧ okGroup w' (getR L id) ∧ Below w.heap.size w w' := by
  have HT := Lib.hid h
  have HAt := Lib.hid (fun (W : World) (hb : Below w.heap.size w W) => rat_any W w0 rb room lv L (HT.out.below hb (Nat.le_refl _)) id)
  obtain ⟨X, hX⟩ : ∃ X, X = okE (inL L id) := ⟨_, rfl⟩
  rw [← hX]
  have HX := Lib.hid hX
  obtain ⟨la, lcap, hlv, hlcap, hlmax⟩ := h.row.slice
  subst hlv
  have hlen := h.len
  unfold maxLen at hlmax
  clear h hX
  go_enter Try.func22, Try.ntmps22
  go_upto_region 1 with fail
  refine one_box_wp ?_
  intro W hb1 hbel hsz
  have K : Hid (KR w.heap.size w [(w.heap.size, 24, #[.int .i64 0, .int .i64 0, .slice none 0 0])] W) := Lib.hid ((KR.start hbel hbel.size).add hb1)
  clear hb1 hbel hsz
  go_wp2_with fail
  refine (HAt.out _ K.out.below).mono ?_
  rintro e w1 ⟨rfl, rfl⟩
  clear HAt
  cases hin : inL L id with
  | false =>
    obtain ⟨h0, hG⟩ := inL_none hin
    have HG := Lib.hid hG
    have e : X = 31 := by rw [HX.out, hin]; rfl
    subst e
    have t1 : decide (rAtF L id < 0) = true := decide_eq_true h0
    clear HX hin hG h0
    go_wp2_with (first
      | (refine wpList_store_row rfl 24 _ _ rfl _ rfl #[.int .i64 0, .int .i64 0, .slice none 0 0] rfl _ _ (K.out.at 0 rfl) rfl (by kernel_rfl) (by simp [Value.oneCell']) ?_)
      | fail)
    intro Wi hbi hbari
    have HB := Lib.hid (hbari.below K.out.below (Nat.le_refl _) K.out.size)
    clear hbari K
    go_wp2_with fail
    refine bodyPost_ret (v := .tuple #[.agg #[.int .i64 0, .int .i64 0, .slice none 0 0], .int .i64 31]) ?_ rfl ⟨by rw [HG.out]; rfl, by rw [HG.out]; exact (okGX_zero _ 0).ok, HB.out⟩
    exact results_row_tmp (p := 4) (u := 5) rfl _ _ w.heap.size _ _ _ rfl hbi Try.underlying24 rfl (by kernel_rfl)
  | true =>
    obtain ⟨k, hk, hat, hid, hget, _⟩ := inL_at hin
    have e : X = 0 := by rw [HX.out, hin]; rfl
    subst e
    rw [hat]
    have HGe := Lib.hid hget
    have t1 : decide ((k : Int) < 0) = false := decide_eq_false (by omega)
    have HTw := HT.out.below K.out.below (Nat.le_refl _)
    have c0 := HTw.tab.cell 0 _ rfl
    rcases ReadL.of_own HTw.row encGroup_len with ⟨la', lcap', hlv', _, _, hnil | ⟨b, off, rfl, hblt, hcell⟩⟩
    · rw [hnil] at hk; simp at hk
    obtain ⟨rfl, rfl⟩ : la = some ⟨b, off, none⟩ ∧ lcap = lcap' := by simpa using hlv'
    have r1 := range_of hcell (Below.refl _ _) hblt k hk
    have hok := HTw.okAt (List.getElem_mem hk)
    have HIn := Lib.hid hin
    clear HX hin hget hat hid hcell hlv' HTw
    obtain ⟨G, hG⟩ : ∃ G, G = L[k] := ⟨_, rfl⟩
    rw [← hG] at r1 hok HGe
    have HOk := Lib.hid hok
    clear hok hG
    obtain ⟨gi, gk, gv, bs⟩ := G
    simp only [encGroup] at r1
    have hx2 : ∀ u ∈ #[Value.int .i64 gi, Value.int .i64 gk, gv].toList, u.oneCell' = true := by
      have := HOk.out.2.2.1.1.one
      intro u hu; simp at hu; rcases hu with rfl | rfl | rfl <;> first | rfl | exact this
    go_wp2_with (first
      | (refine wpList_load_mid rfl 24 _ rfl _ _ rfl _ _ r1 Try.underlying24 rfl (by kernel_rfl) ?_)
      | (refine wpList_store_row rfl 24 _ _ rfl _ rfl #[.int .i64 gi, .int .i64 gk, gv] rfl _ _ (K.out.at 0 rfl) rfl (by kernel_rfl) hx2 ?_)
      | fail)
    intro Wi hbi hbari
    have HB := Lib.hid (hbari.below K.out.below (Nat.le_refl _) K.out.size)
    have HOk2 : Hid (okGroup Wi (getR L id)) := Lib.hid (by
      rw [HGe.out]
      have h1 := HT.out.below HB.out (Nat.le_refl _)
      have h2 : (⟨gi, gk, gv, bs⟩ : Group) ∈ L := by
        rw [← HGe.out]
        unfold getR
        cases hf : L.find? (fun g => decide (g.fID = id)) with
        | some g => exact List.mem_of_find?_eq_some hf
        | none =>
          exfalso
          have h3 := HIn.out
          unfold inL at h3
          obtain ⟨g, hg, he⟩ := List.any_eq_true.1 h3
          have := List.find?_eq_none.1 hf g hg
          exact this he
      exact h1.okAt h2)
    clear hbari K HOk hx2 r1 c0
    go_wp2_with fail
    refine bodyPost_ret (v := .tuple #[.agg #[.int .i64 gi, .int .i64 gk, gv], .int .i64 0]) ?_ rfl ⟨by rw [HGe.out], HOk2.out, HB.out⟩
    exact results_row_tmp (p := 4) (u := 5) rfl _ _ w.heap.size _ _ _ rfl hbi Try.underlying24 rfl (by kernel_rfl)
end Go.Proofs.Ytfjngecgfmlnfaa
