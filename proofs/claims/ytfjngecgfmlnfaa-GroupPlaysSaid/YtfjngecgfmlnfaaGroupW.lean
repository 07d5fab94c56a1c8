/- A table of groups: Get. -/
import Derived.Test.YtfjngecgfmlnfaaGroupV
namespace Go.Proofs.Ytfjngecgfmlnfaa
open Go.RowKit Go.Maps
set_option linter.unusedVariables false
set_option linter.unusedSimpArgs false

theorem few_get {l : List (Int × Group)} (h : TabOk l) (id : Int) : fewF (getG l id) = true := by
  unfold getG
  cases hq : lookL l id with
  | none => kernel_rfl
  | some g =>
    have h1 := h.2 _ (lookL_mem hq)
    simp only [Option.getD_some]
    simp only at h1
    exact few_of h1
def okE (b : Bool) : Int := if b then 0 else 31
set_option maxRecDepth 100000 in
set_option maxHeartbeats 8000000 in
theorem Get_any (w : World) (tb mb : Nat) (room : Int) (l : List (Int × Group)) (h : TableW w tb mb room l) (hok : TabOk l) (id : Int) (hid : wfI id) :
    Calls Try.prog 21 #[.pointer (some ⟨tb, 0, none⟩), .int .i64 id] w fun e w' => ∃ g', e = .returned (.tuple #[valGroup g', .int .i64 (okE (lookL l id).isSome)]) ∧ coreG g' = coreG (getG l id) ∧ okGroup w' g' ∧ Below w.heap.size w w' := by
  have HT := Lib.hid h
  have HTk := Lib.hid hok
  have HHas := Lib.hid (fun (W : World) (hb : Below w.heap.size w W) => has_any W tb mb room l (HT.out.below hb (Nat.le_refl _)) id hid)
  have HId := Lib.hid hid
  have hlt : mb < w.heap.size := h.map.lt
  have HLt := Lib.hid hlt
  obtain ⟨X, hX⟩ : ∃ X, X = okE (lookL l id).isSome := ⟨_, rfl⟩
  rw [← hX]
  have HX := Lib.hid hX
  clear h hid hlt hok hX
  go_enter Try.func21, Try.ntmps21
  go_upto_region 1 with fail
  refine one_box_wp ?_
  intro W hb1 hbel hsz
  have K : Hid (KR w.heap.size w [(w.heap.size, 24, #[.int .i64 0, .int .i64 0, .slice none 0 0])] W) := Lib.hid ((KR.start hbel hbel.size).add hb1)
  clear hb1 hbel hsz
  go_wp2_with fail
  refine (HHas.out _ K.out.below).mono ?_
  rintro e w1 ⟨rfl, hb1⟩
  replace K := Lib.hid (K.out.call hb1)
  clear hb1 HHas
  cases hl1 : (lookL l id).isSome with
  | false =>
    have HG : Hid (getG l id = zeroG) := Lib.hid (by
      have h : lookL l id = none := by simpa using hl1
      unfold getG
      simp only [h, Option.getD_none])
    have e : X = 31 := by rw [HX.out, hl1]; rfl
    subst e
    clear HX
    clear hl1
    go_wp2_with (first
      | (refine wpList_store_row rfl 24 _ _ rfl _ rfl #[.int .i64 0, .int .i64 0, .slice none 0 0] rfl _ _ (K.out.at 0 rfl) rfl (by kernel_rfl) (by simp [Value.oneCell']) ?_)
      | fail)
    intro Wi hbi hbari
    have HB := Lib.hid (hbari.below K.out.below (Nat.le_refl _) K.out.size)
    clear hbari K
    go_wp2_with fail
    refine bodyPost_ret (v := .tuple #[.agg #[.int .i64 0, .int .i64 0, .slice none 0 0], .int .i64 31]) ?_ rfl ⟨zeroG, rfl, by rw [HG.out], (okGX_zero _ 0).ok, HB.out⟩
    exact results_row_tmp (p := 4) (u := 5) rfl _ _ w.heap.size _ _ _ rfl hbi Try.underlying24 rfl (by kernel_rfl)
  | true =>
    have e : X = 0 := by rw [HX.out, hl1]; rfl
    subst e
    clear HX hl1
    have HT1 := HT.out.below K.out.below (Nat.le_refl _)
    have hlk := HT1.get id HId.out
    have c1 := HT1.tab.cell 1 _ rfl
    have HKp := Lib.hid (kept_any w1 (getG l id) (HT1.getOk id).ok (few_get HTk.out id))
    have hok := HT1.getOk id
    have HOkI := Lib.hid (And.intro hok.1 hok.2.1)
    have HM1 := Lib.hid (K.out.at 0 rfl).lt
    have HCG : Hid (∀ g' : Group, coreG g' = coreG (getG l id) ↔ g'.fID = (getG l id).fID ∧ g'.fKind = (getG l id).fKind ∧ g'.fBuckets.map coreB = (getG l id).fBuckets.map coreB) := Lib.hid (fun g' => by simp [coreG])
    obtain ⟨G, hG⟩ : ∃ G, G = getG l id := ⟨_, rfl⟩
    rw [← hG] at hlk HKp HOkI HCG
    have HGe := Lib.hid hG
    clear hok HT1 hG
    go_wp2_with fail
    refine HKp.out.mono ?_
    rintro e w2 ⟨v2, news, rfl, hn2, hc2, hb2⟩
    have hN2 : okGX w2 w.heap.size ⟨G.fID, G.fKind, v2, news⟩ := hn2.okGX HM1.out HOkI.out.1 HOkI.out.2
    replace K := Lib.hid (K.out.call hb2)
    have HN2 := Lib.hid hN2
    have HC2 := Lib.hid ((HCG.out ⟨G.fID, G.fKind, v2, news⟩).2 ⟨rfl, rfl, hc2⟩)
    have hx2 : ∀ u ∈ #[Value.int .i64 G.fID, Value.int .i64 G.fKind, v2].toList, u.oneCell' = true := by
      have := hN2.2.2.1.read.one
      intro u hu; simp at hu; rcases hu with rfl | rfl | rfl <;> first | rfl | exact this
    clear hN2 hn2 hc2 hb2 HKp hlk c1 HM1
    go_wp2_with (first
      | (refine wpList_store_row rfl 24 _ _ rfl _ rfl #[.int .i64 G.fID, .int .i64 G.fKind, v2] rfl _ _ (K.out.at 0 rfl) rfl (by kernel_rfl) hx2 ?_)
      | fail)
    intro Wi hbi hbari
    have HB := Lib.hid (hbari.below K.out.below (Nat.le_refl _) K.out.size)
    have HN3 := Lib.hid (HN2.out.bar hbari (Nat.le_refl _)).ok
    clear hbari K HN2 hx2
    go_wp2_with fail
    refine bodyPost_ret (v := .tuple #[.agg #[.int .i64 G.fID, .int .i64 G.fKind, v2], .int .i64 0]) ?_ rfl ⟨⟨G.fID, G.fKind, v2, news⟩, rfl, by rw [← HGe.out]; exact HC2.out, HN3.out, HB.out⟩
    exact results_row_tmp (p := 4) (u := 5) rfl _ _ w.heap.size _ _ _ rfl hbi Try.underlying24 rfl (by kernel_rfl)
end Go.Proofs.Ytfjngecgfmlnfaa
