/- A table of groups: whole, New. -/
import Derived.Test.YtfjngecgfmlnfaaGroupO
namespace Go.Proofs.Ytfjngecgfmlnfaa
open Go.RowKit Go.Maps
set_option linter.unusedVariables false
set_option linter.unusedSimpArgs false

def wholeF (l : List (Int × Group)) (c : List Core) : Bool := (leadsF c).all fun n => (lookL l n).isSome
theorem leadsF_wf (c : List Core) (h : leadOk c) : ∀ n ∈ leadsF c, wfI n := by
  intro n hn
  unfold leadsF leadsA at hn
  obtain ⟨x, hx, hn⟩ := List.mem_flatMap.1 hn
  obtain ⟨a, ha, rfl⟩ := List.mem_map.1 hn
  obtain ⟨ha, hk⟩ := List.mem_filter.1 ha
  have := (h.2 x hx).2 a ha (by simpa using hk)
  exact WalkArith.wf_i64 (by omega)

set_option maxRecDepth 100000 in
set_option maxHeartbeats 4000000 in
theorem whole_any (w : World) (tb mb : Nat) (room : Int) (l : List (Int × Group)) (h : TableW w tb mb room l) (g : Group) (hg : okGroup w g) (hl : leadOk (g.fBuckets.map coreB)) :
    Calls Try.prog 38 #[.pointer (some ⟨tb, 0, none⟩), valGroup g] w fun e w' => e = .returned (.bool (wholeF l (g.fBuckets.map coreB))) ∧ Below w.heap.size w w' := by
  have hgv := hg.2.2.1.1.one
  have HLd : Hid (∀ W : World, Below w.heap.size w W → _) := Lib.hid (fun W hb => leads_any W g ⟨hg.1, hg.2.1, ⟨hg.2.2.1.1.below hb (Nat.le_refl _), fun y hy => okBucket_below (hg.2.2.1.2 y hy) hb (Nat.le_refl _)⟩, trivial⟩ hl)
  have HWf := Lib.hid (leadsF_wf _ hl)
  have HT := Lib.hid h
  obtain ⟨gi, gk, gv, bs⟩ := g
  simp only at *
  have HR : Hid ((!((leadsF (bs.map coreB)).any fun n => !(lookL l n).isSome)) = wholeF l (bs.map coreB)) := Lib.hid (by unfold wholeF; rw [List.not_any_eq_all_not]; simp)
  generalize wholeF l (bs.map coreB) = R at *
  generalize leadsF (bs.map coreB) = L at *
  clear hg h hl
  have EG := Lib.hid (enters_of Try.func56 (P := Try.prog) (by kernel_rfl) rfl)
  go_enter Try.func38, Try.ntmps38
  go_upto_region 1 with fail
  refine two_boxes_wp ?_
  intro W hb1 hb2 hbel hsz
  have K : Hid (KR w.heap.size w [(w.heap.size, 35, #[.pointer (some ⟨tb, 0, none⟩)]), (w.heap.size + 1, 24, #[.int .i64 gi, .int .i64 gk, gv])] W) := Lib.hid (((KR.start hbel hbel.size).add hb2).add hb1)
  clear hb1 hb2 hbel hsz
  go_wp2_with (first
    | (refine wpList_load_row rfl 24 _ rfl _ rfl _ _ _ _ (K.out.at 1 rfl) Try.underlying24 rfl (by kernel_rfl) ?_)
    | fail)
  refine (HLd.out _ K.out.below).mono ?_
  rintro e w1 ⟨v, B, hB, rfl, hown, hb1⟩
  replace K := Lib.hid (K.out.call hb1)
  have HF := Lib.hid (containsFuncI w1 v L 56 #[.pointer (some ⟨w.heap.size, 0, none⟩)] (fun n => !(lookL l n).isSome) (KR w.heap.size w [(w.heap.size, 35, #[.pointer (some ⟨tb, 0, none⟩)])]) wfI
    (fun W x hC hx => whole1_any W tb mb w.heap.size room l (HT.out.below hC.below (Nat.le_refl _)) (hC.at 0 rfl) x hx) (fun W W' hC hb => hC.call hb) (K.out.sub (by simp)) EG.out (ReadL.of_own hown encI_len) HWf.out)
  clear hown hb1 HLd hB
  go_wp2_with fail
  refine HF.out.mono ?_
  rintro e w2 ⟨rfl, hb2⟩
  have HB := Lib.hid (K.out.below.trans (hb2.mono K.out.size))
  clear hb2 HF
  generalize (L.any fun n => !(lookL l n).isSome) = A at *
  go_wp2_with fail
  go_ret
  exact ⟨by rw [← HR.out]; rfl, HB.out⟩

def okRoom (room : Int) : Bool := decide (1 ≤ room) && decide (room ≤ 64)
set_option maxRecDepth 100000 in
set_option maxHeartbeats 4000000 in
theorem New_none (w : World) (room : Int) (h : okRoom room = false) : Calls Try.prog 13 #[.int .i64 room] w fun e w' => e = .returned (.tuple #[.pointer none, .int .i64 1]) ∧ Below w.heap.size w w' := by
  simp only [okRoom, Bool.and_eq_false_iff, decide_eq_false_iff_not] at h
  have K : Hid (Below w.heap.size w w) := Lib.hid (Below.refl _ _)
  by_cases h1 : room < 1
  · have t1 : decide (room < 1) = true := decide_eq_true h1
    clear h
    go_enter Try.func13, Try.ntmps13
    go_wp2_with fail
    go_ret2
    exact ⟨rfl, K.out⟩
  · have t1 : decide (room < 1) = false := decide_eq_false h1
    have t2 : decide (64 < room) = true := decide_eq_true (by omega)
    clear h
    go_enter Try.func13, Try.ntmps13
    go_wp2_with fail
    go_ret2
    exact ⟨rfl, K.out⟩
set_option maxRecDepth 100000 in
set_option maxHeartbeats 4000000 in
theorem New_any (w : World) (room : Int) (h : okRoom room = true) : Calls Try.prog 13 #[.int .i64 room] w fun e w' => ∃ tb mb, e = .returned (.tuple #[.pointer (some ⟨tb, 0, none⟩), .int .i64 0]) ∧ w.heap.size ≤ mb ∧ TableW w' tb mb room [] ∧ Below w.heap.size w w' := by
  simp only [okRoom, Bool.and_eq_true, decide_eq_true_eq] at h
  have t1 : decide (room < 1) = false := decide_eq_false (by omega)
  have t2 : decide (64 < room) = false := decide_eq_false (by omega)
  have hmm := @run_makeMap Try.prog
  clear h
  go_enter Try.func13, Try.ntmps13
  go_wp2_with fail
  go_ret2
  refine ⟨w.heap.size + 1, w.heap.size, rfl, Nat.le_refl _, ⟨?_, ?_, by simp, by simp, by omega⟩, ?_⟩
  · have := BlkAt.new (w.alloc (.map #[] 0)) 68 #[.int .i64 room, .map (some w.heap.size)]
    simpa using this
  · exact (MapL.new w keyI valGroup).of_block (Below.heap_alloc _ _ _ (by simp))
  · exact ((Below.refl _ _).alloc (Nat.le_refl _) _).alloc (by simp) _
end Go.Proofs.Ytfjngecgfmlnfaa
