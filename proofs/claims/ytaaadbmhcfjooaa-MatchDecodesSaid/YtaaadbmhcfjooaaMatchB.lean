/- Tests: whole and based, of both packages. -/
import Derived.Test.YtaaadbmhcfjooaaMatchA
import Derived.Shelf.Abstract
namespace Go.Proofs.Ytaaadbmhcfjooaa
open Go.RowKit
set_option linter.unusedVariables false

theorem wholeF_at (l : List Test) (f : Int) (k : Nat) (hk : k < l.length) (h1 : isW f l[k] = true) (h0 : ∀ j (hj : j < l.length), j < k → isW f l[j] = false) : wholeF l f = (l[k].fValue, true) := by
  unfold wholeF
  rw [List.find?_eq_some_iff_getElem.2 ⟨h1, k, hk, rfl, fun j hj => by simp [h0 j (by omega) hj]⟩]
theorem wholeF_none (l : List Test) (f : Int) (h0 : ∀ j (hj : j < l.length), isW f l[j] = false) : wholeF l f = (0, false) := by
  unfold wholeF
  rw [List.find?_eq_none.2 (fun x hx => by obtain ⟨j, hj, rfl⟩ := List.getElem_of_mem hx; simp [h0 j hj])]

set_option maxRecDepth 100000 in
set_option maxHeartbeats 4000000 in
theorem whole_any (w : World) (v : Value) (l : List Test) (f : Int) (h : ReadL w 3 encTest v l) :
    Calls Try.prog 32 #[v, .int .i64 f] w fun e w' => e = .returned (.tuple #[.int .u64 (wholeF l f).1, .bool (wholeF l f).2]) ∧ Below w.heap.size w w' := by
  have eg : ∀ args w, (callFunc 52 args).run Try.prog w = .ok (.enter 52 args) w := enters_of Try.func52 (by kernel_rfl) rfl
  have HEG := Lib.hid eg
  clear eg
  rcases idxI_cases (isW f) l with ⟨e1, e2⟩ | ⟨k, hk, e1, e2⟩
  · have ew : wholeF l f = (0, false) := by unfold wholeF; rw [e2]
    rw [ew]
    clear e2 ew
    have E1 := Lib.hid e1
    clear e1
    go_enter Try.func32, Try.ntmps32
    go_upto_region 1 with fail
    refine one_box_wp ?_
    intro W hb1 hbel hsz
    have HI := Lib.hid (indexF_any 52 #[.pointer (some ⟨w.heap.size, 0, none⟩)] (isW f) HEG.out W v l (h.below hbel (Nat.le_refl _)) (fun W' x hb => isW_any W W' f w.heap.size hsz.out ((cell_of_row W _ 0 _ _ (0, 0) hb1).trans rfl) x hb))
    rw [E1.out] at HI
    clear hb1 hsz
    have HB := Lib.hid hbel
    clear hbel
    go_wp2_with fail
    refine HI.out.mono ?_
    rintro e w' ⟨rfl, hb'⟩
    have hbb := HB.out.trans (hb'.mono HB.out.size)
    go_wp2
    go_ret2
    exact ⟨rfl, hbb⟩
  · have ew : wholeF l f = (l[k].fValue, true) := by unfold wholeF; rw [e2]
    rw [ew]
    clear e2 ew
    have E1 := Lib.hid e1
    clear e1
    have HR := Lib.hid h
    obtain ⟨a, cap, rfl, hcap, hmax, hcells⟩ := h
    rcases hcells with hnil | ⟨b, off, rfl, hblt, hcell⟩
    · rw [hnil] at hk; simp at hk
    have HC := Lib.hid (hcell k 1 _ hk rfl)
    clear hcell hcap hmax
    generalize l[k].fValue = tv at HC ⊢
    have d1 : decide (k < l.length) = true := by simpa using hk
    go_enter Try.func32, Try.ntmps32
    go_upto_region 1 with fail
    refine one_box_wp ?_
    intro W hb1 hbel hsz
    have HI := Lib.hid (indexF_any 52 #[.pointer (some ⟨w.heap.size, 0, none⟩)] (isW f) HEG.out W _ l (HR.out.below hbel (Nat.le_refl _)) (fun W' x hb => isW_any W W' f w.heap.size hsz.out ((cell_of_row W _ 0 _ _ (0, 0) hb1).trans rfl) x hb))
    rw [E1.out] at HI
    clear hb1 hsz
    have HB := Lib.hid hbel
    clear hbel
    go_wp2_with fail
    refine HI.out.mono ?_
    rintro e w' ⟨rfl, hb'⟩
    have hbb := HB.out.trans (hb'.mono HB.out.size)
    have c1 := (hbb.cell (p := ⟨b, off + (k * 3 + 1), none⟩) hblt).trans HC.out
    simp only [← Nat.add_assoc] at c1
    have HBB := Lib.hid hbb
    clear hbb hb'
    go_wp2
    go_ret2
    exact ⟨rfl, HBB.out⟩

end Go.Proofs.Ytaaadbmhcfjooaa
