/- The walk of MatchTakes. -/
import Derived.Test.YtaaadbmhcfjooaaAwake05
import Derived.Test.YtaaadbmhcfjooaaMatchM
import Derived.Test.YtaaadbmhcfjooaaFieldPlain
namespace Go.Proofs.Ytaaadbmhcfjooaa
open Go.RowKit
set_option linter.unusedVariables false

set_option maxRecDepth 100000 in
set_option maxHeartbeats 8000000 in
theorem MatchTakes_walk (w : World) (v : Value) (l : List Test) (hv : ReadL w 3 encTest v l) (hok : ∀ x ∈ l, okTest w x) (s : Seen) (ok : okSeen w s) :
    Calls Try.prog 6 #[v, valSeen s] w fun x w' => x = .returned (.bool true) ∧ Below w.heap.size w w' := by
  have hm := wf_u64 ok.2.1
  have A := fun W (hW : Below w.heap.size w W) => ReadL.below hv hW (Nat.le_refl w.heap.size)
  have H1 := Lib.hid (fun W hW => Takes_any W v l s hm.1 (by omega) (A W hW))
  have H2 := Lib.hid (fun W hW => rTakes_any W v l s hm.1 (by omega) (A W hW))
  have HP := Lib.hid (fun W => Plain_any W s)
  clear A hok hm ok
  obtain ⟨xa, xc, rfl, _, _, _⟩ := hv
  generalize takesF l s = r at *
  have t1 : (r == r) = true := by simp
  by_cases hl : 40 < l.length
  · have d1 : decide ((40 : Int) < (l.length : Int)) = true := by simp; omega
    have d2 : ¬ ((l.length : Int) ≤ 40) := by omega
    clear hl
    go_enter Try.func6, Try.ntmps6
    go_upto_region 1 with fail
    refine one_box_wp ?_
    intro W hb1 hbel hsz
    have hK := Lib.hid ((KR.start hbel hbel.size).add hb1)
    clear hb1 hbel hsz
    haveI : Nonempty (Keep (KR w.heap.size w [(w.heap.size, 37, cellsSn s)])) := ⟨⟨_, hK.out⟩⟩
    refine wp_region_keep2 (Cl := (KR w.heap.size w [(w.heap.size, 37, cellsSn s)])) (by kernel_rfl) (by kernel_rfl) hK.out.drew ?_
    intro y' hy
    have g3 := fun tmps => hy tmps 3 8 rfl
    have g13 := fun tmps => hy tmps 13 18 rfl
    have gb := yl_bool
    clear hy hK
    repeat (first
      | (refine wpQ2_rowg _ _ rfl _ (fun W h => run_loadVar_row W _ _ 37 _ (0, 0) _ (KR.at h 0 rfl) Try.underlying37 rfl (by kernel_rfl)) ?_ ?_
         · (go_simp; done))
      | (refine wpQ2_step (fun K hK => ?_)
         go_simp
         first
           | (refine hK _ ?_; clear hK K)
           | (apply Exists.intro
              refine ⟨fun _ => ?_, hK _ ?_⟩
              (first
                | (exact Calls.keep (H1.out _ (KR.below (Keep.h _))) (fun w' hb => KR.call (Keep.h _) hb))
                | (exact Calls.keep (H2.out _ (KR.below (Keep.h _))) (fun w' hb => KR.call (Keep.h _) hb))
                | (exact Calls.keep (HP.out _) (fun w' hb => KR.call (Keep.h _) hb))
                | (exact Calls.keep (awake05 _) (fun w' hb => KR.call (Keep.h _) hb)))
              clear hK K)))
    refine wpQ2_nil ?_
    intro W9 K9
    have HB := Lib.hid K9.below
    clear K9 g3 g13 gb
    go_wp2
    go_ret
    exact ⟨rfl, HB.out⟩
  · have d1 : decide ((40 : Int) < (l.length : Int)) = false := by simp; omega
    have d2 : (l.length : Int) ≤ 40 := by omega
    clear hl
    go_enter Try.func6, Try.ntmps6
    go_upto_region 1 with fail
    refine one_box_wp ?_
    intro W hb1 hbel hsz
    have hK := Lib.hid ((KR.start hbel hbel.size).add hb1)
    clear hb1 hbel hsz
    haveI : Nonempty (Keep (KR w.heap.size w [(w.heap.size, 37, cellsSn s)])) := ⟨⟨_, hK.out⟩⟩
    refine wp_region_keep2 (Cl := (KR w.heap.size w [(w.heap.size, 37, cellsSn s)])) (by kernel_rfl) (by kernel_rfl) hK.out.drew ?_
    intro y' hy
    have g3 := fun tmps => hy tmps 3 8 rfl
    have g13 := fun tmps => hy tmps 13 18 rfl
    have gb := yl_bool
    clear hy hK
    repeat (first
      | (refine wpQ2_rowg _ _ rfl _ (fun W h => run_loadVar_row W _ _ 37 _ (0, 0) _ (KR.at h 0 rfl) Try.underlying37 rfl (by kernel_rfl)) ?_ ?_
         · (go_simp; done))
      | (refine wpQ2_step (fun K hK => ?_)
         go_simp
         first
           | (refine hK _ ?_; clear hK K)
           | (apply Exists.intro
              refine ⟨fun _ => ?_, hK _ ?_⟩
              (first
                | (exact Calls.keep (H1.out _ (KR.below (Keep.h _))) (fun w' hb => KR.call (Keep.h _) hb))
                | (exact Calls.keep (H2.out _ (KR.below (Keep.h _))) (fun w' hb => KR.call (Keep.h _) hb))
                | (exact Calls.keep (HP.out _) (fun w' hb => KR.call (Keep.h _) hb))
                | (exact Calls.keep (awake05 _) (fun w' hb => KR.call (Keep.h _) hb)))
              clear hK K)))
    refine wpQ2_nil ?_
    intro W9 K9
    have HB := Lib.hid K9.below
    clear K9 g3 g13 gb
    go_wp2
    go_ret
    exact ⟨rfl, HB.out⟩
end Go.Proofs.Ytaaadbmhcfjooaa
