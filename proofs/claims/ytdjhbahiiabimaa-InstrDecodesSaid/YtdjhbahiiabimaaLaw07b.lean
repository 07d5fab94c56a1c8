/- InstrRight. -/
import Derived.Test.YtdjhbahiiabimaaLaw07a
import Derived.Test.YtdjhbahiiabimaaRefZ
namespace Go.Proofs.Ytdjhbahiiabimaa
open Go.RowKit
set_option linter.unusedVariables false
set_option linter.unusedSimpArgs false

theorem entOk_of {w : World} {x : Entry} (hok : okEntry w x) (hf : fewE x = true) : EntOk w x := by
  obtain ⟨_, _, _, ⟨ha, oa⟩, ⟨hw, ow⟩, h1, h2, _, _, _⟩ := hok
  unfold fewE at hf
  simp only [Bool.and_eq_true, decide_eq_true_eq] at hf
  refine ⟨ha, hw, fun a h => okV_of (oa a h), fun a h => okV_of (ow a h), Nat.le_trans hf.1 (by decide), Nat.le_trans hf.2 (by decide), ?_, ?_⟩
  · simp [Lit.wf, IntKind.min, IntKind.max, IntKind.signed, IntKind.bits] at h1; omega
  · simp [Lit.wf, IntKind.min, IntKind.max, IntKind.signed, IntKind.bits] at h2; omega
theorem r7Right_any (w : World) (x : Entry) (h : EntOk w x) : Calls Try.prog 10 #[valEntry x] w fun e w' => e = .returned (.int .i64 (rightE x)) ∧ Below w.heap.size w w' :=
  r7Right_of w x h (fun W v l hr ho hl => r6Encode_any W v l hr ho hl)
set_option maxRecDepth 100000 in
set_option maxHeartbeats 8000000 in
theorem InstrRight_walk (w : World) (x : Entry) (hok : okEntry w x) : Calls Try.prog 3 #[valEntry x] w fun e w' => e = .returned (.bool true) ∧ Below w.heap.size w w' := by
  have HA := Lib.hid awake07
  have HFw : Hid (∀ W : World, Below w.heap.size w W → _) := Lib.hid (fun W hb => few_any W x (hok.2.2.2.1.1.below hb (Nat.le_refl _)) (hok.2.2.2.2.1.1.below hb (Nat.le_refl _)))
  have HR : Hid (fewE x = true → ∀ W : World, Below w.heap.size w W → _) := Lib.hid (fun hf W hb => Right_any W x ((entOk_of hok hf).below hb (Nat.le_refl _)))
  have HR' : Hid (fewE x = true → ∀ W : World, Below w.heap.size w W → _) := Lib.hid (fun hf W hb => r7Right_any W x ((entOk_of hok hf).below hb (Nat.le_refl _)))
  generalize rightE x = R at *
  generalize fewE x = F at *
  obtain ⟨tb, pr, vT, fT, vA, fA, vW, fW, cl, me, mk, mt, gt⟩ := x
  (try simp only at *)
  clear hok
  cases F
  · clear HR HR'
    go_enter Try.func3, Try.ntmps3
    go_upto_region 1 with fail
    refine one_box_wp ?_
    intro W hb1 hbel hsz
    have K : Hid (KR w.heap.size w [(w.heap.size, 26, entC tb pr vT vA vW cl me mk mt gt)] W) := Lib.hid ((KR.start hbel hbel.size).add hb1)
    clear hb1 hbel hsz
    haveI : Nonempty (Keep (KR w.heap.size w [(w.heap.size, 26, entC tb pr vT vA vW cl me mk mt gt)])) := ⟨⟨_, K.out⟩⟩
    refine wp_region_keep2 (Cl := KR w.heap.size w [(w.heap.size, 26, entC tb pr vT vA vW cl me mk mt gt)]) (by kernel_rfl) (by kernel_rfl) K.out.drew ?_
    intro y' hy'
    have g3_ := fun tmps => hy' tmps 3 6 rfl
    have g10_ := fun tmps => hy' tmps 10 13 rfl
    have gb_ := yl_bool
    clear hy' K
    repeat
      first
        | (refine wpQ2_rowk _ _ rfl _ (fun W h => run_loadVar_row W _ _ 26 _ (0, 0) _ (KR.at h 0 rfl) Try.underlying26 rfl (by kernel_rfl)) ?_ ?_
           · (go_simp; done))
        | (refine wpQ2_step (fun K hK => ?_)
           go_simp
           first
             | (refine hK _ ?_; clear hK K)
             | (apply Exists.intro
                refine ⟨fun _ => ?_, hK _ ?_⟩
                (rw [if_neg (by omega)]; exact ⟨rfl, rfl⟩)
                clear hK K)
             | (apply Exists.intro
                refine ⟨fun _ => ?_, hK _ ?_⟩
                ((with_reducible refine Calls.keep (HFw.out _ (KR.below (Keep.h _))) ?_); exact (fun w' hb => KR.call (Keep.h _) hb))
                clear hK K)
             | (apply Exists.intro
                refine ⟨fun _ => ?_, hK _ ?_⟩
                ((with_reducible refine Calls.keep (HA.out _) ?_); exact (fun w' hb => KR.call (Keep.h _) hb))
                clear hK K))
    refine wpQ2_nil ?_
    intro Wk Kk
    have K := Lib.hid Kk
    clear Kk
    clear gb_ g3_ g10_
    go_wp2_with fail
    go_ret
    exact ⟨rfl, K.out.below⟩
  · replace HR := Lib.hid (HR.out rfl)
    replace HR' := Lib.hid (HR'.out rfl)
    go_enter Try.func3, Try.ntmps3
    go_upto_region 1 with fail
    refine one_box_wp ?_
    intro W hb1 hbel hsz
    have K : Hid (KR w.heap.size w [(w.heap.size, 26, entC tb pr vT vA vW cl me mk mt gt)] W) := Lib.hid ((KR.start hbel hbel.size).add hb1)
    clear hb1 hbel hsz
    haveI : Nonempty (Keep (KR w.heap.size w [(w.heap.size, 26, entC tb pr vT vA vW cl me mk mt gt)])) := ⟨⟨_, K.out⟩⟩
    refine wp_region_keep2 (Cl := KR w.heap.size w [(w.heap.size, 26, entC tb pr vT vA vW cl me mk mt gt)]) (by kernel_rfl) (by kernel_rfl) K.out.drew ?_
    intro y' hy'
    have g3_ := fun tmps => hy' tmps 3 6 rfl
    have g10_ := fun tmps => hy' tmps 10 13 rfl
    have gb_ := yl_bool
    clear hy' K
    repeat
      first
        | (refine wpQ2_rowk _ _ rfl _ (fun W h => run_loadVar_row W _ _ 26 _ (0, 0) _ (KR.at h 0 rfl) Try.underlying26 rfl (by kernel_rfl)) ?_ ?_
           · (go_simp; done))
        | (refine wpQ2_step (fun K hK => ?_)
           go_simp
           first
             | (refine hK _ ?_; clear hK K)
             | (apply Exists.intro
                refine ⟨fun _ => ?_, hK _ ?_⟩
                (rw [if_neg (by omega)]; exact ⟨rfl, rfl⟩)
                clear hK K)
             | (apply Exists.intro
                refine ⟨fun _ => ?_, hK _ ?_⟩
                ((with_reducible refine Calls.keep (HFw.out _ (KR.below (Keep.h _))) ?_); exact (fun w' hb => KR.call (Keep.h _) hb))
                clear hK K)
             | (apply Exists.intro
                refine ⟨fun _ => ?_, hK _ ?_⟩
                ((with_reducible refine Calls.keep (HR.out _ (KR.below (Keep.h _))) ?_); exact (fun w' hb => KR.call (Keep.h _) hb))
                clear hK K)
             | (apply Exists.intro
                refine ⟨fun _ => ?_, hK _ ?_⟩
                ((with_reducible refine Calls.keep (HR'.out _ (KR.below (Keep.h _))) ?_); exact (fun w' hb => KR.call (Keep.h _) hb))
                clear hK K)
             | (apply Exists.intro
                refine ⟨fun _ => ?_, hK _ ?_⟩
                ((with_reducible refine Calls.keep (HA.out _) ?_); exact (fun w' hb => KR.call (Keep.h _) hb))
                clear hK K))
    refine wpQ2_nil ?_
    intro Wk Kk
    have K := Lib.hid Kk
    clear Kk
    clear gb_ g3_ g10_
    go_wp2_with fail
    go_ret
    exact ⟨rfl, K.out.below⟩
end Go.Proofs.Ytdjhbahiiabimaa
