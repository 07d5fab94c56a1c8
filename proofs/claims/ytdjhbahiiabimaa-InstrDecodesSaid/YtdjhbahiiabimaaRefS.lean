/- droverref07.Same, of entries that are the same. -/
import Derived.Test.YtdjhbahiiabimaaInsC
import Derived.Laws.StructEq
import Derived.Deep.MidRow
namespace Go.Proofs.Ytdjhbahiiabimaa
open Go.RowKit
set_option linter.unusedVariables false
set_option linter.unusedSimpArgs false

set_option maxRecDepth 100000 in
theorem neq_act (x : Action) (W : World) : (binOp .neq 67 (.agg (encAction x).toArray) (.agg (encAction x).toArray)).run Try.prog W = .ok (.bool false) W := by
  have h2 : Try.prog.stoodInHeld 67 = false := by kernel_rfl
  simp [encAction, go_sem, Try.underlying67, Try.underlying3, Try.underlying24, h2]
set_option maxRecDepth 100000 in
set_option maxHeartbeats 4000000 in
theorem Same_eq (w : World) (v1 v2 : Value) (l : List Action) (h1 : ReadL w 3 encAction v1 l) (h2 : ReadL w 3 encAction v2 l) :
    Calls Try.prog 32 #[v1, v2] w fun x w' => x = .returned (.bool true) ∧ Below w.heap.size w w' := by
  obtain ⟨a1, cap1, rfl, hcap1, hmax1, hc1⟩ := h1
  obtain ⟨a2, cap2, rfl, hcap2, hmax2, hc2⟩ := h2
  unfold maxLen at hmax1 hmax2
  have H1 := Lib.hid hc1
  have H2 := Lib.hid hc2
  have H3 := Lib.hid (fun i (hi : i < l.length) => neq_act l[i])
  clear hc1 hc2
  go_enter Try.func32, Try.ntmps32
  go_wp2_with fail
  go_loopw [5] (fun iv wr => ∃ k : Nat, k ≤ l.length ∧ iv = .int .i64 k ∧ Hid (KR w.heap.size w [] wr)) (fun iv _ => l.length - (intOf iv).toNat)
  case atStart => exact ⟨0, Nat.zero_le _, rfl, Lib.hid (KR.start (Below.refl _ w) (Nat.le_refl _))⟩
  case round =>
    obtain ⟨k, hk, rfl, K⟩ := hrel
    by_cases hlt : k < l.length
    · have d2 : decide (k < l.length) = true := by simpa using hlt
      rcases H1.out with hnil | ⟨b1, off1, rfl, hb1, hcell1⟩
      · rw [hnil] at hlt; simp at hlt
      rcases H2.out with hnil | ⟨b2, off2, rfl, hb2, hcell2⟩
      · rw [hnil] at hlt; simp at hlt
      have R1 := Lib.hid (fun W (h : KR w.heap.size w [] W) => range_of hcell1 h.below hb1 k hlt)
      have R2 := Lib.hid (fun W (h : KR w.heap.size w [] W) => range_of hcell2 h.below hb2 k hlt)
      have hN := H3.out k hlt
      clear hcell1 hcell2 H1 H2 H3
      generalize l[k] = y at *
      haveI : Nonempty (Keep (KR w.heap.size w [])) := ⟨⟨_, K.out⟩⟩
      go_upto_region 6 with fail
      refine wp_region_keep2 (Cl := KR w.heap.size w []) (by kernel_rfl) (by kernel_rfl) K.out.drew ?_
      intro y' hy'
      clear hy' K
      repeat
        first
          | (refine wpQ2_rowk _ _ rfl _ (fun W h => run_loadVar_mid W _ _ 67 _ _ (R1.out W h) Try.underlying67 rfl (by kernel_rfl)) ?_ ?_
             · (go_simp; done))
          | (refine wpQ2_rowk _ _ rfl _ (fun W h => run_loadVar_mid W _ _ 67 _ _ (R2.out W h) Try.underlying67 rfl (by kernel_rfl)) ?_ ?_
             · (go_simp; done))
          | (refine wpQ2_step (fun K hK => ?_)
             go_simp
             first
               | (refine hK _ ?_; clear hK K)
               | (apply Exists.intro
                  refine ⟨fun _ => ?_, hK _ ?_⟩
                  (rw [if_neg (by omega)]; exact ⟨rfl, rfl⟩)
                  clear hK K))
      refine wpQ2_nil ?_
      intro Wk Kk
      have K := Lib.hid Kk
      clear Kk
      clear hN
      go_wp2_with fail
      go_roundw
      case rel => exact ⟨k + 1, by omega, by go_num, K⟩
      case measure => simp [intOf]; omega
    · have d2 : decide (k < l.length) = false := by simpa using hlt
      go_wp2_with fail
      go_ret
      exact ⟨rfl, K.out.below⟩

set_option maxRecDepth 100000 in
set_option maxHeartbeats 8000000 in
theorem ESame_eq (w : World) (tb pr pr' : Int) (vT vT' vA vA' vW vW' : Value) (lA lW : List Action) (cl : Bool) (me mk mt gt : Int) (h1 : ReadL w 3 encAction vA lA) (h2 : ReadL w 3 encAction vA' lA) (h3 : ReadL w 3 encAction vW lW) (h4 : ReadL w 3 encAction vW' lW) :
    Calls Try.prog 16 #[.agg (entC tb pr vT vA vW cl me mk mt gt), .agg (entC tb pr' vT' vA' vW' cl me mk mt gt)] w fun x w' => x = .returned (.bool true) ∧ Below w.heap.size w w' := by
  have HSA : Hid (∀ W : World, Below w.heap.size w W → _) := Lib.hid (fun W hb => Same_eq W vA vA' lA (h1.below hb (Nat.le_refl _)) (h2.below hb (Nat.le_refl _)))
  have HSW : Hid (∀ W : World, Below w.heap.size w W → _) := Lib.hid (fun W hb => Same_eq W vW vW' lW (h3.below hb (Nat.le_refl _)) (h4.below hb (Nat.le_refl _)))
  clear h1 h2 h3 h4
  go_enter Try.func16, Try.ntmps16
  go_upto_region 1 with fail
  refine two_boxes_wp ?_
  intro W hb1 hb2 hbel hsz
  have K : Hid (KR w.heap.size w [(w.heap.size, 26, entC tb pr vT vA vW cl me mk mt gt), (w.heap.size + 1, 26, entC tb pr' vT' vA' vW' cl me mk mt gt)] W) := Lib.hid (((KR.start hbel hbel.size).add hb2).add hb1)
  clear hb1 hb2 hbel hsz
  have c0 := (K.out.at 0 rfl).cell 0 _ rfl
  have d0 := (K.out.at 1 rfl).cell 0 _ rfl
  have c3 := (K.out.at 0 rfl).cell 3 _ rfl
  have d3 := (K.out.at 1 rfl).cell 3 _ rfl
  go_wp2_with fail
  refine (HSA.out _ K.out.below).mono ?_
  rintro e w' ⟨rfl, hb⟩
  replace K := Lib.hid (K.out.call hb)
  clear hb HSA
  clear c0 d0 c3 d3
  have c4 := (K.out.at 0 rfl).cell 4 _ rfl
  have d4 := (K.out.at 1 rfl).cell 4 _ rfl
  go_wp2_with fail
  refine (HSW.out _ K.out.below).mono ?_
  rintro e w' ⟨rfl, hb⟩
  replace K := Lib.hid (K.out.call hb)
  clear hb HSW
  clear c4 d4
  have c5 := (K.out.at 0 rfl).cell 5 _ rfl
  have d5 := (K.out.at 1 rfl).cell 5 _ rfl
  have c6 := (K.out.at 0 rfl).cell 6 _ rfl
  have d6 := (K.out.at 1 rfl).cell 6 _ rfl
  have c7 := (K.out.at 0 rfl).cell 7 _ rfl
  have d7 := (K.out.at 1 rfl).cell 7 _ rfl
  have c8 := (K.out.at 0 rfl).cell 8 _ rfl
  have d8 := (K.out.at 1 rfl).cell 8 _ rfl
  have c9 := (K.out.at 0 rfl).cell 9 _ rfl
  have d9 := (K.out.at 1 rfl).cell 9 _ rfl
  go_wp2_with fail
  go_ret
  exact ⟨rfl, K.out.below⟩
end Go.Proofs.Ytdjhbahiiabimaa
