/- Lists of actions, alike. -/
import Derived.Test.YtfjngecgfmlnfaaGroupA
import Derived.Laws.StructEq
import Derived.Deep.MidRow
namespace Go.Proofs.Ytfjngecgfmlnfaa
open Go.RowKit
set_option linter.unusedVariables false
set_option linter.unusedSimpArgs false

set_option maxRecDepth 100000 in
theorem neq_act (x : Action) (W : World) : (binOp .neq 58 (.agg (encAction x).toArray) (.agg (encAction x).toArray)).run Try.prog W = .ok (.bool false) W := by
  have h2 : Try.prog.stoodInHeld 58 = false := by kernel_rfl
  simp [encAction, go_sem, Try.underlying58, Try.underlying3, Try.underlying56, h2]
/-- An element's cells, whatever was laid since. -/
theorem range_of {α : Type} {w W : World} {size b off B : Nat} {enc : α → List Value} {xs : List α} (hc : ∀ i j u, (hi : i < xs.length) → (enc xs[i])[j]? = some u → w.cell? ⟨b, off + (i * size + j), none⟩ = some u)
    (hb : Below B w W) (hB : b < B) (i : Nat) (hi : i < xs.length) : W.rangeAt b (off + i * size) (enc xs[i]) := fun j v hv => by
  rw [hb.cell (p := ⟨b, off + i * size + j, none⟩) hB, Nat.add_assoc]
  exact hc i j v hi hv

set_option maxRecDepth 100000 in
set_option maxHeartbeats 4000000 in
theorem Same_eq (w : World) (v1 v2 : Value) (l : List Action) (h1 : ReadL w 3 encAction v1 l) (h2 : ReadL w 3 encAction v2 l) :
    Calls Try.prog 35 #[v1, v2] w fun x w' => x = .returned (.bool true) ∧ Below w.heap.size w w' := by
  obtain ⟨a1, cap1, rfl, hcap1, hmax1, hc1⟩ := h1
  obtain ⟨a2, cap2, rfl, hcap2, hmax2, hc2⟩ := h2
  unfold maxLen at hmax1 hmax2
  have H1 := Lib.hid hc1
  have H2 := Lib.hid hc2
  have H3 := Lib.hid (fun i (hi : i < l.length) => neq_act l[i])
  clear hc1 hc2
  go_enter Try.func35, Try.ntmps35
  go_wp2_with fail
  go_loopw [5] (fun iv wr => ∃ k : Nat, k ≤ l.length ∧ iv = .int .i64 k ∧ Hid (KR w.heap.size w [] wr)) (fun iv _ => l.length - (intOf iv).toNat)
  case atStart => exact ⟨0, Nat.zero_le _, rfl, Lib.hid (KR.start (Below.refl _ w) (Nat.le_refl _))⟩
  case round =>
    obtain ⟨k, hk, rfl, K⟩ := hrel
    by_cases hlt : k < l.length
    · have d2 : decide (k < l.length) = true := by simpa using hlt
      rcases H1.out with hnil | ⟨b1, off1, rfl, hb1, hcell1⟩
      · rw [hnil] at hlt; simp at hlt
      rcases H2.out with hnil | ⟨b2, off2, rfl, hb2, hcell2⟩
      · rw [hnil] at hlt; simp at hlt
      have R1 := Lib.hid (fun W (h : KR w.heap.size w [] W) => range_of hcell1 h.below hb1 k hlt)
      have R2 := Lib.hid (fun W (h : KR w.heap.size w [] W) => range_of hcell2 h.below hb2 k hlt)
      have hN := H3.out k hlt
      clear hcell1 hcell2 H1 H2 H3
      generalize l[k] = y at *
      haveI : Nonempty (Keep (KR w.heap.size w [])) := ⟨⟨_, K.out⟩⟩
      go_upto_region 6 with fail
      refine wp_region_keep2 (Cl := KR w.heap.size w []) (by kernel_rfl) (by kernel_rfl) K.out.drew ?_
      intro y' hy'
      clear hy' K
      repeat
        first
          | (refine wpQ2_rowk _ _ rfl _ (fun W h => run_loadVar_mid W _ _ 58 _ _ (R1.out W h) Try.underlying58 rfl (by kernel_rfl)) ?_ ?_
             · (go_simp; done))
          | (refine wpQ2_rowk _ _ rfl _ (fun W h => run_loadVar_mid W _ _ 58 _ _ (R2.out W h) Try.underlying58 rfl (by kernel_rfl)) ?_ ?_
             · (go_simp; done))
          | (refine wpQ2_step (fun K hK => ?_)
             go_simp
             first
               | (refine hK _ ?_; clear hK K)
               | (apply Exists.intro
                  refine ⟨fun _ => ?_, hK _ ?_⟩
                  (rw [if_neg (by omega)]; exact ⟨rfl, rfl⟩)
                  clear hK K))
      refine wpQ2_nil ?_
      intro Wk Kk
      have K := Lib.hid Kk
      clear Kk
      clear hN
      go_wp2_with fail
      go_roundw
      case rel => exact ⟨k + 1, by omega, by go_num, K⟩
      case measure => simp [intOf]; omega
    · have d2 : decide (k < l.length) = false := by simpa using hlt
      go_wp2_with fail
      go_ret
      exact ⟨rfl, K.out.below⟩
end Go.Proofs.Ytfjngecgfmlnfaa
