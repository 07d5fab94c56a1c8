/- Groups, alike. -/
import Derived.Test.YtfjngecgfmlnfaaGroupB
import Derived.Test.YtfjngecgfmlnfaaKRInto
namespace Go.Proofs.Ytfjngecgfmlnfaa
open Go.RowKit
set_option linter.unusedVariables false
set_option linter.unusedSimpArgs false

def coreB (b : Bucket) : Int × Int × List Action := (b.fWatch, b.fWeight, b.fActions)
def coreG (g : Group) : Int × Int × List (Int × Int × List Action) := (g.fID, g.fKind, g.fBuckets.map coreB)

theorem okBucket_val {w : World} {b : Bucket} (h : okBucket w b) : ∀ v ∈ #[Value.int .i64 b.fWatch, Value.int .i64 b.fWeight, b.vActions].toList, v.oneCell' = true := by
  obtain ⟨a, cap, e, _, _⟩ := okBucket_slice h
  intro u hu
  simp at hu
  rcases hu with rfl | rfl | rfl
  · rfl
  · rfl
  · rw [e]; rfl

set_option maxRecDepth 100000 in
set_option maxHeartbeats 8000000 in
theorem SameGroup_eq (w : World) (g1 g2 : Group) (h1 : okGroup w g1) (h2 : okGroup w g2) (he : coreG g1 = coreG g2) :
    Calls Try.prog 12 #[valGroup g1, valGroup g2] w fun x w' => x = .returned (.bool true) ∧ Below w.heap.size w w' := by
  obtain ⟨gi, gk, gv, l1⟩ := g1
  obtain ⟨gi', gk', gv', l2⟩ := g2
  simp only [coreG, Prod.mk.injEq] at he
  obtain ⟨rfl, rfl, he⟩ := he
  obtain ⟨_, _, ⟨hR1, hB1⟩, _⟩ := h1
  obtain ⟨_, _, ⟨hR2, hB2⟩, _⟩ := h2
  simp only at hR1 hB1 hR2 hB2
  obtain ⟨a1, cap1, rfl, hcap1, hmax1, hc1⟩ := hR1
  obtain ⟨a2, cap2, rfl, hcap2, hmax2, hc2⟩ := hR2
  unfold maxLen at hmax1 hmax2
  have hll : l1.length = l2.length := by simpa using congrArg List.length he
  have HCO := Lib.hid (fun k (h1 : k < l1.length) (h2 : k < l2.length) => (by
    have := congrArg (fun l => l[k]?) he
    simpa [List.getElem?_eq_getElem h1, List.getElem?_eq_getElem h2] using this : coreB l1[k] = coreB l2[k]))
  have H1 := Lib.hid hc1
  have H2 := Lib.hid hc2
  have HB1 := Lib.hid hB1
  have HB2 := Lib.hid hB2
  have HN : Hid (l1.length = l2.length) := Lib.hid hll
  rw [← hll]
  rw [← hll] at hcap2
  clear hc1 hc2 hB1 hB2 hll he
  go_enter Try.func12, Try.ntmps12
  go_upto_region 1 with fail
  refine two_boxes_wp ?_
  intro W hb1 hb2 hbel hsz
  have K : Hid (KR w.heap.size w [(w.heap.size, 24, #[.int .i64 gi, .int .i64 gk, .slice a1 l1.length cap1]), (w.heap.size + 1, 24, #[.int .i64 gi, .int .i64 gk, .slice a2 l1.length cap2])] W) := Lib.hid (((KR.start hbel hbel.size).add hb2).add hb1)
  clear hb1 hb2 hbel hsz
  have c0 := (K.out.at 0 rfl).cell 0 (.int .i64 gi) rfl
  have c1 := (K.out.at 0 rfl).cell 1 (.int .i64 gk) rfl
  have c2 := (K.out.at 0 rfl).cell 2 (.slice a1 l1.length cap1) rfl
  have d0 := (K.out.at 1 rfl).cell 0 (.int .i64 gi) rfl
  have d1 := (K.out.at 1 rfl).cell 1 (.int .i64 gk) rfl
  have d2 := (K.out.at 1 rfl).cell 2 (.slice a2 l1.length cap2) rfl
  go_wp2_with fail
  clear c0 c1 c2 d0 d1 d2
  go_loopw [5] (fun iv wr => ∃ k : Nat, k ≤ l1.length ∧ iv = .int .i64 k ∧ Hid (KR w.heap.size w [(w.heap.size, 24, #[.int .i64 gi, .int .i64 gk, .slice a1 l1.length cap1]), (w.heap.size + 1, 24, #[.int .i64 gi, .int .i64 gk, .slice a2 l1.length cap2])] wr)) (fun iv _ => l1.length - (intOf iv).toNat)
  case atStart => exact ⟨0, Nat.zero_le _, rfl, K⟩
  case round =>
    obtain ⟨k, hk, rfl, K⟩ := hrel
    have c2 := (K.out.at 0 rfl).cell 2 (.slice a1 l1.length cap1) rfl
    have d2 := (K.out.at 1 rfl).cell 2 (.slice a2 l1.length cap2) rfl
    by_cases hlt : k < l1.length
    · have t2 : decide (k < l1.length) = true := by simpa using hlt
      have hlt2 : k < l2.length := by rw [← HN.out]; exact hlt
      rcases H1.out with hnil | ⟨b1, off1, rfl, hb1, hcell1⟩
      · rw [hnil] at hlt; simp at hlt
      rcases H2.out with hnil | ⟨b2, off2, rfl, hb2, hcell2⟩
      · rw [hnil] at hlt2; simp at hlt2
      have R1 := Lib.hid (fun W (h : Below w.heap.size w W) => range_of hcell1 h hb1 k hlt)
      have R2 := Lib.hid (fun W (h : Below w.heap.size w W) => range_of hcell2 h hb2 k hlt2)
      have hco := HCO.out k hlt hlt2
      have hx := HB1.out _ (List.getElem_mem hlt)
      have hy := HB2.out _ (List.getElem_mem hlt2)
      clear hcell1 hcell2 H1 H2 HB1 HB2 HCO HN
      generalize l1[k] = x at *
      generalize l2[k] = y at *
      clear hlt2
      have ox := okBucket_val hx
      have oy := okBucket_val hy
      obtain ⟨_, _, ⟨rx, _⟩, _⟩ := hx
      obtain ⟨_, _, ⟨ry, _⟩, _⟩ := hy
      obtain ⟨x1, x2, x3, x4⟩ := x
      obtain ⟨y1, y2, y3, y4⟩ := y
      simp only [coreB, Prod.mk.injEq] at hco
      obtain ⟨rfl, rfl, rfl⟩ := hco
      simp only [encBucket] at R1 R2
      simp only at ox oy rx ry
      have HS : Hid (∀ W, Below w.heap.size w W → Calls Try.prog 35 #[x3, y3] W fun x w' => x = .returned (.bool true) ∧ Below W.heap.size W w') := Lib.hid (fun W hb => Same_eq W x3 y3 x4 (rx.below hb (Nat.le_refl _)) (ry.below hb (Nat.le_refl _)))
      clear rx ry
      have r1 := R1.out _ K.out.below
      go_wp2_with (first
        | (refine wpList_load_mid rfl 30 _ rfl _ _ rfl _ _ r1 Try.underlying30 rfl (by kernel_rfl) ?_)
        | (refine wpList_store_row rfl 30 _ _ rfl _ rfl #[.int .i64 x1, .int .i64 x2, x3] rfl _ _ ((K.out.box _ _).at 0 rfl) rfl (by kernel_rfl) ox ?_)
        | fail)
      intro Wi hbi hbari
      replace K := Lib.hid (K.out.into hbari hbi)
      clear hbi hbari c2 d2 r1
      generalize wr.heap.size = g1 at *
      have d2 := (K.out.at 2 rfl).cell 2 (.slice (some ⟨b2, off2, none⟩) l1.length cap2) rfl
      have r2 := R2.out _ K.out.below
      go_wp2_with (first
        | (refine wpList_load_mid rfl 30 _ rfl _ _ rfl _ _ r2 Try.underlying30 rfl (by kernel_rfl) ?_)
        | (refine wpList_store_row rfl 30 _ _ rfl _ rfl #[.int .i64 x1, .int .i64 x2, y3] rfl _ _ ((K.out.box _ _).at 0 rfl) rfl (by kernel_rfl) oy ?_)
        | fail)
      intro Wj hbj hbarj
      replace K := Lib.hid (K.out.into hbarj hbj)
      clear hbj hbarj d2 r2
      generalize Wi.heap.size = g2 at *
      have b0 := (K.out.at 0 rfl).cell 0 (.int .i64 x1) rfl
      have b1' := (K.out.at 0 rfl).cell 1 (.int .i64 x2) rfl
      have b2' := (K.out.at 0 rfl).cell 2 y3 rfl
      have a0 := (K.out.at 1 rfl).cell 0 (.int .i64 x1) rfl
      have a1' := (K.out.at 1 rfl).cell 1 (.int .i64 x2) rfl
      have a2' := (K.out.at 1 rfl).cell 2 x3 rfl
      go_wp2_with fail
      refine (HS.out _ K.out.below).mono ?_
      rintro x ws ⟨rfl, bs⟩
      replace K := Lib.hid (K.out.call bs)
      clear bs HS b0 b1' b2' a0 a1' a2'
      go_wp2_with fail
      go_roundw
      case rel => exact ⟨k + 1, by omega, by go_num, Lib.hid (K.out.sub (by simp))⟩
      case measure => simp [intOf]; omega
    · have t2 : decide (k < l1.length) = false := by simpa using hlt
      go_wp2_with fail
      go_ret
      exact ⟨rfl, K.out.below⟩
end Go.Proofs.Ytfjngecgfmlnfaa
