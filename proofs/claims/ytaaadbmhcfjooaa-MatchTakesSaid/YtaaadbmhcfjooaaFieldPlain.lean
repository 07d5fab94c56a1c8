/- Plain. -/
import Derived.Test.YtaaadbmhcfjooaaFieldGet
import Derived.Test.YtaaadbmhcfjooaaRow
import Derived.Deep.Cut
namespace Go.Proofs.Ytaaadbmhcfjooaa
open Go.RowKit
set_option linter.unusedVariables false

/-- The same packet, of the document's type. -/
theorem Plain_any (w : World) (s : Seen) : Calls Try.prog 23 #[valSeen s] w fun x w' => x = .returned (valSeen s) ∧ Below w.heap.size w w' := by
  obtain ⟨i0, n0, p⟩ := s
  obtain ⟨p0, p1, p2, p3, p4, p5, p6, p7, p8, p9, p10⟩ := p
  go_enter Try.func23, Try.ntmps23
  go_upto_region 1 with fail
  refine two_boxes_wp ?_
  intro W hb1 hb2 hbel hsz
  obtain ⟨c0, c1, c2, c3, c4, c5, c6, c7, c8, c9, c10, c11, c12⟩ := seen_cells hb1
  go_wp2_with (first
    | (refine wpList_load_at rfl 35 _ rfl _ _ rfl _ _ #[.int .u64 p0, .int .u64 p1, .int .i64 p2, .int .i64 p3, .int .u32 p4, .int .u32 p5, .int .i64 p6, .int .i64 p7, .int .i64 p8, .int .i64 p9, .string p10] _ hb1 rfl Try.underlying35 rfl (by kernel_rfl) ?_)
    | (refine wpList_store_row rfl 40 _ _ rfl _ rfl #[.int .i64 i0, .int .u64 n0, .int .u64 p0, .int .u64 p1, .int .i64 p2, .int .i64 p3, .int .u32 p4, .int .u32 p5, .int .i64 p6, .int .i64 p7, .int .i64 p8, .int .i64 p9, .string p10] rfl _ _ hb2 rfl (by kernel_rfl) (by simp [Value.oneCell']) ?_; intro W2 hs2 hbar)
    | fail)
  refine bodyPost_ret (v := valSeen ⟨i0, n0, p0, p1, p2, p3, p4, p5, p6, p7, p8, p9, p10⟩) (results_cell_row rfl _ _ (w.heap.size + 1) _ _ _ _ rfl hs2 Try.underlying40 rfl (by kernel_rfl)) rfl ⟨rfl, ?_⟩
  exact hbar.below hbel (Nat.le_succ _) hbel.size
end Go.Proofs.Ytaaadbmhcfjooaa
