/- The walk of nums' Reader.Num. -/
import Derived.Test.YtdjhbahiiabimaaReader
namespace Go.Proofs.Ytdjhbahiiabimaa
open Go.RowKit
set_option linter.unusedVariables false

/-- A number put together byte by byte, as the walk spells it. -/
def numG (l : List UInt8) : Int := l.foldl (fun n b => Go.bits .or .u64 (IntKind.u64.wrap (n * 256)) (b.toNat : Int)) 0
theorem numG_snoc (l : List UInt8) (b : UInt8) : numG (l ++ [b]) = Go.bits .or .u64 (IntKind.u64.wrap (numG l * 256)) (b.toNat : Int) := by simp [numG]
theorem take_snoc' (l : List UInt8) (k : Nat) (h : k < l.length) : l.take (k + 1) = l.take k ++ [l.getD k 0] := by
  rw [List.take_succ_eq_append_getElem h]; simp [List.getD, h]

def NumPost (Q : World → Prop) (t : ByteArray) (x : Ending) (w' : World) : Prop :=
  x = .returned (.int .u64 (numG t.data.toList)) ∧ ∃ w1, Q w1 ∧ w' = Lib.bytesWorld w1 5 t

set_option maxRecDepth 100000 in
set_option maxHeartbeats 2000000 in
theorem Num_gen (w : World) (pv : Value) (n : Int) (right : Bool) (t : ByteArray) (Q : World → Prop) (hright : right = decide (1 ≤ n ∧ n ≤ 8)) (hsz : t.size ≤ 140737488351232)
    (H : Calls Try.prog 55 #[pv, .int .i64 n, .bool right] w fun x w' => x = .returned (.string t) ∧ Q w') :
    Calls Try.prog 43 #[pv, .int .i64 n] w (NumPost Q t) := by
  have HR := Lib.hid H
  clear H
  have hcv := fun (W : World) (t : ByteArray) => Lib.run_convert_string_bytes (P := Try.prog) W 9 43 5 t Try.underlying9 Try.underlying43 Try.underlying5
  have hcases : (1 ≤ n ∧ n ≤ 8 ∧ right = true) ∨ (¬ 1 ≤ n ∧ right = false) ∨ (1 ≤ n ∧ ¬ n ≤ 8 ∧ right = false) := by
    by_cases h1 : 1 ≤ n
    · by_cases h8 : n ≤ 8
      · exact .inl ⟨h1, h8, by subst hright; simp [h1, h8]⟩
      · exact .inr (.inr ⟨h1, h8, by subst hright; simp [h8]⟩)
    · exact .inr (.inl ⟨h1, by subst hright; simp [h1]⟩)
  clear hright
  rcases hcases with ⟨h1, h8, rfl⟩ | ⟨h1, rfl⟩ | ⟨h1, h8, rfl⟩
  all_goals
    go_enter Try.func43, Try.ntmps43
    go_wp2_with (go_at_call 55; refine HR.out.mono ?_; rintro e w1 ⟨rfl, h2⟩)
    have hcell : ∀ k, k < t.size → (Lib.bytesWorld w1 5 t).cell? ⟨w1.heap.size, k, none⟩ = some (.int .u8 ((t.data.toList.getD k 0).toNat : Int)) :=
      fun k hk => Lib.bytesWorld_cell w1 5 t k hk
    obtain ⟨W, hW⟩ : ∃ W, W = Lib.bytesWorld w1 5 t := ⟨_, rfl⟩
    rw [← hW] at hcell ⊢
    generalize grownCap w1 t.size 0 5 = cap
    have HC := Lib.hid hcell
    have HW := Lib.hid hW
    have HQ := Lib.hid h2
    clear hcell hW h2 HR hcv
    generalize hB : w1.heap.size = B at *
    clear hB
    have hl : t.data.toList.length = t.size := size_data _
    have HL := Lib.hid hl
    clear hl
    go_loop [5, 7, 19] (fun nv b iv => ∃ k : Nat, k ≤ t.size ∧ iv = .int .i64 k ∧ nv = .int .u64 (numG (t.data.toList.take k))) (fun _ _ iv => t.size - (intOf iv).toNat)
    case atStart => exact ⟨0, Nat.zero_le _, rfl, rfl⟩
    case round =>
      obtain ⟨k, hk, rfl, rfl⟩ := hrel
      by_cases hlt : k < t.size
      · obtain ⟨b, hb0, hb1, hcell, HS⟩ : ∃ b : Int, 0 ≤ b ∧ b ≤ 255 ∧ W.cell? ⟨B, k, none⟩ = some (.int .u8 b) ∧
            Hid (numG (t.data.toList.take (k + 1)) = Go.bits .or .u64 (IntKind.u64.wrap (numG (t.data.toList.take k) * 256)) b) := by
          refine ⟨((t.data.toList.getD k 0).toNat : Int), Int.natCast_nonneg _, ?_, HC.out k hlt, ?_⟩
          · have := (t.data.toList.getD k 0).toNat_lt; omega
          · have := numG_snoc (t.data.toList.take k) (t.data.toList.getD k 0)
            rw [← take_snoc' _ _ (by rw [HL.out]; exact hlt)] at this
            exact this
        go_wp2
        go_round
        case rel => exact ⟨k + 1, by omega, by go_num, by rw [HS.out]⟩
        case measure => simp [intOf]; omega
      · go_wp2
        go_ret
        exact ⟨ret_int (by rw [List.take_of_length_le (by rw [HL.out]; omega)]), w1, HQ.out, HW.out⟩

theorem Num_any (w : World) (g : Nat) (s : ByteArray) (e n : Int) (hr : RdAt w g s e) (hs : s.size ≤ 140737488351232) :
    Calls Try.prog 43 #[.pointer (some ⟨g, 0, none⟩), .int .i64 n] w fun x w' =>
      x = .returned (.int .u64 (numG (takeR s e n (decide (1 ≤ n ∧ n ≤ 8))).1.data.toList)) ∧
      RdAt w' g (takeR s e n (decide (1 ≤ n ∧ n ≤ 8))).2.1 (takeR s e n (decide (1 ≤ n ∧ n ≤ 8))).2.2 ∧ Bar g w w' := by
  refine (Num_gen w _ n _ _ _ rfl (Nat.le_trans (takeR_size _ _ _ _) hs) (take_any w g s e n _ hr hs (by intro h; simp at h; omega))).mono ?_
  rintro x w' ⟨rfl, w1, ⟨h1, h2⟩, rfl⟩
  exact ⟨rfl, (Lib.bytesWorld_at_old _ _ _ _ h1.lt).trans h1, h2.trans (Bar.of_below (below_bytes (Below.refl _ _) (Nat.le_refl _) _ _))⟩

theorem Num_nil (w : World) (n : Int) :
    Calls Try.prog 43 #[.pointer none, .int .i64 n] w fun x w' => x = .returned (.int .u64 0) ∧ Below w.heap.size w w' := by
  refine (Num_gen w _ n _ _ (fun w' => w = w') rfl (by decide) (take_nil w n _)).mono ?_
  rintro x w' ⟨rfl, w1, rfl, rfl⟩
  exact ⟨rfl, below_bytes (Below.refl _ _) (Nat.le_refl _) _ _⟩
end Go.Proofs.Ytdjhbahiiabimaa
