/- slices.Clone at actions and at buckets (printed by gen/groupd.py). -/
import Derived.Test.YtfjngecgfmlnfaaGroupC
import Derived.OwnWalk
import Derived.Lib.Walk
import Derived.Lib.SliceRun
import Derived.WalkKit
namespace Go.Proofs.Ytfjngecgfmlnfaa
open Go.RowKit Go.Lib
set_option linter.unusedVariables false
set_option linter.unusedSimpArgs false

set_option maxRecDepth 100000 in
set_option maxHeartbeats 4000000 in
theorem cloneAction (w : World) (v : Value) (l : List Action) (h : ReadL w 3 encAction v l) (h1 : ∀ x ∈ l, ∀ u ∈ encAction x, u.oneCell' = true) (hl : l.length ≤ 1000000) :
    Calls Try.prog 50 #[v] w fun x w' => ∃ v', x = .returned v' ∧ OwnL w' w.heap.size 58 3 encAction v' l ∧ Below w.heap.size w w' := by
  obtain ⟨a, cap, rfl, hcap, hmax, hc⟩ := h
  have q22 : ∀ (w : World) (a : Option Addr) (n c n' c' : Nat), (binOp .eql 28 (.slice a n c) (.slice none n' c')).run Try.prog w = .ok (.bool a.isNone) w := fun w a n c n' c' => Lib.run_eql_slice_nil w _ _ a n c n' c' Try.underlying28
  have hflat : (l.flatMap encAction).length = l.length * 3 := by
    clear hc h1 hl hcap
    induction l with
    | nil => rfl
    | cons x xs ih => rw [List.flatMap_cons, List.length_append, ih, encAction_len, List.length_cons]; omega
  have HONE : Hid (∀ u ∈ l.flatMap encAction, u.oneCell' = true) := Lib.hid (fun u hu => by
    obtain ⟨x, hx, hu⟩ := List.mem_flatMap.1 hu
    exact h1 x hx u hu)
  cases a with
  | none =>
    have hn : l = [] := by
      rcases hc with h | ⟨b, off, h, _⟩
      · exact h
      · cases h
    subst hn
    clear hc HONE hflat h1
    go_enter Try.func50, Try.ntmps50
    go_wp2
    go_ret
    exact ⟨_, rfl, OwnL.nil _ _ _ _ _, Below.refl _ w⟩
  | some ad =>
    have A : Hid (∀ j u, (l.flatMap encAction)[j]? = some u → w.cell? (ad.add j) = some u) := Lib.hid (fun j u hu => by
      rcases hc with h | ⟨b, off, h, _, hcell⟩
      · subst h; simp at hu
      · cases h
        have hj : j < l.length * 3 := by
          rw [← hflat]; exact (List.getElem?_eq_some_iff.1 hu).1
        have hi : j / 3 < l.length := by omega
        have e := flat_get l encAction 3 encAction_len (j / 3) (j % 3) hi (by omega)
        rw [show j / 3 * 3 + j % 3 = j by omega, hu] at e
        have := hcell (j / 3) (j % 3) u hi e.symm
        rw [show j / 3 * 3 + j % 3 = j by omega] at this
        rw [Addr.add_lit]
        exact this)
    clear hc h1
    obtain ⟨i0, hi, hz0, hz1, hz2⟩ := info_parts (P := Try.prog) (e := 58) (z := .agg #[.int .i64 0, .int .i64 0, .int .u64 0]) (size := 3) (bytes := 24) (by kernel_rfl)
    have hsz : (.agg #[.int .i64 0, .int .i64 0, .int .u64 0] : Value).cells.size = 3 := rfl
    obtain ⟨news, hnews⟩ : ∃ news, news = l.flatMap encAction := ⟨_, rfl⟩
    rw [← hnews] at A HONE hflat
    have HF := Lib.hid hnews
    clear hnews
    go_enter Try.func50, Try.ntmps50
    go_wp2_with (at_builtin; refine wpList_append_own _ rfl _ _ 28 rfl w.heap.size 58 i0 _ 3 24 Try.underlying28 hi hz0 hz1 hz2 hsz (by decide) _ _ _ rfl (World.ownsRow_made w #[] 0 (Nat.le_refl _) (Nat.zero_le _) (by simp)) ad l.length cap news rfl ?qc1 ?qc2 ?qc3 ?qc4 ?qc5 ?qc6 ?_)
    case qc1 => exact hflat
    case qc2 =>
      intro j u hj
      have := A.out j u hj
      exact Lib.cell?_alloc_some _ this
    case qc3 => exact HONE.out
    case qc4 => unfold maxLen; omega
    case qc5 => omega
    case qc6 => simp
    intro v' w1 hown hgrow hnil
    go_wp2
    go_ret
    refine ⟨v', rfl, ?_, ?_⟩
    · unfold OwnL
      rw [← HF.out]
      simpa using hown
    · exact ((Below.refl _ w).alloc (Nat.le_refl _) _).grown hgrow (by simp) (by intro k hk; simp [Value.ownBlock] at hk; omega)

set_option maxRecDepth 100000 in
set_option maxHeartbeats 4000000 in
theorem cloneBucket (w : World) (v : Value) (l : List Bucket) (h : ReadL w 3 encBucket v l) (h1 : ∀ x ∈ l, ∀ u ∈ encBucket x, u.oneCell' = true) (hl : l.length ≤ 1000000) :
    Calls Try.prog 49 #[v] w fun x w' => ∃ v', x = .returned v' ∧ OwnL w' w.heap.size 30 3 encBucket v' l ∧ Below w.heap.size w w' := by
  obtain ⟨a, cap, rfl, hcap, hmax, hc⟩ := h
  have q22 : ∀ (w : World) (a : Option Addr) (n c n' c' : Nat), (binOp .eql 22 (.slice a n c) (.slice none n' c')).run Try.prog w = .ok (.bool a.isNone) w := fun w a n c n' c' => Lib.run_eql_slice_nil w _ _ a n c n' c' Try.underlying22
  have hflat : (l.flatMap encBucket).length = l.length * 3 := by
    clear hc h1 hl hcap
    induction l with
    | nil => rfl
    | cons x xs ih => rw [List.flatMap_cons, List.length_append, ih, encBucket_len, List.length_cons]; omega
  have HONE : Hid (∀ u ∈ l.flatMap encBucket, u.oneCell' = true) := Lib.hid (fun u hu => by
    obtain ⟨x, hx, hu⟩ := List.mem_flatMap.1 hu
    exact h1 x hx u hu)
  cases a with
  | none =>
    have hn : l = [] := by
      rcases hc with h | ⟨b, off, h, _⟩
      · exact h
      · cases h
    subst hn
    clear hc HONE hflat h1
    go_enter Try.func49, Try.ntmps49
    go_wp2
    go_ret
    exact ⟨_, rfl, OwnL.nil _ _ _ _ _, Below.refl _ w⟩
  | some ad =>
    have A : Hid (∀ j u, (l.flatMap encBucket)[j]? = some u → w.cell? (ad.add j) = some u) := Lib.hid (fun j u hu => by
      rcases hc with h | ⟨b, off, h, _, hcell⟩
      · subst h; simp at hu
      · cases h
        have hj : j < l.length * 3 := by
          rw [← hflat]; exact (List.getElem?_eq_some_iff.1 hu).1
        have hi : j / 3 < l.length := by omega
        have e := flat_get l encBucket 3 encBucket_len (j / 3) (j % 3) hi (by omega)
        rw [show j / 3 * 3 + j % 3 = j by omega, hu] at e
        have := hcell (j / 3) (j % 3) u hi e.symm
        rw [show j / 3 * 3 + j % 3 = j by omega] at this
        rw [Addr.add_lit]
        exact this)
    clear hc h1
    obtain ⟨i0, hi, hz0, hz1, hz2⟩ := info_parts (P := Try.prog) (e := 30) (z := .agg #[.int .i64 0, .int .i64 0, .slice none 0 0]) (size := 3) (bytes := 40) (by kernel_rfl)
    have hsz : (.agg #[.int .i64 0, .int .i64 0, .slice none 0 0] : Value).cells.size = 3 := rfl
    obtain ⟨news, hnews⟩ : ∃ news, news = l.flatMap encBucket := ⟨_, rfl⟩
    rw [← hnews] at A HONE hflat
    have HF := Lib.hid hnews
    clear hnews
    go_enter Try.func49, Try.ntmps49
    go_wp2_with (at_builtin; refine wpList_append_own _ rfl _ _ 22 rfl w.heap.size 30 i0 _ 3 40 Try.underlying22 hi hz0 hz1 hz2 hsz (by decide) _ _ _ rfl (World.ownsRow_made w #[] 0 (Nat.le_refl _) (Nat.zero_le _) (by simp)) ad l.length cap news rfl ?qc1 ?qc2 ?qc3 ?qc4 ?qc5 ?qc6 ?_)
    case qc1 => exact hflat
    case qc2 =>
      intro j u hj
      have := A.out j u hj
      exact Lib.cell?_alloc_some _ this
    case qc3 => exact HONE.out
    case qc4 => unfold maxLen; omega
    case qc5 => omega
    case qc6 => simp
    intro v' w1 hown hgrow hnil
    go_wp2
    go_ret
    refine ⟨v', rfl, ?_, ?_⟩
    · unfold OwnL
      rw [← HF.out]
      simpa using hown
    · exact ((Below.refl _ w).alloc (Nat.le_refl _) _).grown hgrow (by simp) (by intro k hk; simp [Value.ownBlock] at hk; omega)

end Go.Proofs.Ytfjngecgfmlnfaa
