/- Lists of numbers: sorted, asked, appended to. -/
import Derived.Test.YtggcmhjeflofmaaTopoG
import Derived.Test.YtggcmhjeflofmaaShelf
import Derived.Sort.OwnSortedInts
namespace Go.Proofs.Ytggcmhjeflofmaa
open Go.RowKit Go.Maps
set_option linter.unusedVariables false
set_option linter.unusedSimpArgs false

def sortI (xs : List Int) : List Int := xs.mergeSort fun x y => decide (x ≤ y)
theorem flat_encI (xs : List Int) : xs.flatMap encI = xs.map (Value.int .i64) := by
  induction xs with
  | nil => rfl
  | cons x xs ih => simp [encI, ih]
theorem sort_any (W : World) (B : Nat) (v : Value) (xs : List Int) (h : OwnL W B 3 1 encI v xs) (hne : xs ≠ []) (hl : xs.length < 4611686018427387904) :
    Calls Try.prog 33 #[v] W fun e w' => e = .returned (.tuple #[]) ∧ OwnL w' B 3 1 encI v (sortI xs) ∧ W.grownBy w' v.ownBlock := by
  obtain ⟨hlen, h2⟩ := h
  rcases h2 with ⟨hv, h0⟩ | ⟨g, cap, cur, rfl, hb, hg, hn, hc, hs, ht⟩
  · exact absurd (List.length_eq_zero_iff.1 h0) hne
  · have hlt : g < W.heap.size := by
      rcases Nat.lt_or_ge g W.heap.size with h | h
      · exact h
      · rw [Array.getElem?_eq_none h] at hg; cases hg
    have hle : (sortI xs).length = xs.length := List.length_mergeSort ..
    refine (Try.slices_Sort_int g 0 cap xs W (holds_of_blockI hg (by rw [Nat.mul_one, flat_encI] at ht; exact ht)) hlt hl).mono ?_
    rintro e w' ⟨rfl, n, os, rfl⟩
    refine ⟨rfl, ?_, grownBy_sortedI _⟩
    unfold OwnL
    rw [flat_encI, hle]
    exact ownsRow_sortedI hle hb hg hn hc hs
theorem contains_any (W : World) (v : Value) (xs : List Int) (x : Int) (h : ReadL W 1 encI v xs) :
    Calls Try.prog 32 #[v, .int .i64 x] W fun e w' => e = .returned (.bool (xs.contains x)) ∧ w' = W := by
  obtain ⟨a, cap, rfl, hcap, hmax, hc⟩ := h
  unfold maxLen at hmax
  rcases hc with rfl | ⟨b, off, rfl, hlt, hcell⟩
  · exact Try.slices_Contains_int_empty a cap x W
  · have := Try.slices_Contains_int b off xs.length cap xs x W (Nat.le_refl _) (by omega) (fun j hj => by
      have := hcell j 0 (.int .i64 xs[j]) hj (by simp [encI])
      simpa [List.getD, hj] using this)
    rw [List.take_length] at this
    exact this
/-- append of one, and where the list lies behind it. -/
theorem app_lies {P : Program} {ops : Array Oper} {rest : List Oper} {o : Oper} {a : Act} {Q : Exit → Act → World → Prop} {s x : Operand} {t e : TypeId} {z : Value} {bytes size B : Nat} {w : World} {v : Value} {α : Type} {enc : α → List Value} {xs : List α}
    (hown : OwnL w B e size enc v xs) (y : α) (ht : P.underlying t = some (.slice e)) (hinfo : (P.info? e).map (fun i => (i.zero, i.size, i.bytes)) = some (some z, size, bytes))
    (hzs : z.cells.size = size) (hsz : 0 < size) (hel : ∀ x, (enc x).length = size) (h1 : ∀ x, ∀ u ∈ enc x, u.oneCell' = true) (hgd : o.guard = none)
    (ho : o.op = .call { callee := .builtin .append, args := #[s, x], argTypes := #[t, t] }) (hs : a.eval s = v) (hx : a.eval x = .slice (some ⟨w.heap.size, 0, none⟩) 1 1)
    (hbytes : (xs.length + 1) * bytes ≤ 140737488355328) (hlen : xs.length + 1 ≤ 140737488355328) (hbase : B ≤ w.heap.size)
    (h : ∀ g cap w', OwnL w' B e size enc (.slice (some ⟨g, 0, none⟩) (xs.length + 1) cap) (xs ++ [y]) → w.grownBy w' v.ownBlock → (v.ownBlock = some g ∨ w.heap.size ≤ g) → wpList P ops Q rest (a.put o.dst (.slice (some ⟨g, 0, none⟩) (xs.length + 1) cap)) w') :
    wpList P ops Q (o :: rest) a (w.alloc (.cells (enc y).toArray e)) := by
  obtain ⟨i0, hi, hz0, hz1, hz2⟩ := info_parts hinfo
  refine wpList_append_lies _ hgd s x t ho B e i0 z size bytes ht hi hz0 hz1 hz2 hzs hsz v xs.length (xs.flatMap enc) hs (World.ownsRow.alloc hown _) ⟨w.heap.size, 0, none⟩ 1 1 (enc y) hx (by rw [hel]; omega) ?_ (h1 y) (by omega) (by unfold maxLen; omega) hbytes (by simp; omega) _ rfl ?_
  · intro j u hj
    have : (⟨w.heap.size, 0, none⟩ : Addr).add j = ⟨w.heap.size, j, none⟩ := by unfold Addr.add; split <;> simp_all
    rw [this, World.cell?_alloc_at _ _ _ _ rfl]
    simpa using hj
  · intro g cap w' hown' hg hat hlt
    refine h g cap w' ?_ ?_ ?_
    · unfold OwnL
      rw [List.flatMap_append, List.length_append]
      simpa using hown'
    · refine ⟨hg.os, hg.tape, hg.output, by have := hg.size; simp at this; omega, fun k hk hne => ?_⟩
      rw [hg.block k (by simp; omega) hne]
      exact Below.heap_alloc _ _ _ hk
    · rcases hat with h | h
      · exact .inl h
      · exact .inr (by rw [h]; simp)
end Go.Proofs.Ytggcmhjeflofmaa
