/- Lists that lie in memory: what is read of a slice, one that came in or one of the call's own. -/
import Derived.Test.YtfjngecgfmlnfaaOwn
import Derived.Deep.Slices
import Derived.Deep.Fields
import Derived.ChangeSame
namespace Go.Proofs.Ytfjngecgfmlnfaa
open Go.RowKit Go.ChangeShapes Go.WideShapes Go.Deep
set_option linter.unusedVariables false

section
variable {α : Type}
/-- v is a slice of which xs is read: each told by enc in 'size' cells. -/
def ReadL (w : World) (size : Nat) (enc : α → List Value) (v : Value) (xs : List α) : Prop :=
  ∃ (a : Option Addr) (cap : Nat), v = .slice a xs.length cap ∧ xs.length ≤ cap ∧ cap ≤ maxLen ∧
    (xs = [] ∨ ∃ b off, a = some ⟨b, off, none⟩ ∧ b < w.heap.size ∧ ∀ i j u, (hi : i < xs.length) → (enc xs[i])[j]? = some u → w.cell? ⟨b, off + (i * size + j), none⟩ = some u)
variable {w w' : World} {size : Nat} {enc : α → List Value} {v : Value} {xs : List α}
theorem ReadL.below (h : ReadL w size enc v xs) {B : Nat} (hb : Below B w w') (hB : w.heap.size ≤ B) : ReadL w' size enc v xs := by
  obtain ⟨a, cap, hv, h1, h2, h3⟩ := h
  refine ⟨a, cap, hv, h1, h2, ?_⟩
  rcases h3 with h3 | ⟨b, off, ha, hlt, hc⟩
  · exact .inl h3
  · refine .inr ⟨b, off, ha, Nat.lt_of_lt_of_le hlt hb.size, fun i j u hi hu => ?_⟩
    rw [hb.cell (show b < B by omega)]
    exact hc i j u hi hu
theorem ReadL.alloc (h : ReadL w size enc v xs) (o : Obj) : ReadL (w.alloc o) size enc v xs := h.below ((Below.refl _ _).alloc (Nat.le_refl _) o) (Nat.le_refl _)
theorem ReadL.drew (h : ReadL w size enc v xs) : ReadL w.drew size enc v xs := h
theorem ReadL.drewN (h : ReadL w size enc v xs) (n : Nat) : ReadL (w.drewN n) size enc v xs := h
theorem ReadL.of_own {B : Nat} {e : TypeId} (h : OwnL w B e size enc v xs) (he : ∀ x, (enc x).length = size) : ReadL w size enc v xs := by
  rcases h.form he with ⟨rfl, rfl⟩ | ⟨g, cap, rfl, _, hlt, h1, h2, _, hc⟩
  · exact ⟨none, 0, rfl, Nat.le_refl _, by simp [maxLen], .inl rfl⟩
  · exact ⟨_, cap, rfl, h1, h2, .inr ⟨g, 0, rfl, hlt, fun i j u hi hu => by rw [Nat.zero_add]; exact hc i j u hi hu⟩⟩
theorem ReadL.nil (w : World) (size : Nat) (enc : α → List Value) : ReadL w size enc (.slice none 0 0) [] := ⟨none, 0, rfl, Nat.le_refl _, by simp [maxLen], .inl rfl⟩
/-- One element's cells. -/
theorem ReadL.cells (h : ReadL w size enc v xs) (hne : 0 < xs.length) : ∃ b off cap, v = .slice (some ⟨b, off, none⟩) xs.length cap ∧ xs.length ≤ cap ∧ cap ≤ maxLen ∧ b < w.heap.size ∧
    ∀ i j u, (hi : i < xs.length) → (enc xs[i])[j]? = some u → w.cell? ⟨b, off + (i * size + j), none⟩ = some u := by
  obtain ⟨a, cap, hv, h1, h2, h3⟩ := h
  rcases h3 with rfl | ⟨b, off, ha, hlt, hc⟩
  · simp at hne
  · exact ⟨b, off, cap, by rw [hv, ha], h1, h2, hlt, hc⟩
end

theorem list_of {α : Type} {P : Nat → α → Prop} (n : Nat) (h : ∀ i, i < n → ∃ x, P i x) : ∃ xs : List α, xs.length = n ∧ ∀ i (hi : i < xs.length), P i xs[i] := by
  induction n with
  | zero => exact ⟨[], rfl, fun i hi => by simp at hi⟩
  | succ n ih =>
    obtain ⟨xs, hl, hx⟩ := ih fun i hi => h i (by omega)
    obtain ⟨y, hy⟩ := h n (by omega)
    refine ⟨xs ++ [y], by simp [hl], fun i hi => ?_⟩
    by_cases e : i < xs.length
    · rw [List.getElem_append_left e]; exact hx i e
    · have : i = n := by simp at hi; omega
      subst this
      rw [List.getElem_append_right (by omega)]
      simpa [hl] using hy

section
variable {H : Type} {encH : TypeId × Value → H} {P : Program} {w : World} {base : Nat} {spare : Nat → Bool} {held : Bool} {α : Type}
/-- A slice that came in, of whatever elements. -/
theorem read_slice {t e : TypeId} {size : Nat} {enc : α → List Value} {Ok : α → Prop} {fuel : Nat} {cs : List Value} {d : DataW H × List MemPlace} (ht : P.underlying t = some (.slice e)) (hC : P.cellsOf e = size) (hp : ∀ y, 0 < (enc y).length)
    (hel : ∀ (fuel : Nat) (cs : List Value) (x : DataW H × List MemPlace), DataW.trod encH P w base spare held fuel e cs = some x → ∃ y, cs = enc y ∧ Ok y)
    (hf : DataW.trod encH P w base spare held fuel t cs = some d) : ∃ (v : Value) (xs : List α), cs = [v] ∧ ReadL w size enc v xs ∧ ∀ x ∈ xs, Ok x := by
  rcases open_slice ht hf with ⟨hcs, _⟩ | ⟨a, len, cap, m, n, D, Pl, hcs, _, hl, hm, hmm, _, hi⟩
  · subst hcs
    exact ⟨_, [], rfl, ReadL.nil _ _ _, by simp⟩
  · subst hcs
    have hle : len ≤ m := by rw [hmm]; split <;> omega
    obtain ⟨xs, hlen, hx⟩ := list_of (P := fun i (y : α) => (∀ j u, (enc y)[j]? = some u → w.cell? (a.add (i * size + j)) = some u) ∧ Ok y) len (fun i hlt => by
      obtain ⟨cs', hc, htr⟩ := hi i (by omega)
      obtain ⟨y, rfl, hok⟩ := hel _ _ _ htr
      refine ⟨y, fun j u hu => ?_, hok⟩
      obtain ⟨_, hcl, hat⟩ := World.cells?_some hc
      rw [hC] at hcl hat
      have hj : j < size := by rw [← hcl]; exact (List.getElem?_eq_some_iff.mp hu).1
      have := hat j hj
      rw [hu, Go.Deep.add_add] at this
      exact this)
    subst hlen
    refine ⟨_, xs, rfl, ⟨_, cap, rfl, hl, hm, ?_⟩, fun x hxm => ?_⟩
    · by_cases hz : xs = []
      · exact .inl hz
      · right
        have hpos : 0 < xs.length := List.length_pos_iff.mpr hz
        obtain ⟨u, hu⟩ : ∃ u, (enc (xs[0]))[0]? = some u := ⟨_, List.getElem?_eq_getElem (hp _)⟩
        have h0 := (hx 0 hpos).1 0 u hu
        have hlt := World.block_lt_of_cell? w _ h0
        obtain ⟨b, off, spot⟩ := a
        have hspot : spot = none := by simpa [Addr.add] using World.cell?_spot h0
        subst hspot
        refine ⟨b, off, rfl, ?_, fun i j u hi hu => ?_⟩
        · simpa [Addr.add] using hlt
        · rw [← Go.WideShapes.add_plain]; exact (hx i hi).1 j u hu
    · obtain ⟨i, hi, rfl⟩ := List.mem_iff_getElem.mp hxm
      exact (hx i hi).2
end
end Go.Proofs.Ytfjngecgfmlnfaa
