/- Lists that lie in a later block; a block's cells as a row of structs. -/
import Derived.Test.YtfjngecgfmlnfaaHeldG
import Derived.Test.YtfjngecgfmlnfaaRead
namespace Go.Proofs.Ytfjngecgfmlnfaa
open Go.RowKit
set_option linter.unusedVariables false
section
variable {α : Type} {w w' : World} {g B : Nat} {size : Nat} {enc : α → List Value} {v : Value} {xs : List α}
def ReadX (w : World) (g : Nat) (size : Nat) (enc : α → List Value) (v : Value) (xs : List α) : Prop :=
  ∃ (a : Option Addr) (cap : Nat), v = .slice a xs.length cap ∧ xs.length ≤ cap ∧ cap ≤ maxLen ∧
    (xs = [] ∨ ∃ b off, a = some ⟨b, off, none⟩ ∧ b < w.heap.size ∧ g < b ∧ ∀ i j u, (hi : i < xs.length) → (enc xs[i])[j]? = some u → w.cell? ⟨b, off + (i * size + j), none⟩ = some u)
theorem ReadX.read (h : ReadX w g size enc v xs) : ReadL w size enc v xs := by
  obtain ⟨a, cap, hv, h1, h2, h3⟩ := h
  refine ⟨a, cap, hv, h1, h2, h3.imp id ?_⟩
  rintro ⟨b, off, ha, hb, _, hc⟩
  exact ⟨b, off, ha, hb, hc⟩
theorem ReadX.bar (h : ReadX w g size enc v xs) {g' : Nat} (hb : Bar g' w w') (hg : g' ≤ g) : ReadX w' g size enc v xs := by
  obtain ⟨a, cap, hv, h1, h2, h3⟩ := h
  refine ⟨a, cap, hv, h1, h2, h3.imp id ?_⟩
  rintro ⟨b, off, ha, hlt, hne, hc⟩
  refine ⟨b, off, ha, Nat.lt_of_lt_of_le hlt hb.size, hne, fun i j u hi hu => ?_⟩
  rw [World.cell?_of_block (hb.block b hlt (by omega))]
  exact hc i j u hi hu
theorem ReadX.below (h : ReadX w g size enc v xs) (hb : Below B w w') (hB : w.heap.size ≤ B) : ReadX w' g size enc v xs := by
  obtain ⟨a, cap, hv, h1, h2, h3⟩ := h
  refine ⟨a, cap, hv, h1, h2, h3.imp id ?_⟩
  rintro ⟨b, off, ha, hlt, hne, hc⟩
  refine ⟨b, off, ha, Nat.lt_of_lt_of_le hlt hb.size, hne, fun i j u hi hu => ?_⟩
  rw [hb.cell (show b < B by omega)]
  exact hc i j u hi hu
theorem ReadX.set (h : ReadX w g size enc v xs) (j : Nat) (u : Value) : ReadX (w.setCell ⟨g, j, none⟩ u) g size enc v xs := h.bar ((Bar.refl _ _).set j u) (Nat.le_refl _)
theorem ReadX.of_own {e : TypeId} (h : OwnL w B e size enc v xs) (he : ∀ x, (enc x).length = size) (hg : g < B) : ReadX w g size enc v xs := by
  rcases h.form he with ⟨rfl, rfl⟩ | ⟨k, cap, rfl, hk, hlt, h1, h2, _, hc⟩
  · exact ⟨none, 0, rfl, Nat.le_refl _, by simp [maxLen], .inl rfl⟩
  · exact ⟨_, cap, rfl, h1, h2, .inr ⟨k, 0, rfl, hlt, by omega, fun i j u hi hu => by rw [Nat.zero_add]; exact hc i j u hi hu⟩⟩
/-- The slice's value. -/
theorem ReadL.slice (h : ReadL w size enc v xs) : ∃ a cap, v = .slice a xs.length cap ∧ xs.length ≤ cap ∧ cap ≤ maxLen := by
  obtain ⟨a, cap, hv, h1, h2, _⟩ := h
  exact ⟨a, cap, hv, h1, h2⟩
theorem ReadL.one (h : ReadL w size enc v xs) : v.oneCell' = true := by
  obtain ⟨a, cap, rfl, _⟩ := h.slice
  rfl
/-- A part of a list. -/
theorem ReadL.part {a : Option Addr} {n cap : Nat} (h : ReadL w size enc (.slice a n cap) xs) (i k : Nat) (hik : i + k ≤ xs.length) (hlt : i < cap) (a' : Option Addr) (ha : a' = a.map fun x => ⟨x.block, x.off + i * size, x.spot⟩) :
    ReadL w size enc (.slice a' k (cap - i)) ((xs.drop i).take k) := by
  obtain ⟨a0, cap0, hv, h1, h2, h3⟩ := h
  obtain ⟨rfl, rfl, rfl⟩ : a = a0 ∧ n = xs.length ∧ cap = cap0 := by simpa using hv
  refine ⟨a', cap - i, by simp; omega, by simp; omega, by omega, ?_⟩
  rcases h3 with rfl | ⟨b, off, rfl, hb, hc⟩
  · exact .inl (by simp)
  · refine .inr ⟨b, off + i * size, by simpa using ha, hb, fun j m u hj hu => ?_⟩
    simp only [List.length_take, List.length_drop] at hj
    simp only [List.getElem_take, List.getElem_drop] at hu
    have := hc (i + j) m u (by omega) hu
    rw [show off + i * size + (j * size + m) = off + ((i + j) * size + m) by rw [Nat.add_mul]; omega]
    exact this

/-- The cells of a block are those of a list of structs, one behind the other, and perhaps more. -/
def RowOf (size : Nat) (enc : α → List Value) (cur : Array Value) (xs : List α) : Prop :=
  xs.length * size ≤ cur.size ∧ ∀ i j u, (hi : i < xs.length) → (enc xs[i])[j]? = some u → cur[i * size + j]? = some u
theorem RowOf.of_own {e : TypeId} (h : OwnL w B e size enc v xs) (he : ∀ x, (enc x).length = size) : (v = .slice none 0 0 ∧ xs = []) ∨
    ∃ k cap cur, v = .slice (some ⟨k, 0, none⟩) xs.length cap ∧ B ≤ k ∧ BlkAt w k e cur ∧ xs.length ≤ cap ∧ cap ≤ maxLen ∧ cur.size = cap * size ∧ RowOf size enc cur xs := by
  rcases h.2 with ⟨rfl, hn⟩ | ⟨k, cap, cur, rfl, hb, hk, h1, h2, h3, h4⟩
  · exact .inl ⟨rfl, List.eq_nil_of_length_eq_zero hn⟩
  · refine .inr ⟨k, cap, cur, rfl, hb, hk, h1, h2, h3, by rw [h3]; exact Nat.mul_le_mul_right _ h1, fun i j u hi hu => ?_⟩
    have hj : j < size := by rw [← he xs[i]]; exact (List.getElem?_eq_some_iff.mp hu).1
    have q1 := flat_get xs enc size he i j hi hj
    rw [hu, ← h4, List.getElem?_take] at q1
    split at q1
    · rw [← Array.getElem?_toList]; exact q1
    · cases q1
theorem RowOf.read {e : TypeId} {k cap : Nat} {cur : Array Value} (h : RowOf size enc cur xs) (hk : BlkAt w k e cur) (hn : xs.length ≤ cap) (hm : cap ≤ maxLen) : ReadL w size enc (.slice (some ⟨k, 0, none⟩) xs.length cap) xs :=
  ⟨_, cap, rfl, hn, hm, .inr ⟨k, 0, rfl, hk.lt, fun i j u hi hu => by rw [Nat.zero_add]; exact hk.cell _ u (h.2 i j u hi hu)⟩⟩
theorem place_ne {size i k j m : Nat} (hj : j < size) (hm : m < size) (hne : i ≠ k) : i * size + j ≠ k * size + m := by
  intro he
  rcases Nat.lt_or_ge i k with h | h
  · have := Nat.mul_le_mul_right size (show i + 1 ≤ k by omega)
    rw [Nat.add_mul] at this; omega
  · have := Nat.mul_le_mul_right size (show k + 1 ≤ i by omega)
    rw [Nat.add_mul] at this; omega
theorem RowOf.put {cur cur' : Array Value} (h : RowOf size enc cur xs) (he : ∀ x, (enc x).length = size) (k : Nat) (y : α) (hsz : cur'.size = cur.size)
    (hsame : ∀ q, (∀ m, m < size → q ≠ k * size + m) → cur'[q]? = cur[q]?) (hy : ∀ j u, (enc y)[j]? = some u → cur'[k * size + j]? = some u) : RowOf size enc cur' (xs.set k y) := by
  refine ⟨by rw [List.length_set, hsz]; exact h.1, fun i j u hi hu => ?_⟩
  rw [List.length_set] at hi
  rw [List.getElem_set] at hu
  by_cases e : k = i
  · subst e
    rw [if_pos rfl] at hu
    exact hy j u hu
  · rw [if_neg e] at hu
    have hj : j < size := by rw [← he xs[i]]; exact (List.getElem?_eq_some_iff.mp hu).1
    rw [hsame _ (fun m hm => place_ne hj hm (Ne.symm e))]
    exact h.2 i j u hi hu
/-- One cell of one struct. -/
theorem RowOf.setc {cur : Array Value} (h : RowOf size enc cur xs) (he : ∀ x, (enc x).length = size) (k c : Nat) (hk : k < xs.length) (hc : c < size) (y : α) (u : Value) (hy : enc y = (enc xs[k]).set c u) : RowOf size enc (cur.setIfInBounds (k * size + c) u) (xs.set k y) := by
  refine h.put he k y (by simp) (fun q hq => ?_) (fun j x hx => ?_)
  · rw [Array.getElem?_setIfInBounds_ne (Ne.symm (hq c hc))]
  · rw [hy, List.getElem?_set] at hx
    by_cases e : c = j
    · subst e
      have hl : k * size + c < cur.size := by
        have := h.1
        have := Nat.mul_le_mul_right size (show k + 1 ≤ xs.length by omega)
        rw [Nat.add_mul] at this; omega
      rw [if_pos rfl, if_pos (by rw [he]; exact hc)] at hx
      cases hx
      rw [Array.getElem?_setIfInBounds_self_of_lt hl]
    · rw [if_neg e] at hx
      have hj : j < size := by rw [← he xs[k]]; exact (List.getElem?_eq_some_iff.mp hx).1
      rw [Array.getElem?_setIfInBounds_ne (by omega)]
      exact h.2 k j x hk hx
theorem RowOf.own {e : TypeId} {k cap : Nat} {cur : Array Value} (h : RowOf size enc cur xs) (he : ∀ x, (enc x).length = size) (hs : 0 < size) (hB : B ≤ k) (hk : BlkAt w k e cur) (hn : xs.length ≤ cap) (hm : cap ≤ maxLen) (hc : cur.size = cap * size) :
    OwnL w B e size enc (.slice (some ⟨k, 0, none⟩) xs.length cap) xs := by
  have hfl : (xs.flatMap enc).length = xs.length * size := by
    clear h hn
    induction xs with
    | nil => simp
    | cons x xs ih => rw [List.flatMap_cons, List.length_append, ih, he, List.length_cons, Nat.add_mul]; omega
  refine ⟨hfl, .inr ⟨k, cap, cur, rfl, hB, hk, hn, hm, hc, ?_⟩⟩
  refine List.ext_getElem? fun q => ?_
  rw [List.getElem?_take]
  by_cases hq : q < xs.length * size
  · rw [if_pos hq]
    have hi : q / size < xs.length := Nat.div_lt_of_lt_mul (by rw [Nat.mul_comm]; exact hq)
    have hj : q % size < size := Nat.mod_lt _ hs
    have e1 := flat_get xs enc size he (q / size) (q % size) hi hj
    have hqe : q / size * size + q % size = q := by rw [Nat.mul_comm]; exact Nat.div_add_mod q size
    rw [hqe] at e1
    obtain ⟨u, hu⟩ : ∃ u, (enc (xs[q / size]))[q % size]? = some u := ⟨_, List.getElem?_eq_getElem (show q % size < (enc (xs[q / size])).length by rw [he (xs[q / size])]; exact hj)⟩
    have := h.2 (q / size) (q % size) u hi hu
    rw [hqe] at this
    rw [Array.getElem?_toList, this, e1, hu]
  · rw [if_neg hq, List.getElem?_eq_none (by omega)]
theorem OwnL.slice {e : TypeId} (h : OwnL w B e size enc v xs) : ∃ a cap, v = .slice a xs.length cap ∧ xs.length ≤ cap ∧ cap ≤ maxLen := by
  rcases h.2 with ⟨rfl, hn⟩ | ⟨k, cap, cur, rfl, _, _, h1, h2, _⟩
  · exact ⟨none, 0, by rw [hn], by omega, by simp [maxLen]⟩
  · exact ⟨_, cap, rfl, h1, h2⟩
/-- One cell of one struct of an own row is written. -/
theorem OwnL.setc {e : TypeId} {k cap : Nat} (h : OwnL w B e size enc (.slice (some ⟨k, 0, none⟩) xs.length cap) xs) (he : ∀ x, (enc x).length = size) (hs : 0 < size) (i c : Nat) (hi : i < xs.length) (hc : c < size) (y : α) (u : Value) (hy : enc y = (enc xs[i]).set c u) :
    OwnL (w.setCell ⟨k, i * size + c, none⟩ u) B e size enc (.slice (some ⟨k, 0, none⟩) xs.length cap) (xs.set i y) := by
  rcases RowOf.of_own h he with ⟨hv, _⟩ | ⟨k', cap', cur, hv, hB, hk, h1, h2, h3, h4⟩
  · cases hv
  · obtain ⟨rfl, rfl⟩ : k = k' ∧ cap = cap' := by simpa using hv
    have := (h4.setc he i c hi hc y u hy).own (B := B) he hs hB (hk.set (i * size + c) u) (by rw [List.length_set]; exact h1) h2 (by simpa using h3)
    rwa [List.length_set] at this
end
end Go.Proofs.Ytfjngecgfmlnfaa
