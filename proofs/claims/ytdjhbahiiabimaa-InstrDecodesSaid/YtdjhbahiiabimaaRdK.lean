/- A reader beside blocks that stay, or are written cell by cell. -/
import Derived.Test.YtdjhbahiiabimaaReadNew
import Derived.Test.YtdjhbahiiabimaaKRMore
namespace Go.Proofs.Ytdjhbahiiabimaa
open Go.RowKit
set_option linter.unusedVariables false

/-- A reader's state: what is left, and what is wrong. -/
abbrev RS := ByteArray × Int
def numR (n : Int) (r : RS) : Int := numG (takeR r.1 r.2 n (decide (1 ≤ n ∧ n ≤ 8))).1.data.toList
def numS (n : Int) (r : RS) : RS := (takeR r.1 r.2 n (decide (1 ≤ n ∧ n ≤ 8))).2
def bytR (n : Int) (r : RS) : ByteArray := (takeR r.1 r.2 n (decide (0 ≤ n))).1
def bytS (n : Int) (r : RS) : RS := (takeR r.1 r.2 n (decide (0 ≤ n))).2
theorem takeR_left (s : ByteArray) (e n : Int) (right : Bool) : (takeR s e n right).2.1.size ≤ s.size := by
  unfold takeR
  by_cases h1 : e ≠ 0
  · rw [if_pos h1]; exact Nat.le_refl _
  · rw [if_neg h1]
    by_cases h2 : right = false
    · rw [if_pos h2]; exact Nat.le_refl _
    · rw [if_neg h2]
      by_cases h3 : (s.size : Int) < n
      · rw [if_pos h3]; exact Nat.le_refl _
      · rw [if_neg h3, ByteArray.size_extract]; omega
def rdC (r : RS) : Array Value := #[.string r.1, .int .i64 r.2]
/-- The reader is block g; the blocks l stay. -/
structure RK (w : World) (l : List (Nat × TypeId × Array Value)) (g : Nat) (r : RS) (W : World) : Prop where
  kr : KR w.heap.size w ((g, 86, rdC r) :: l) W
  ge : w.heap.size ≤ g
  ne : ∀ x ∈ l, x.1 ≠ g
  sz : r.1.size ≤ 140737488351232
section
variable {w W W' : World} {l : List (Nat × TypeId × Array Value)} {g : Nat} {r : RS}
theorem RK.at (h : RK w l g r W) (i : Nat) {b : Nat} {t : TypeId} {cs : Array Value} (hi : l[i]? = some (b, t, cs)) : BlkAt W b t cs := h.kr.at (i + 1) hi
theorem RK.lt (h : RK w l g r W) (i : Nat) {x : Nat × TypeId × Array Value} (hi : l[i]? = some x) : x.1 < W.heap.size := h.kr.lt (i + 1) hi
theorem RK.call (h : RK w l g r W) (hb : Below W.heap.size W W') : RK w l g r W' := ⟨h.kr.call hb, h.ge, h.ne, h.sz⟩
theorem RK.drew (h : RK w l g r W) : RK w l g r W.drew := h.call (Below.refl _ _).drew
theorem RK.below (h : RK w l g r W) : Below w.heap.size w W := h.kr.below
theorem RK.sub (h : RK w l g r W) {l' : List (Nat × TypeId × Array Value)} (hs : ∀ x ∈ l', x ∈ l) : RK w l' g r W :=
  ⟨h.kr.sub (fun x hx => (List.mem_cons.1 hx).elim (fun e => e ▸ List.mem_cons_self ..) (fun hx => List.mem_cons_of_mem _ (hs x hx))), h.ge, fun x hx => h.ne x (hs x hx), h.sz⟩
theorem RK.gt (h : RK w l g r W) : g < W.heap.size := h.kr.lt 0 rfl
theorem RK.new (h : RK w l g r W) {t : TypeId} {cs : Array Value} (hb : BlkAt W' W.heap.size t cs) (hbel : Below W.heap.size W W') : RK w ((W.heap.size, t, cs) :: l) g r W' :=
  ⟨(h.kr.new hb hbel).sub (by simp; intro a b c h; exact .inr (.inr h)), h.ge, fun x hx => (List.mem_cons.1 hx).elim (fun e => by have := h.gt; subst e; simp only; omega) (h.ne x), h.sz⟩
theorem RK.set {b : Nat} {t : TypeId} {cs : Array Value} (h : RK w ((b, t, cs) :: l) g r W) (j : Nat) (v : Value) (hB : w.heap.size ≤ b) (hne : ∀ x ∈ l, x.1 ≠ b) : RK w ((b, t, cs.setIfInBounds j v) :: l) g r (W.setCell ⟨b, j, none⟩ v) := by
  have hbg : b ≠ g := h.ne (b, t, cs) (List.mem_cons_self ..)
  have h1 : KR w.heap.size w ((b, t, cs) :: (g, 86, rdC r) :: l) W := h.kr.sub (by simp; intro a b c h; exact .inr (.inr h))
  have h2 := h1.set0 j v hB (by
    intro x hx
    rcases List.mem_cons.1 hx with rfl | hx
    · exact fun e => hbg e.symm
    · exact hne x hx)
  exact ⟨h2.sub (by simp; intro a b c h; exact .inr (.inr h)), h.ge, fun x hx => (List.mem_cons.1 hx).elim (fun e => by subst e; exact hbg) (fun hx => h.ne x (List.mem_cons_of_mem _ hx)), h.sz⟩
theorem RK.set1 {b : Nat} {t : TypeId} {cs : Array Value} {x : Nat × TypeId × Array Value} (h : RK w (x :: (b, t, cs) :: l) g r W) (j : Nat) (v : Value) (hB : w.heap.size ≤ b) (hx : x.1 ≠ b) (hne : ∀ x ∈ l, x.1 ≠ b) : RK w (x :: (b, t, cs.setIfInBounds j v) :: l) g r (W.setCell ⟨b, j, none⟩ v) := by
  have h1 : RK w ((b, t, cs) :: x :: l) g r W := h.sub (by
    intro y hy
    simp only [List.mem_cons] at hy ⊢
    rcases hy with h | h | h
    · exact .inr (.inl h)
    · exact .inl h
    · exact .inr (.inr h))
  have h2 := h1.set j v hB (by
    intro y hy
    rcases List.mem_cons.1 hy with rfl | hy
    · exact hx
    · exact hne y hy)
  refine h2.sub ?_
  intro y hy
  simp only [List.mem_cons] at hy ⊢
  rcases hy with h | h | h
  · exact .inr (.inl h)
  · exact .inl h
  · exact .inr (.inr h)
theorem RK.num (h : RK w l g r W) (n : Int) : Calls Try.prog 43 #[.pointer (some ⟨g, 0, none⟩), .int .i64 n] W fun x w' => x = .returned (.int .u64 (numR n r)) ∧ RK w l g (numS n r) w' := by
  refine (Num_any W g r.1 r.2 n (h.kr.at 0 rfl) h.sz).mono ?_
  rintro x w' ⟨rfl, h1, h2⟩
  exact ⟨rfl, h.kr.bar0 h2 h1 h.ge h.ne, h.ge, h.ne, Nat.le_trans (takeR_left _ _ _ _) h.sz⟩
theorem RK.bytes (h : RK w l g r W) (n : Int) : Calls Try.prog 42 #[.pointer (some ⟨g, 0, none⟩), .int .i64 n] W fun x w' => x = .returned (.string (bytR n r)) ∧ RK w l g (bytS n r) w' := by
  refine (Bytes_any W g r.1 r.2 n (h.kr.at 0 rfl) h.sz).mono ?_
  rintro x w' ⟨rfl, h1, h2⟩
  exact ⟨rfl, h.kr.bar0 h2 h1 h.ge h.ne, h.ge, h.ne, Nat.le_trans (takeR_left _ _ _ _) h.sz⟩
theorem RK.left (h : RK w l g r W) : Calls Try.prog 45 #[.pointer (some ⟨g, 0, none⟩)] W fun x w' => x = .returned (.int .i64 (leftR r.1 r.2)) ∧ W = w' := Left_any W g r.1 r.2 (h.kr.at 0 rfl)
theorem RK.read (h : KR w.heap.size w l W) (s : ByteArray) (hs : s.size ≤ 140737488351232) : Calls Try.prog 41 #[.string s] W fun x w' => ∃ g, x = .returned (.pointer (some ⟨g, 0, none⟩)) ∧ W.heap.size ≤ g ∧ RK w l g (s, 0) w' := by
  refine (Read_any W s).mono ?_
  rintro x w' ⟨g, rfl, h1, h2, h3⟩
  exact ⟨g, rfl, h1, (h.call h3).add h2, Nat.le_trans h.2.2 h1, fun x hx => by have := (h.1 x hx).lt; omega, hs⟩
end
end Go.Proofs.Ytdjhbahiiabimaa
