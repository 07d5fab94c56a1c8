/- match.seems. -/
import Derived.Test.YtaaadbmhcfjooaaMatchR
import Derived.Test.YtaaadbmhcfjooaaReadNew
import Derived.Test.YtaaadbmhcfjooaaOwn
import Derived.Laws.OwnMore
namespace Go.Proofs.Ytaaadbmhcfjooaa
open Go.RowKit
set_option linter.unusedVariables false

/-- So many bytes are read: they, and what is left. -/
def rdN (n : Int) (s : ByteArray) (e : Int) : ByteArray × ByteArray × Int := takeR s e n (decide (1 ≤ n ∧ n ≤ 8))
/-- One test is read: none: its code is no field's. -/
def stepS (s : ByteArray) (e : Int) : Option (Test × ByteArray × Int) :=
  let r1 := rdN 2 s e
  let r2 := rdN 1 r1.2.1 r1.2.2
  let r3 := rdN 1 r2.2.1 r2.2.2
  let c := numG r2.1.data.toList
  let f := namedF (c / 2)
  if f = 0 then none else
    let r4 := rdN (sizeF f) r3.2.1 r3.2.2
    if c % 2 = 1 then
      let r5 := rdN (sizeF f) r4.2.1 r4.2.2
      some (⟨f, numG r4.1.data.toList, numG r5.1.data.toList⟩, r5.2.1, r5.2.2)
    else some (⟨f, numG r4.1.data.toList, greatF f⟩, r4.2.1, r4.2.2)
/-- The tests that bytes seem to be. -/
def seemsF : Nat → ByteArray → Int → List Test → List Test
  | 0, _, _, acc => acc
  | n + 1, s, e, acc => if 4 ≤ leftR s e then (match stepS s e with
    | none => []
    | some (t, s', e') => seemsF n s' e' (acc ++ [t])) else acc

/-- The reader, and the tests so far. -/
def SR (B : Nat) (w : World) (g : Nat) (s : ByteArray) (e : Int) (v : Value) (acc : List Test) (W : World) : Prop :=
  RdAt W g s e ∧ OwnL W B 48 3 encTest v acc ∧ B ≤ g ∧ Below B w W ∧ B ≤ W.heap.size ∧ s.size ≤ 140737488351232
section
variable {B : Nat} {w W W' : World} {g : Nat} {s : ByteArray} {e : Int} {v : Value} {acc : List Test}
theorem SR.ne (h : SR B w g s e v acc W) : v.ownBlock ≠ some g := by
  have h1 : W.heap[g]? = some (.cells #[.string s, .int .i64 e] 92 (0, 0)) := h.1
  rcases h.2.1.2 with ⟨rfl, _⟩ | ⟨g', cap, cur, rfl, hbg, hg, r⟩
  · simp [Value.ownBlock]
  · intro hq
    obtain rfl : g' = g := by simpa [Value.ownBlock] using hq
    rw [h1] at hg
    injection hg with h4
    injection h4 with h5 h6
    exact absurd h6 (by decide)
theorem SR.call (h : SR B w g s e v acc W) (hb : Below W.heap.size W W') : SR B w g s e v acc W' :=
  ⟨BlkAt.below h.1 hb (BlkAt.lt h.1), h.2.1.belowAll hb, h.2.2.1, h.2.2.2.1.trans (hb.mono h.2.2.2.2.1), Nat.le_trans h.2.2.2.2.1 hb.size, h.2.2.2.2.2⟩
theorem SR.left (h : SR B w g s e v acc W) : Calls Try.prog 63 #[.pointer (some ⟨g, 0, none⟩)] W fun x w' => x = .returned (.int .i64 (leftR s e)) ∧ W = w' := Left_any W g s e h.1
theorem SR.bar (h : SR B w g s e v acc W) {s' : ByteArray} {e' : Int} (hr : RdAt W' g s' e') (hb : Bar g W W') (hs : s'.size ≤ s.size) : SR B w g s' e' v acc W' :=
  ⟨hr, h.2.1.bar hb (fun k hk e => h.ne (by rw [hk, e])), h.2.2.1, hb.below h.2.2.2.1 h.2.2.1 h.2.2.2.2.1, Nat.le_trans h.2.2.2.2.1 hb.size, Nat.le_trans hs h.2.2.2.2.2⟩
theorem takeR_rest (s : ByteArray) (e n : Int) (right : Bool) : (takeR s e n right).2.1.size ≤ s.size := by
  unfold takeR
  by_cases h1 : e ≠ 0
  · rw [if_pos h1]; exact Nat.le_refl _
  · rw [if_neg h1]
    by_cases h2 : right = false
    · rw [if_pos h2]; exact Nat.le_refl _
    · rw [if_neg h2]
      by_cases h3 : (s.size : Int) < n
      · rw [if_pos h3]; exact Nat.le_refl _
      · rw [if_neg h3, ByteArray.size_extract]; omega
theorem SR.bytes2 (h : SR B w g s e v acc W) : Calls Try.prog 64 #[.pointer (some ⟨g, 0, none⟩), .int .i64 2] W fun x w' =>
    x = .returned (.string (rdN 2 s e).1) ∧ SR B w g (rdN 2 s e).2.1 (rdN 2 s e).2.2 v acc w' :=
  (Bytes_any W g s e 2 h.1 h.2.2.2.2.2).mono fun x w' ⟨h1, h2, h3⟩ => ⟨h1, h.bar h2 h3 (takeR_rest _ _ _ _)⟩
theorem SR.num (h : SR B w g s e v acc W) (n : Int) : Calls Try.prog 65 #[.pointer (some ⟨g, 0, none⟩), .int .i64 n] W fun x w' =>
    x = .returned (.int .u64 (numG (rdN n s e).1.data.toList)) ∧ SR B w g (rdN n s e).2.1 (rdN n s e).2.2 v acc w' :=
  (Num_any W g s e n h.1 h.2.2.2.2.2).mono fun x w' ⟨h1, h2, h3⟩ => ⟨h1, h.bar h2 h3 (takeR_rest _ _ _ _)⟩
theorem SR.set (h : SR B w g s e v acc W) {g2 : Nat} {cs : Array Value} (hb : BlkAt W g2 48 cs) (h2 : B ≤ g2) (hn : v.ownBlock ≠ some g2) (j : Nat) (x : Value) : SR B w g s e v acc (W.setCell ⟨g2, j, none⟩ x) := by
  have hgg : g ≠ g2 := by
    intro e
    subst e
    have h1 : W.heap[g]? = some (.cells #[.string s, .int .i64 _] 92 (0, 0)) := h.1
    have h3 : W.heap[g]? = some (.cells cs 48 (0, 0)) := hb
    rw [h1] at h3
    injection h3 with h4
    injection h4 with h5 h6
    exact absurd h6 (by decide)
  have hbar : Bar g2 W (W.setCell ⟨g2, j, none⟩ x) := ⟨rfl, rfl, rfl, by simp, fun k _ hk => by
    simp [World.setCell, Array.getElem?_modify]
    intro h; exact absurd h.symm hk⟩
  exact ⟨BlkAt.setOther h.1 hgg x, h.2.1.bar hbar (fun k hk e => hn (by rw [hk, e])), h.2.2.1, h.2.2.2.1.setCell h2 x, by simpa using h.2.2.2.2.1, h.2.2.2.2.2⟩
end
theorem leftR_rd (s : ByteArray) (e n : Int) (hn : 1 ≤ n ∧ n ≤ 8) : leftR (rdN n s e).2.1 (rdN n s e).2.2 ≤ leftR s e ∧ (leftR (rdN n s e).2.1 (rdN n s e).2.2 = 0 ∨ leftR (rdN n s e).2.1 (rdN n s e).2.2 = leftR s e - n) := by
  unfold rdN takeR
  have hd : decide (1 ≤ n ∧ n ≤ 8) = true := by simpa using hn
  rw [hd]
  by_cases h1 : e = 0
  · subst h1
    rw [if_neg (by simp), if_neg (by simp)]
    by_cases h3 : (s.size : Int) < n
    · rw [if_pos h3]
      unfold leftR
      simp
    · rw [if_neg h3]
      unfold leftR
      simp only [if_true, ByteArray.size_extract]
      omega
  · rw [if_pos h1]
    unfold leftR
    simp [h1]
end Go.Proofs.Ytaaadbmhcfjooaa
