/- A strings.Builder beside blocks that stay. -/
import Derived.Test.YtdjhbahiiabimaaBld
import Derived.Test.YtdjhbahiiabimaaKRMore
namespace Go.Proofs.Ytdjhbahiiabimaa
open Go.RowKit
set_option linter.unusedVariables false

theorem KR.low {B g : Nat} {w W W' : World} {l : List (Nat × TypeId × Array Value)} (h : KR B w l W) (hb : Below g W W') (hl : ∀ x ∈ l, x.1 < g) (hB : B ≤ g) : KR B w l W' :=
  ⟨fun x hx => (h.1 x hx).below hb (hl x hx), h.2.1.trans (hb.mono hB), Nat.le_trans h.2.2 hb.size⟩
/-- The blocks l stay; block g is a builder that holds bs. -/
structure LK (w : World) (l : List (Nat × TypeId × Array Value)) (g : Nat) (bs : List UInt8) (W : World) : Prop where
  kr : KR w.heap.size w l W
  ib : Lib.IsBuilder 45 5 g g (Lib.byteCells bs) W
  lt : ∀ x ∈ l, x.1 < g
  ge : w.heap.size ≤ g
  size : g ≤ W.heap.size
section
variable {w W W' : World} {l : List (Nat × TypeId × Array Value)} {g : Nat} {bs : List UInt8}
theorem LK.new (h : KR w.heap.size w l W) (hb : BlkAt W' W.heap.size 45 #[.pointer none, .slice none 0 0]) (hbel : Below W.heap.size W W') : LK w l W.heap.size [] W' :=
  ⟨h.call hbel, isb_new (Nat.le_refl _) hb, fun x hx => (h.1 x hx).lt, h.2.2, hbel.size⟩
theorem LK.at (h : LK w l g bs W) (i : Nat) {b : Nat} {t : TypeId} {cs : Array Value} (hi : l[i]? = some (b, t, cs)) : BlkAt W b t cs := h.kr.at i hi
theorem LK.call (h : LK w l g bs W) (hb : Below W.heap.size W W') : LK w l g bs W' := ⟨h.kr.call hb, isb_below h.ib hb, h.lt, h.ge, Nat.le_trans h.size hb.size⟩
theorem LK.drew (h : LK w l g bs W) : LK w l g bs W.drew := h.call (Below.refl _ _).drew
theorem LK.below (h : LK w l g bs W) : Below w.heap.size w W := h.kr.below
theorem LK.write (h : LK w l g bs W) (s : List UInt8) (hl : bs.length + s.length ≤ 140737488355328) :
    Calls Try.prog 19 #[.pointer (some ⟨g, 0, none⟩), .string (str s)] W fun e w' => e = .returned (.tuple #[.int .i64 s.length, .nilIface]) ∧ LK w l g (bs ++ s) w' := by
  refine (bWrite g g (Lib.byteCells bs) (str s) W h.ib (by rw [Lib.byteCells_length, str_size]; exact hl) h.size).mono ?_
  rintro e w' ⟨rfl, h1, h2⟩
  rw [cells_add] at h1
  exact ⟨by rw [str_size], h.kr.low h2 h.lt h.ge, .inr h1, h.lt, h.ge, Nat.le_trans h.size h2.size⟩
theorem LK.string (h : LK w l g bs W) :
    Calls Try.prog 23 #[.pointer (some ⟨g, 0, none⟩)] W fun e w' => e = .returned (.string (str bs)) ∧ Below w.heap.size w w' := by
  refine (bString g g bs W h.ib h.size).mono ?_
  rintro e w' ⟨rfl, hb⟩
  exact ⟨rfl, h.kr.below.trans (hb.mono h.ge)⟩
end
end Go.Proofs.Ytdjhbahiiabimaa
