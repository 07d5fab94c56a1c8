/- strings.Builder over lists of bytes; sums of strings. -/
import Derived.Test.YtdjhbahiiabimaaPut
import Derived.Test.YtdjhbahiiabimaaBuild
namespace Go.Proofs.Ytdjhbahiiabimaa
open Go.RowKit
set_option linter.unusedVariables false
set_option linter.unusedSimpArgs false

theorem str_add (a b : List UInt8) : str a ++ str b = str (a ++ b) := by
  unfold str
  apply ByteArray.ext
  simp
theorem cat (a b : List UInt8) (h : a.length + b.length ≤ 140737488355328) (W : World) : (binOp .add 9 (.string (str a)) (.string (str b))).run Try.prog W = .ok (.string (str (a ++ b))) W := by
  have e := str_add a b
  have h1 := str_size a
  have h2 := str_size b
  have h3 : ((a.length : Int) + (b.length : Int)) ≤ 140737488355328 := by omega
  simp [go_sem, Try.underlying9, e, h1, h2]
  omega

theorem bld_below {T e : TypeId} {B b : Nat} {p : Value} {bs : List Value} {w w' : World} (h : Lib.BuilderAt T e B b p bs w) (hb : Below w.heap.size w w') : Lib.BuilderAt T e B b p bs w' := by
  have hlt := h.lt
  obtain ⟨hB, v, hbk, hown, hne⟩ := h
  refine ⟨hB, v, by rw [hb.block b hlt]; exact hbk, ⟨hown.1, ?_⟩, hne⟩
  rcases hown.2 with hn | ⟨g, cap, cur, hv, hbg, hg, r⟩
  · exact .inl hn
  · refine .inr ⟨g, cap, cur, hv, hbg, ?_, r⟩
    have hlg : g < w.heap.size := by
      rcases Nat.lt_or_ge g w.heap.size with h' | h'
      · exact h'
      · simp [Array.getElem?_eq_none h'] at hg
    rw [hb.block g hlg]; exact hg
theorem isb_below {T e : TypeId} {B b : Nat} {bs : List Value} {w w' : World} (h : Lib.IsBuilder T e B b bs w) (hb : Below w.heap.size w w') : Lib.IsBuilder T e B b bs w' :=
  h.elim (fun h => .inl (bld_below h hb)) (fun h => .inr (bld_below h hb))
theorem isb_new {T e : TypeId} {B b : Nat} {W : World} (hB : B ≤ b) (h : BlkAt W b T #[.pointer none, .slice none 0 0]) : Lib.IsBuilder T e B b (Lib.byteCells []) W :=
  .inl ⟨hB, .slice none 0 0, h, World.ownsRow_nil _ _ _ _, by simp [Value.ownBlock]⟩
theorem cells_add (a b : List UInt8) : Lib.byteCells a ++ Lib.strCells (str b) = Lib.byteCells (a ++ b) := by
  unfold Lib.byteCells Lib.strCells str
  simp
theorem str_le (a : List UInt8) (n : Nat) (h : a.length ≤ n) : (str a).size ≤ n := by rw [str_size]; exact h

/-- What holds between two rounds of Encode's loop. -/
def EncR (w : World) (g : Nat) (bs : List UInt8) (W : World) : Prop := Below w.heap.size w W ∧ Lib.IsBuilder 45 5 w.heap.size g (Lib.byteCells bs) W
theorem EncR.call {w : World} {g : Nat} {bs : List UInt8} {W W' : World} (h : EncR w g bs W) (hb : Below W.heap.size W W') : EncR w g bs W' := ⟨h.1.trans (hb.mono h.1.size), isb_below h.2 hb⟩
theorem EncR.write {w : World} {g : Nat} {bs : List UInt8} {W : World} (h : EncR w g bs W) (s : List UInt8) (hl : bs.length + s.length ≤ 140737488355328) :
    Calls Try.prog 19 #[.pointer (some ⟨g, 0, none⟩), .string (str s)] W fun e w' => e = .returned (.tuple #[.int .i64 s.length, .nilIface]) ∧ EncR w g (bs ++ s) w' := by
  refine (bWrite w.heap.size g (Lib.byteCells bs) (str s) W h.2 (by rw [Lib.byteCells_length, str_size]; exact hl) h.1.size).mono ?_
  rintro e w' ⟨rfl, h1, h2⟩
  rw [cells_add] at h1
  exact ⟨by rw [str_size], h.1.trans (h2.mono (Nat.le_refl _)), .inr h1⟩
theorem EncR.len {w : World} {g : Nat} {bs : List UInt8} {W : World} (h : EncR w g bs W) :
    Calls Try.prog 61 #[.pointer (some ⟨g, 0, none⟩)] W fun e w' => e = .returned (.int .i64 bs.length) ∧ W = w' := by
  refine (bLen w.heap.size g (Lib.byteCells bs) W h.2).mono ?_
  rintro e w' ⟨rfl, rfl⟩
  rw [Lib.byteCells_length]
  exact ⟨rfl, rfl⟩
theorem EncR.string {w : World} {g : Nat} {bs : List UInt8} {W : World} (h : EncR w g bs W) :
    Calls Try.prog 23 #[.pointer (some ⟨g, 0, none⟩)] W fun e w' => e = .returned (.string (str bs)) ∧ Below w.heap.size w w' := by
  refine (bString w.heap.size g bs W h.2 h.1.size).mono ?_
  rintro e w' ⟨rfl, hb⟩
  exact ⟨rfl, h.1.trans (hb.mono (Nat.le_refl _))⟩
theorem zeros_str (c : Nat) (W : World) : (convert 43 9 (.slice (some ⟨W.heap.size, 0, none⟩) c c)).run Try.prog (W.alloc (.cells (zerosA c) 5)) = .ok (.string (str (List.replicate c 0))) (W.alloc (.cells (zerosA c) 5)) := by
  have e : str (List.replicate c 0) = strOfNums (List.replicate c 0) := by
    unfold str strOfNums
    simp
  rw [e]
  refine run_convert_bytes_arg (P := Try.prog) _ 43 5 Try.underlying43 Try.underlying5 W.heap.size 0 c c (List.replicate c 0) (by simp) (fun i hi => ?_) 9 Try.underlying9
  rw [Nat.zero_add]
  have hb := BlkAt.new W 5 (zerosA c)
  refine hb.cell i _ ?_
  unfold zerosA
  simp [hi, List.getD]

end Go.Proofs.Ytdjhbahiiabimaa
