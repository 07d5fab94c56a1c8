/- A strings.Builder that is read by String() and written on. -/
import Derived.Test.YtdjhbahiiabimaaBldK
import Derived.Shelf.Strings.BuilderF
namespace Go.Proofs.Ytdjhbahiiabimaa
open Go.RowKit
set_option linter.unusedVariables false

theorem cc_anyF (B b : Nat) (bs : List Value) (w : World) (h : Lib.IsBuilderF 45 5 B b bs w) :
    Calls Try.prog 39 #[.pointer (some ⟨b, 0, none⟩)] w fun e w' => e = .returned (.tuple #[]) ∧ (Lib.BuilderAtF 45 5 B b (.pointer (some ⟨b, 0, none⟩)) bs w' ∧ Below B w w') := by
  rcases h with h | h
  · refine (cc_fresh b w h.cell0 h.shape h.frozen0).mono ?_
    rintro e w' ⟨rfl, rfl⟩
    exact ⟨rfl, h.used _, (Below.refl B w).setCell (p := ⟨b, 0, none⟩) h.1 _⟩
  · refine (cc_used b w h.cell0).mono ?_
    rintro e w' ⟨rfl, rfl⟩
    exact ⟨rfl, h, Below.refl B _⟩
set_option maxRecDepth 100000 in
set_option maxHeartbeats 2000000 in
theorem bWriteF (B b : Nat) (bs : List Value) (s : ByteArray) (w : World) (h : Lib.IsBuilderF 45 5 B b bs w) (hlen : bs.length + s.size ≤ 140737488355328) (hBw : B ≤ w.heap.size) :
    Calls Try.prog 19 #[.pointer (some ⟨b, 0, none⟩), .string s] w fun e w' => e = .returned (.tuple #[.int .i64 s.size, .nilIface]) ∧ (Lib.BuilderAtF 45 5 B b (.pointer (some ⟨b, 0, none⟩)) (bs ++ Lib.strCells s) w' ∧ Below B w w') := by
  have hinf : (Try.prog.info? 5).map (fun i => (i.zero, i.size, i.bytes)) = some (some (.int .u8 0), 1, 1) := by kernel_rfl
  obtain ⟨i0, hi, hz0, hz1, hz2⟩ := info_parts hinf
  go_enter Try.func19, Try.ntmps19
  go_wp2_with (go_at_call 39; refine (cc_anyF B b bs _ h).mono ?_)
  rintro e w1 ⟨rfl, h1, hb1⟩
  obtain ⟨hB, v, hbk, hown, hne⟩ := h1
  have c0 : w1.cell? ⟨b, 0, none⟩ = some (.pointer (some ⟨b, 0, none⟩)) := by rw [Lib.cell_of_heap hbk]; rfl
  have c1 : w1.cell? ⟨b, 1, none⟩ = some v := by rw [Lib.cell_of_heap hbk]; rfl
  go_wp2_with (at_builtin; refine Lib.wpList_append_own_stringF _ rfl _ _ 43 9 rfl B 5 i0 Try.underlying43 Try.underlying9 hi hz0 hz1 hz2 _ _ _ rfl hown s rfl ?c3 ?c4 ?c5 ?_)
  case c3 => unfold maxLen; omega
  case c4 => omega
  case c5 => have := hb1.size; omega
  intro v' w2 hown' hgrow _
  have hlt : b < w1.heap.size := by
    rcases Nat.lt_or_ge b w1.heap.size with h' | h'
    · exact h'
    · simp [Array.getElem?_eq_none h'] at hbk
  have hb2 : w2.heap[b]? = some (.cells #[.pointer (some ⟨b, 0, none⟩), v] 45 (0, 0)) := by
    rw [hgrow.block b hlt (fun e => hne e.symm)]
    exact hbk
  have d0 : w2.cell? ⟨b, 0, none⟩ = some (.pointer (some ⟨b, 0, none⟩)) := by rw [Lib.cell_of_heap hb2]; rfl
  have d1 : w2.cell? ⟨b, 1, none⟩ = some v := by rw [Lib.cell_of_heap hb2]; rfl
  have f1 : w2.frozen? ⟨b, 1, none⟩ = false := Lib.frozen_of_heap hb2 1
  obtain ⟨ao, n', cap, rfl⟩ : ∃ ao n' cap, v' = .slice ao n' cap := by
    rcases hown'.2 with ⟨hv, _⟩ | ⟨g, cap, cur, fz, hv, _⟩
    · exact ⟨_, _, _, hv⟩
    · exact ⟨_, _, _, hv⟩
  go_wp2
  go_ret2
  refine ⟨rfl, ?_, ?_⟩
  · exact Lib.BuilderAtF.put (T := 45) (e := 5) hB hb2 (bs' := bs ++ Lib.strCells s) (by simpa [Lib.strCells_length] using hown') (by decide)
  · exact (hb1.grown hgrow (by have := hb1.size; omega) (fun k hk => (hown.lt k hk).1)).setCell (p := ⟨b, 1, none⟩) hB _


/-- Block g is a builder that holds bs, whose head may be frozen. -/
structure LF (w : World) (g : Nat) (bs : List UInt8) (W : World) : Prop where
  ib : Lib.IsBuilderF 45 5 g g (Lib.byteCells bs) W
  low : Below w.heap.size w W
  ge : w.heap.size ≤ g
  size : g ≤ W.heap.size
section
variable {w W : World} {g : Nat} {bs : List UInt8}
theorem LF.of (h : LK w [] g bs W) : LF w g bs W := ⟨Lib.IsBuilderF.of h.ib, h.below, h.ge, h.size⟩
theorem LF.write (h : LF w g bs W) (s : List UInt8) (hl : bs.length + s.length ≤ 140737488355328) :
    Calls Try.prog 19 #[.pointer (some ⟨g, 0, none⟩), .string (str s)] W fun e w' => e = .returned (.tuple #[.int .i64 s.length, .nilIface]) ∧ LF w g (bs ++ s) w' := by
  refine (bWriteF g g (Lib.byteCells bs) (str s) W h.ib (by rw [Lib.byteCells_length, str_size]; exact hl) h.size).mono ?_
  rintro e w' ⟨rfl, h1, h2⟩
  rw [cells_add] at h1
  exact ⟨by rw [str_size], .inr h1, h.low.trans (h2.mono h.ge), h.ge, Nat.le_trans h.size h2.size⟩
theorem LF.string (h : LF w g bs W) (h0 : bs ≠ []) :
    Calls Try.prog 23 #[.pointer (some ⟨g, 0, none⟩)] W fun e w' => e = .returned (.string (str bs)) ∧ LF w g bs w' := by
  refine (Any.Builder_String_f bLays169 bExtra g g bs W h.ib h0).mono ?_
  rintro e w' ⟨rfl, h1, h2⟩
  exact ⟨rfl, h1, h.low.trans (h2.mono h.ge), h.ge, Nat.le_trans h.size h2.size⟩
theorem LF.len (h : LF w g bs W) :
    Calls Try.prog 61 #[.pointer (some ⟨g, 0, none⟩)] W fun e w' => e = .returned (.int .i64 bs.length) ∧ W = w' :=
  (Any.Builder_Len_f bLays170 g g (Lib.byteCells bs) W h.ib).mono (fun e w' ⟨h1, h2⟩ => ⟨by rw [h1, Lib.byteCells_length], h2.symm⟩)
end
end Go.Proofs.Ytdjhbahiiabimaa
