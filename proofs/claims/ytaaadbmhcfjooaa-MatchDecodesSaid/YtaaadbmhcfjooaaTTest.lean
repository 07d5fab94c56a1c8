/- Structs that the statements take: their cells, and what is known of one that came in (printed by gen_struct.py). -/
import Derived.Test.YtaaadbmhcfjooaaRead
namespace Go.Proofs.Ytaaadbmhcfjooaa
open Go.RowKit Go.ChangeShapes Go.WideShapes Go.Deep
set_option linter.unusedVariables false

theorem cellsTTest_3 : Try.prog.cellsOf 3 = 1 := by kernel_rfl
theorem cellsTTest_32 : Try.prog.cellsOf 32 = 1 := by kernel_rfl
theorem cellsTTest_48 : Try.prog.cellsOf 48 = 3 := by kernel_rfl
structure Test where
  fField : Int
  fValue : Int
  fMask : Int
def encTest (x : Test) : List Value := [.int .i64 x.fField, .int .u64 x.fValue, .int .u64 x.fMask]
abbrev valTest (x : Test) : Value := .agg #[.int .i64 x.fField, .int .u64 x.fValue, .int .u64 x.fMask]
def okTest (w : World) (x : Test) : Prop := (Lit.int .i64 x.fField).wf = true ∧ (Lit.int .u64 x.fValue).wf = true ∧ (Lit.int .u64 x.fMask).wf = true ∧ True
theorem encTest_len (x : Test) : (encTest x).length = 3 := rfl
theorem encTest_one (x : Test) (hx : True) : ∀ u ∈ encTest x, u.oneCell' = true := by intro u hu; simp [encTest] at hu; rcases hu with rfl | rfl | rfl <;> rfl
set_option maxRecDepth 100000 in
theorem trod_Test {H : Type} {encH : TypeId × Value → H} {w : World} {base : Nat} {spare : Nat → Bool} {held : Bool} {fuel : Nat} {cs : List Value} {x : DataW H × List MemPlace}
    (h : DataW.trod encH Try.prog w base spare held fuel 48 cs = some x) : ∃ y : Test, cs = encTest y ∧ okTest w y := by
  obtain ⟨ys, n, _, _, hlen, hyl, hf⟩ := DataW.trod_struct Try.underlying48 h
  rw [cellsTTest_48] at hlen
  match cs, hlen with
  | [c0, c1, c2], _ =>
    have h0 : DataW.trod encH Try.prog w base spare held n 3 [c0] = some (ys[0]'(by rw [hyl]; decide)) := by
      have z : DataW.trod encH Try.prog w base spare held n 3 (List.take (Try.prog.cellsOf 3) (List.drop 0 [c0, c1, c2])) = ys[0]? := hf 0 _ rfl
      rw [cellsTTest_3] at z
      exact z.trans (List.getElem?_eq_getElem (by rw [hyl]; decide))
    obtain ⟨y0, e0, _, w0⟩ := DataW.trod_int Try.underlying3 h0
    have h1 : DataW.trod encH Try.prog w base spare held n 32 [c1] = some (ys[1]'(by rw [hyl]; decide)) := by
      have z : DataW.trod encH Try.prog w base spare held n 32 (List.take (Try.prog.cellsOf 32) (List.drop 1 [c0, c1, c2])) = ys[1]? := hf 1 _ rfl
      rw [cellsTTest_32] at z
      exact z.trans (List.getElem?_eq_getElem (by rw [hyl]; decide))
    obtain ⟨y1, e1, _, w1⟩ := DataW.trod_int Try.underlying32 h1
    have h2 : DataW.trod encH Try.prog w base spare held n 32 [c2] = some (ys[2]'(by rw [hyl]; decide)) := by
      have z : DataW.trod encH Try.prog w base spare held n 32 (List.take (Try.prog.cellsOf 32) (List.drop 2 [c0, c1, c2])) = ys[2]? := hf 2 _ rfl
      rw [cellsTTest_32] at z
      exact z.trans (List.getElem?_eq_getElem (by rw [hyl]; decide))
    obtain ⟨y2, e2, _, w2⟩ := DataW.trod_int Try.underlying32 h2
    refine ⟨⟨y0, y1, y2⟩, ?_, w0, w1, w2, trivial⟩
    obtain rfl := (List.cons.inj e0).1
    obtain rfl := (List.cons.inj e1).1
    obtain rfl := (List.cons.inj e2).1
    rfl

end Go.Proofs.Ytaaadbmhcfjooaa
