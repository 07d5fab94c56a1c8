/- Structs that the statements take: their cells, and what is known of one that came in (printed by gen_struct.py). -/
import Derived.Test.YtfjngecgfmlnfaaTGroup
namespace Go.Proofs.Ytfjngecgfmlnfaa
open Go.RowKit Go.ChangeShapes Go.WideShapes Go.Deep
set_option linter.unusedVariables false

theorem cellsTOp10_3 : Try.prog.cellsOf 3 = 1 := by kernel_rfl
theorem cellsTOp10_24 : Try.prog.cellsOf 24 = 3 := by kernel_rfl
theorem cellsTOp10_43 : Try.prog.cellsOf 43 = 4 := by kernel_rfl
structure GOp where
  fAsk : Int
  fGroup : Group
def encGOp (x : GOp) : List Value := [.int .i64 x.fAsk, .int .i64 x.fGroup.fID, .int .i64 x.fGroup.fKind, x.fGroup.vBuckets]
abbrev valGOp (x : GOp) : Value := .agg #[.int .i64 x.fAsk, .int .i64 x.fGroup.fID, .int .i64 x.fGroup.fKind, x.fGroup.vBuckets]
def okGOp (w : World) (x : GOp) : Prop := (Lit.int .i64 x.fAsk).wf = true ∧ okGroup w x.fGroup ∧ True
theorem encGOp_len (x : GOp) : (encGOp x).length = 4 := rfl
set_option maxRecDepth 100000 in
theorem trod_GOp {H : Type} {encH : TypeId × Value → H} {w : World} {base : Nat} {spare : Nat → Bool} {held : Bool} {fuel : Nat} {cs : List Value} {x : DataW H × List MemPlace}
    (h : DataW.trod encH Try.prog w base spare held fuel 43 cs = some x) : ∃ y : GOp, cs = encGOp y ∧ okGOp w y := by
  obtain ⟨ys, n, _, _, hlen, hyl, hf⟩ := DataW.trod_struct Try.underlying43 h
  rw [cellsTOp10_43] at hlen
  match cs, hlen with
  | [c0, c1, c2, c3], _ =>
    have h0 : DataW.trod encH Try.prog w base spare held n 3 [c0] = some (ys[0]'(by rw [hyl]; decide)) := by
      have z : DataW.trod encH Try.prog w base spare held n 3 (List.take (Try.prog.cellsOf 3) (List.drop 0 [c0, c1, c2, c3])) = ys[0]? := hf 0 _ rfl
      rw [cellsTOp10_3] at z
      exact z.trans (List.getElem?_eq_getElem (by rw [hyl]; decide))
    obtain ⟨y0, e0, _, w0⟩ := DataW.trod_int Try.underlying3 h0
    have h1 : DataW.trod encH Try.prog w base spare held n 24 [c1, c2, c3] = some (ys[1]'(by rw [hyl]; decide)) := by
      have z : DataW.trod encH Try.prog w base spare held n 24 (List.take (Try.prog.cellsOf 24) (List.drop 1 [c0, c1, c2, c3])) = ys[1]? := hf 1 _ rfl
      rw [cellsTOp10_24] at z
      exact z.trans (List.getElem?_eq_getElem (by rw [hyl]; decide))
    obtain ⟨y1, e1, w1⟩ := trod_Group h1
    refine ⟨⟨y0, y1⟩, ?_, w0, w1, trivial⟩
    obtain rfl := (List.cons.inj e0).1
    simp only [encGroup, List.cons.injEq, and_true] at e1
    obtain ⟨rfl, rfl, rfl⟩ := e1
    rfl

end Go.Proofs.Ytfjngecgfmlnfaa
