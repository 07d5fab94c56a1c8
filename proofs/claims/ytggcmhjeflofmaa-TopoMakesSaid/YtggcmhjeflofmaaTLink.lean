/- Structs that the statements take: their cells, and what is known of one that came in (printed by gen_struct.py). -/
import Derived.Test.YtggcmhjeflofmaaFlo
namespace Go.Proofs.Ytggcmhjeflofmaa
open Go.RowKit Go.ChangeShapes Go.WideShapes Go.Deep
set_option linter.unusedVariables false

theorem cellsTLink_3 : Try.prog.cellsOf 3 = 1 := by kernel_rfl
theorem cellsTLink_41 : Try.prog.cellsOf 41 = 1 := by kernel_rfl
theorem cellsTLink_52 : Try.prog.cellsOf 52 = 5 := by kernel_rfl
structure Link where
  fA : Int
  fPortA : Int
  fB : Int
  fPortB : Int
  fCost : Nat
def encLink (x : Link) : List Value := [.int .i64 x.fA, .int .i64 x.fPortA, .int .i64 x.fB, .int .i64 x.fPortB, .float .f64 x.fCost]
abbrev valLink (x : Link) : Value := .agg #[.int .i64 x.fA, .int .i64 x.fPortA, .int .i64 x.fB, .int .i64 x.fPortB, .float .f64 x.fCost]
def okLink (w : World) (x : Link) : Prop := (Lit.int .i64 x.fA).wf = true ∧ (Lit.int .i64 x.fPortA).wf = true ∧ (Lit.int .i64 x.fB).wf = true ∧ (Lit.int .i64 x.fPortB).wf = true ∧ (Lit.float .f64 x.fCost).wf = true ∧ True
theorem encLink_len (x : Link) : (encLink x).length = 5 := rfl
theorem encLink_one (x : Link) (hx : True) : ∀ u ∈ encLink x, u.oneCell' = true := by intro u hu; simp [encLink] at hu; rcases hu with rfl | rfl | rfl | rfl | rfl <;> rfl
set_option maxRecDepth 100000 in
theorem trod_Link {H : Type} {encH : TypeId × Value → H} {w : World} {base : Nat} {spare : Nat → Bool} {held : Bool} {fuel : Nat} {cs : List Value} {x : DataW H × List MemPlace}
    (h : DataW.trod encH Try.prog w base spare held fuel 52 cs = some x) : ∃ y : Link, cs = encLink y ∧ okLink w y := by
  obtain ⟨ys, n, _, _, hlen, hyl, hf⟩ := DataW.trod_struct Try.underlying52 h
  rw [cellsTLink_52] at hlen
  match cs, hlen with
  | [c0, c1, c2, c3, c4], _ =>
    have h0 : DataW.trod encH Try.prog w base spare held n 3 [c0] = some (ys[0]'(by rw [hyl]; decide)) := by
      have z : DataW.trod encH Try.prog w base spare held n 3 (List.take (Try.prog.cellsOf 3) (List.drop 0 [c0, c1, c2, c3, c4])) = ys[0]? := hf 0 _ rfl
      rw [cellsTLink_3] at z
      exact z.trans (List.getElem?_eq_getElem (by rw [hyl]; decide))
    obtain ⟨y0, e0, _, w0⟩ := DataW.trod_int Try.underlying3 h0
    have h1 : DataW.trod encH Try.prog w base spare held n 3 [c1] = some (ys[1]'(by rw [hyl]; decide)) := by
      have z : DataW.trod encH Try.prog w base spare held n 3 (List.take (Try.prog.cellsOf 3) (List.drop 1 [c0, c1, c2, c3, c4])) = ys[1]? := hf 1 _ rfl
      rw [cellsTLink_3] at z
      exact z.trans (List.getElem?_eq_getElem (by rw [hyl]; decide))
    obtain ⟨y1, e1, _, w1⟩ := DataW.trod_int Try.underlying3 h1
    have h2 : DataW.trod encH Try.prog w base spare held n 3 [c2] = some (ys[2]'(by rw [hyl]; decide)) := by
      have z : DataW.trod encH Try.prog w base spare held n 3 (List.take (Try.prog.cellsOf 3) (List.drop 2 [c0, c1, c2, c3, c4])) = ys[2]? := hf 2 _ rfl
      rw [cellsTLink_3] at z
      exact z.trans (List.getElem?_eq_getElem (by rw [hyl]; decide))
    obtain ⟨y2, e2, _, w2⟩ := DataW.trod_int Try.underlying3 h2
    have h3 : DataW.trod encH Try.prog w base spare held n 3 [c3] = some (ys[3]'(by rw [hyl]; decide)) := by
      have z : DataW.trod encH Try.prog w base spare held n 3 (List.take (Try.prog.cellsOf 3) (List.drop 3 [c0, c1, c2, c3, c4])) = ys[3]? := hf 3 _ rfl
      rw [cellsTLink_3] at z
      exact z.trans (List.getElem?_eq_getElem (by rw [hyl]; decide))
    obtain ⟨y3, e3, _, w3⟩ := DataW.trod_int Try.underlying3 h3
    have h4 : DataW.trod encH Try.prog w base spare held n 41 [c4] = some (ys[4]'(by rw [hyl]; decide)) := by
      have z : DataW.trod encH Try.prog w base spare held n 41 (List.take (Try.prog.cellsOf 41) (List.drop 4 [c0, c1, c2, c3, c4])) = ys[4]? := hf 4 _ rfl
      rw [cellsTLink_41] at z
      exact z.trans (List.getElem?_eq_getElem (by rw [hyl]; decide))
    obtain ⟨y4, e4, w4⟩ := trod_flo Try.underlying41 h4
    refine ⟨⟨y0, y1, y2, y3, y4⟩, ?_, w0, w1, w2, w3, w4, trivial⟩
    obtain rfl := (List.cons.inj e0).1
    obtain rfl := (List.cons.inj e1).1
    obtain rfl := (List.cons.inj e2).1
    obtain rfl := (List.cons.inj e3).1
    obtain rfl := (List.cons.inj e4).1
    rfl

end Go.Proofs.Ytggcmhjeflofmaa
