/- Structs that the statements take: their cells, and what is known of one that came in (printed by gen_struct.py). -/
import Derived.Test.YtnemolbppebmkaaRead
namespace Go.Proofs.Ytnemolbppebmkaa
open Go.RowKit Go.ChangeShapes Go.WideShapes Go.Deep
set_option linter.unusedVariables false

theorem cellsTOp_4 : Try.prog.cellsOf 4 = 1 := by kernel_rfl
theorem cellsTOp_3 : Try.prog.cellsOf 3 = 1 := by kernel_rfl
theorem cellsTOp_32 : Try.prog.cellsOf 32 = 2 := by kernel_rfl
structure MOp where
  fTick : Bool
  fN : Int
def encMOp (x : MOp) : List Value := [.bool x.fTick, .int .i64 x.fN]
abbrev valMOp (x : MOp) : Value := .agg #[.bool x.fTick, .int .i64 x.fN]
def okMOp (w : World) (x : MOp) : Prop := (Lit.int .i64 x.fN).wf = true ∧ True
theorem encMOp_len (x : MOp) : (encMOp x).length = 2 := rfl
theorem encMOp_one (x : MOp) (hx : True) : ∀ u ∈ encMOp x, u.oneCell' = true := by intro u hu; simp [encMOp] at hu; rcases hu with rfl | rfl <;> rfl
set_option maxRecDepth 100000 in
theorem trod_MOp {H : Type} {encH : TypeId × Value → H} {w : World} {base : Nat} {spare : Nat → Bool} {held : Bool} {fuel : Nat} {cs : List Value} {x : DataW H × List MemPlace}
    (h : DataW.trod encH Try.prog w base spare held fuel 32 cs = some x) : ∃ y : MOp, cs = encMOp y ∧ okMOp w y := by
  obtain ⟨ys, n, _, _, hlen, hyl, hf⟩ := DataW.trod_struct Try.underlying32 h
  rw [cellsTOp_32] at hlen
  match cs, hlen with
  | [c0, c1], _ =>
    have h0 : DataW.trod encH Try.prog w base spare held n 4 [c0] = some (ys[0]'(by rw [hyl]; decide)) := by
      have z : DataW.trod encH Try.prog w base spare held n 4 (List.take (Try.prog.cellsOf 4) (List.drop 0 [c0, c1])) = ys[0]? := hf 0 _ rfl
      rw [cellsTOp_4] at z
      exact z.trans (List.getElem?_eq_getElem (by rw [hyl]; decide))
    obtain ⟨y0, e0, _⟩ := DataW.trod_bool Try.underlying4 h0
    have h1 : DataW.trod encH Try.prog w base spare held n 3 [c1] = some (ys[1]'(by rw [hyl]; decide)) := by
      have z : DataW.trod encH Try.prog w base spare held n 3 (List.take (Try.prog.cellsOf 3) (List.drop 1 [c0, c1])) = ys[1]? := hf 1 _ rfl
      rw [cellsTOp_3] at z
      exact z.trans (List.getElem?_eq_getElem (by rw [hyl]; decide))
    obtain ⟨y1, e1, _, w1⟩ := DataW.trod_int Try.underlying3 h1
    refine ⟨⟨y0, y1⟩, ?_, w1, trivial⟩
    obtain rfl := (List.cons.inj e0).1
    obtain rfl := (List.cons.inj e1).1
    rfl

end Go.Proofs.Ytnemolbppebmkaa
