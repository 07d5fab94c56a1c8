/- Structs that the statements take: their cells, and what is known of one that came in (printed by gen_struct.py). -/
import Derived.Test.YthihncfmimkimaaRead
namespace Go.Proofs.Ythihncfmimkimaa
open Go.RowKit Go.ChangeShapes Go.WideShapes Go.Deep
set_option linter.unusedVariables false

theorem cellsTPkt_22 : Try.prog.cellsOf 22 = 1 := by kernel_rfl
theorem cellsTPkt_3 : Try.prog.cellsOf 3 = 1 := by kernel_rfl
theorem cellsTPkt_23 : Try.prog.cellsOf 23 = 1 := by kernel_rfl
theorem cellsTPkt_9 : Try.prog.cellsOf 9 = 1 := by kernel_rfl
theorem cellsTPkt_25 : Try.prog.cellsOf 25 = 11 := by kernel_rfl
structure Pkt where
  fTo : Int
  fFrom : Int
  fVlan : Int
  fType : Int
  fSrc : Int
  fDst : Int
  fLife : Int
  fProto : Int
  fSport : Int
  fDport : Int
  fData : ByteArray
def encPkt (x : Pkt) : List Value := [.int .u64 x.fTo, .int .u64 x.fFrom, .int .i64 x.fVlan, .int .i64 x.fType, .int .u32 x.fSrc, .int .u32 x.fDst, .int .i64 x.fLife, .int .i64 x.fProto, .int .i64 x.fSport, .int .i64 x.fDport, .string x.fData]
abbrev valPkt (x : Pkt) : Value := .agg #[.int .u64 x.fTo, .int .u64 x.fFrom, .int .i64 x.fVlan, .int .i64 x.fType, .int .u32 x.fSrc, .int .u32 x.fDst, .int .i64 x.fLife, .int .i64 x.fProto, .int .i64 x.fSport, .int .i64 x.fDport, .string x.fData]
def okPkt (w : World) (x : Pkt) : Prop := (Lit.int .u64 x.fTo).wf = true ∧ (Lit.int .u64 x.fFrom).wf = true ∧ (Lit.int .i64 x.fVlan).wf = true ∧ (Lit.int .i64 x.fType).wf = true ∧ (Lit.int .u32 x.fSrc).wf = true ∧ (Lit.int .u32 x.fDst).wf = true ∧ (Lit.int .i64 x.fLife).wf = true ∧ (Lit.int .i64 x.fProto).wf = true ∧ (Lit.int .i64 x.fSport).wf = true ∧ (Lit.int .i64 x.fDport).wf = true ∧ x.fData.size ≤ maxLen ∧ True
theorem encPkt_len (x : Pkt) : (encPkt x).length = 11 := rfl
theorem encPkt_one (x : Pkt) (hx : True) : ∀ u ∈ encPkt x, u.oneCell' = true := by intro u hu; simp [encPkt] at hu; rcases hu with rfl | rfl | rfl | rfl | rfl | rfl | rfl | rfl | rfl | rfl | rfl <;> rfl
set_option maxRecDepth 100000 in
theorem trod_Pkt {H : Type} {encH : TypeId × Value → H} {w : World} {base : Nat} {spare : Nat → Bool} {held : Bool} {fuel : Nat} {cs : List Value} {x : DataW H × List MemPlace}
    (h : DataW.trod encH Try.prog w base spare held fuel 25 cs = some x) : ∃ y : Pkt, cs = encPkt y ∧ okPkt w y := by
  obtain ⟨ys, n, _, _, hlen, hyl, hf⟩ := DataW.trod_struct Try.underlying25 h
  rw [cellsTPkt_25] at hlen
  match cs, hlen with
  | [c0, c1, c2, c3, c4, c5, c6, c7, c8, c9, c10], _ =>
    have h0 : DataW.trod encH Try.prog w base spare held n 22 [c0] = some (ys[0]'(by rw [hyl]; decide)) := by
      have z : DataW.trod encH Try.prog w base spare held n 22 (List.take (Try.prog.cellsOf 22) (List.drop 0 [c0, c1, c2, c3, c4, c5, c6, c7, c8, c9, c10])) = ys[0]? := hf 0 _ rfl
      rw [cellsTPkt_22] at z
      exact z.trans (List.getElem?_eq_getElem (by rw [hyl]; decide))
    obtain ⟨y0, e0, _, w0⟩ := DataW.trod_int Try.underlying22 h0
    have h1 : DataW.trod encH Try.prog w base spare held n 22 [c1] = some (ys[1]'(by rw [hyl]; decide)) := by
      have z : DataW.trod encH Try.prog w base spare held n 22 (List.take (Try.prog.cellsOf 22) (List.drop 1 [c0, c1, c2, c3, c4, c5, c6, c7, c8, c9, c10])) = ys[1]? := hf 1 _ rfl
      rw [cellsTPkt_22] at z
      exact z.trans (List.getElem?_eq_getElem (by rw [hyl]; decide))
    obtain ⟨y1, e1, _, w1⟩ := DataW.trod_int Try.underlying22 h1
    have h2 : DataW.trod encH Try.prog w base spare held n 3 [c2] = some (ys[2]'(by rw [hyl]; decide)) := by
      have z : DataW.trod encH Try.prog w base spare held n 3 (List.take (Try.prog.cellsOf 3) (List.drop 2 [c0, c1, c2, c3, c4, c5, c6, c7, c8, c9, c10])) = ys[2]? := hf 2 _ rfl
      rw [cellsTPkt_3] at z
      exact z.trans (List.getElem?_eq_getElem (by rw [hyl]; decide))
    obtain ⟨y2, e2, _, w2⟩ := DataW.trod_int Try.underlying3 h2
    have h3 : DataW.trod encH Try.prog w base spare held n 3 [c3] = some (ys[3]'(by rw [hyl]; decide)) := by
      have z : DataW.trod encH Try.prog w base spare held n 3 (List.take (Try.prog.cellsOf 3) (List.drop 3 [c0, c1, c2, c3, c4, c5, c6, c7, c8, c9, c10])) = ys[3]? := hf 3 _ rfl
      rw [cellsTPkt_3] at z
      exact z.trans (List.getElem?_eq_getElem (by rw [hyl]; decide))
    obtain ⟨y3, e3, _, w3⟩ := DataW.trod_int Try.underlying3 h3
    have h4 : DataW.trod encH Try.prog w base spare held n 23 [c4] = some (ys[4]'(by rw [hyl]; decide)) := by
      have z : DataW.trod encH Try.prog w base spare held n 23 (List.take (Try.prog.cellsOf 23) (List.drop 4 [c0, c1, c2, c3, c4, c5, c6, c7, c8, c9, c10])) = ys[4]? := hf 4 _ rfl
      rw [cellsTPkt_23] at z
      exact z.trans (List.getElem?_eq_getElem (by rw [hyl]; decide))
    obtain ⟨y4, e4, _, w4⟩ := DataW.trod_int Try.underlying23 h4
    have h5 : DataW.trod encH Try.prog w base spare held n 23 [c5] = some (ys[5]'(by rw [hyl]; decide)) := by
      have z : DataW.trod encH Try.prog w base spare held n 23 (List.take (Try.prog.cellsOf 23) (List.drop 5 [c0, c1, c2, c3, c4, c5, c6, c7, c8, c9, c10])) = ys[5]? := hf 5 _ rfl
      rw [cellsTPkt_23] at z
      exact z.trans (List.getElem?_eq_getElem (by rw [hyl]; decide))
    obtain ⟨y5, e5, _, w5⟩ := DataW.trod_int Try.underlying23 h5
    have h6 : DataW.trod encH Try.prog w base spare held n 3 [c6] = some (ys[6]'(by rw [hyl]; decide)) := by
      have z : DataW.trod encH Try.prog w base spare held n 3 (List.take (Try.prog.cellsOf 3) (List.drop 6 [c0, c1, c2, c3, c4, c5, c6, c7, c8, c9, c10])) = ys[6]? := hf 6 _ rfl
      rw [cellsTPkt_3] at z
      exact z.trans (List.getElem?_eq_getElem (by rw [hyl]; decide))
    obtain ⟨y6, e6, _, w6⟩ := DataW.trod_int Try.underlying3 h6
    have h7 : DataW.trod encH Try.prog w base spare held n 3 [c7] = some (ys[7]'(by rw [hyl]; decide)) := by
      have z : DataW.trod encH Try.prog w base spare held n 3 (List.take (Try.prog.cellsOf 3) (List.drop 7 [c0, c1, c2, c3, c4, c5, c6, c7, c8, c9, c10])) = ys[7]? := hf 7 _ rfl
      rw [cellsTPkt_3] at z
      exact z.trans (List.getElem?_eq_getElem (by rw [hyl]; decide))
    obtain ⟨y7, e7, _, w7⟩ := DataW.trod_int Try.underlying3 h7
    have h8 : DataW.trod encH Try.prog w base spare held n 3 [c8] = some (ys[8]'(by rw [hyl]; decide)) := by
      have z : DataW.trod encH Try.prog w base spare held n 3 (List.take (Try.prog.cellsOf 3) (List.drop 8 [c0, c1, c2, c3, c4, c5, c6, c7, c8, c9, c10])) = ys[8]? := hf 8 _ rfl
      rw [cellsTPkt_3] at z
      exact z.trans (List.getElem?_eq_getElem (by rw [hyl]; decide))
    obtain ⟨y8, e8, _, w8⟩ := DataW.trod_int Try.underlying3 h8
    have h9 : DataW.trod encH Try.prog w base spare held n 3 [c9] = some (ys[9]'(by rw [hyl]; decide)) := by
      have z : DataW.trod encH Try.prog w base spare held n 3 (List.take (Try.prog.cellsOf 3) (List.drop 9 [c0, c1, c2, c3, c4, c5, c6, c7, c8, c9, c10])) = ys[9]? := hf 9 _ rfl
      rw [cellsTPkt_3] at z
      exact z.trans (List.getElem?_eq_getElem (by rw [hyl]; decide))
    obtain ⟨y9, e9, _, w9⟩ := DataW.trod_int Try.underlying3 h9
    have h10 : DataW.trod encH Try.prog w base spare held n 9 [c10] = some (ys[10]'(by rw [hyl]; decide)) := by
      have z : DataW.trod encH Try.prog w base spare held n 9 (List.take (Try.prog.cellsOf 9) (List.drop 10 [c0, c1, c2, c3, c4, c5, c6, c7, c8, c9, c10])) = ys[10]? := hf 10 _ rfl
      rw [cellsTPkt_9] at z
      exact z.trans (List.getElem?_eq_getElem (by rw [hyl]; decide))
    obtain ⟨y10, e10, _, w10⟩ := DataW.trod_string Try.underlying9 h10
    refine ⟨⟨y0, y1, y2, y3, y4, y5, y6, y7, y8, y9, y10⟩, ?_, w0, w1, w2, w3, w4, w5, w6, w7, w8, w9, w10, trivial⟩
    obtain rfl := (List.cons.inj e0).1
    obtain rfl := (List.cons.inj e1).1
    obtain rfl := (List.cons.inj e2).1
    obtain rfl := (List.cons.inj e3).1
    obtain rfl := (List.cons.inj e4).1
    obtain rfl := (List.cons.inj e5).1
    obtain rfl := (List.cons.inj e6).1
    obtain rfl := (List.cons.inj e7).1
    obtain rfl := (List.cons.inj e8).1
    obtain rfl := (List.cons.inj e9).1
    obtain rfl := (List.cons.inj e10).1
    rfl

end Go.Proofs.Ythihncfmimkimaa
