/- Structs that the statements take: their cells, and what is known of one that came in (printed by gen_struct.py). -/
import Derived.Test.YtaaadbmhcfjooaaRead
namespace Go.Proofs.Ytaaadbmhcfjooaa
open Go.RowKit Go.ChangeShapes Go.WideShapes Go.Deep
set_option linter.unusedVariables false

theorem cellsTSeen_32 : Try.prog.cellsOf 32 = 1 := by kernel_rfl
theorem cellsTSeen_3 : Try.prog.cellsOf 3 = 1 := by kernel_rfl
theorem cellsTSeen_33 : Try.prog.cellsOf 33 = 1 := by kernel_rfl
theorem cellsTSeen_9 : Try.prog.cellsOf 9 = 1 := by kernel_rfl
theorem cellsTSeen_35 : Try.prog.cellsOf 35 = 11 := by kernel_rfl
structure Pkt where
  fTo : Int
  fFrom : Int
  fVlan : Int
  fType : Int
  fSrc : Int
  fDst : Int
  fLife : Int
  fProto : Int
  fSport : Int
  fDport : Int
  fData : ByteArray
def encPkt (x : Pkt) : List Value := [.int .u64 x.fTo, .int .u64 x.fFrom, .int .i64 x.fVlan, .int .i64 x.fType, .int .u32 x.fSrc, .int .u32 x.fDst, .int .i64 x.fLife, .int .i64 x.fProto, .int .i64 x.fSport, .int .i64 x.fDport, .string x.fData]
abbrev valPkt (x : Pkt) : Value := .agg #[.int .u64 x.fTo, .int .u64 x.fFrom, .int .i64 x.fVlan, .int .i64 x.fType, .int .u32 x.fSrc, .int .u32 x.fDst, .int .i64 x.fLife, .int .i64 x.fProto, .int .i64 x.fSport, .int .i64 x.fDport, .string x.fData]
def okPkt (w : World) (x : Pkt) : Prop := (Lit.int .u64 x.fTo).wf = true ∧ (Lit.int .u64 x.fFrom).wf = true ∧ (Lit.int .i64 x.fVlan).wf = true ∧ (Lit.int .i64 x.fType).wf = true ∧ (Lit.int .u32 x.fSrc).wf = true ∧ (Lit.int .u32 x.fDst).wf = true ∧ (Lit.int .i64 x.fLife).wf = true ∧ (Lit.int .i64 x.fProto).wf = true ∧ (Lit.int .i64 x.fSport).wf = true ∧ (Lit.int .i64 x.fDport).wf = true ∧ x.fData.size ≤ maxLen ∧ True
theorem encPkt_len (x : Pkt) : (encPkt x).length = 11 := rfl
theorem encPkt_one (x : Pkt) (hx : True) : ∀ u ∈ encPkt x, u.oneCell' = true := by intro u hu; simp [encPkt] at hu; rcases hu with rfl | rfl | rfl | rfl | rfl | rfl | rfl | rfl | rfl | rfl | rfl <;> rfl
set_option maxRecDepth 100000 in
theorem trod_Pkt {H : Type} {encH : TypeId × Value → H} {w : World} {base : Nat} {spare : Nat → Bool} {held : Bool} {fuel : Nat} {cs : List Value} {x : DataW H × List MemPlace}
    (h : DataW.trod encH Try.prog w base spare held fuel 35 cs = some x) : ∃ y : Pkt, cs = encPkt y ∧ okPkt w y := by
  obtain ⟨ys, n, _, _, hlen, hyl, hf⟩ := DataW.trod_struct Try.underlying35 h
  rw [cellsTSeen_35] at hlen
  match cs, hlen with
  | [c0, c1, c2, c3, c4, c5, c6, c7, c8, c9, c10], _ =>
    have h0 : DataW.trod encH Try.prog w base spare held n 32 [c0] = some (ys[0]'(by rw [hyl]; decide)) := by
      have z : DataW.trod encH Try.prog w base spare held n 32 (List.take (Try.prog.cellsOf 32) (List.drop 0 [c0, c1, c2, c3, c4, c5, c6, c7, c8, c9, c10])) = ys[0]? := hf 0 _ rfl
      rw [cellsTSeen_32] at z
      exact z.trans (List.getElem?_eq_getElem (by rw [hyl]; decide))
    obtain ⟨y0, e0, _, w0⟩ := DataW.trod_int Try.underlying32 h0
    have h1 : DataW.trod encH Try.prog w base spare held n 32 [c1] = some (ys[1]'(by rw [hyl]; decide)) := by
      have z : DataW.trod encH Try.prog w base spare held n 32 (List.take (Try.prog.cellsOf 32) (List.drop 1 [c0, c1, c2, c3, c4, c5, c6, c7, c8, c9, c10])) = ys[1]? := hf 1 _ rfl
      rw [cellsTSeen_32] at z
      exact z.trans (List.getElem?_eq_getElem (by rw [hyl]; decide))
    obtain ⟨y1, e1, _, w1⟩ := DataW.trod_int Try.underlying32 h1
    have h2 : DataW.trod encH Try.prog w base spare held n 3 [c2] = some (ys[2]'(by rw [hyl]; decide)) := by
      have z : DataW.trod encH Try.prog w base spare held n 3 (List.take (Try.prog.cellsOf 3) (List.drop 2 [c0, c1, c2, c3, c4, c5, c6, c7, c8, c9, c10])) = ys[2]? := hf 2 _ rfl
      rw [cellsTSeen_3] at z
      exact z.trans (List.getElem?_eq_getElem (by rw [hyl]; decide))
    obtain ⟨y2, e2, _, w2⟩ := DataW.trod_int Try.underlying3 h2
    have h3 : DataW.trod encH Try.prog w base spare held n 3 [c3] = some (ys[3]'(by rw [hyl]; decide)) := by
      have z : DataW.trod encH Try.prog w base spare held n 3 (List.take (Try.prog.cellsOf 3) (List.drop 3 [c0, c1, c2, c3, c4, c5, c6, c7, c8, c9, c10])) = ys[3]? := hf 3 _ rfl
      rw [cellsTSeen_3] at z
      exact z.trans (List.getElem?_eq_getElem (by rw [hyl]; decide))
    obtain ⟨y3, e3, _, w3⟩ := DataW.trod_int Try.underlying3 h3
    have h4 : DataW.trod encH Try.prog w base spare held n 33 [c4] = some (ys[4]'(by rw [hyl]; decide)) := by
      have z : DataW.trod encH Try.prog w base spare held n 33 (List.take (Try.prog.cellsOf 33) (List.drop 4 [c0, c1, c2, c3, c4, c5, c6, c7, c8, c9, c10])) = ys[4]? := hf 4 _ rfl
      rw [cellsTSeen_33] at z
      exact z.trans (List.getElem?_eq_getElem (by rw [hyl]; decide))
    obtain ⟨y4, e4, _, w4⟩ := DataW.trod_int Try.underlying33 h4
    have h5 : DataW.trod encH Try.prog w base spare held n 33 [c5] = some (ys[5]'(by rw [hyl]; decide)) := by
      have z : DataW.trod encH Try.prog w base spare held n 33 (List.take (Try.prog.cellsOf 33) (List.drop 5 [c0, c1, c2, c3, c4, c5, c6, c7, c8, c9, c10])) = ys[5]? := hf 5 _ rfl
      rw [cellsTSeen_33] at z
      exact z.trans (List.getElem?_eq_getElem (by rw [hyl]; decide))
    obtain ⟨y5, e5, _, w5⟩ := DataW.trod_int Try.underlying33 h5
    have h6 : DataW.trod encH Try.prog w base spare held n 3 [c6] = some (ys[6]'(by rw [hyl]; decide)) := by
      have z : DataW.trod encH Try.prog w base spare held n 3 (List.take (Try.prog.cellsOf 3) (List.drop 6 [c0, c1, c2, c3, c4, c5, c6, c7, c8, c9, c10])) = ys[6]? := hf 6 _ rfl
      rw [cellsTSeen_3] at z
      exact z.trans (List.getElem?_eq_getElem (by rw [hyl]; decide))
    obtain ⟨y6, e6, _, w6⟩ := DataW.trod_int Try.underlying3 h6
    have h7 : DataW.trod encH Try.prog w base spare held n 3 [c7] = some (ys[7]'(by rw [hyl]; decide)) := by
      have z : DataW.trod encH Try.prog w base spare held n 3 (List.take (Try.prog.cellsOf 3) (List.drop 7 [c0, c1, c2, c3, c4, c5, c6, c7, c8, c9, c10])) = ys[7]? := hf 7 _ rfl
      rw [cellsTSeen_3] at z
      exact z.trans (List.getElem?_eq_getElem (by rw [hyl]; decide))
    obtain ⟨y7, e7, _, w7⟩ := DataW.trod_int Try.underlying3 h7
    have h8 : DataW.trod encH Try.prog w base spare held n 3 [c8] = some (ys[8]'(by rw [hyl]; decide)) := by
      have z : DataW.trod encH Try.prog w base spare held n 3 (List.take (Try.prog.cellsOf 3) (List.drop 8 [c0, c1, c2, c3, c4, c5, c6, c7, c8, c9, c10])) = ys[8]? := hf 8 _ rfl
      rw [cellsTSeen_3] at z
      exact z.trans (List.getElem?_eq_getElem (by rw [hyl]; decide))
    obtain ⟨y8, e8, _, w8⟩ := DataW.trod_int Try.underlying3 h8
    have h9 : DataW.trod encH Try.prog w base spare held n 3 [c9] = some (ys[9]'(by rw [hyl]; decide)) := by
      have z : DataW.trod encH Try.prog w base spare held n 3 (List.take (Try.prog.cellsOf 3) (List.drop 9 [c0, c1, c2, c3, c4, c5, c6, c7, c8, c9, c10])) = ys[9]? := hf 9 _ rfl
      rw [cellsTSeen_3] at z
      exact z.trans (List.getElem?_eq_getElem (by rw [hyl]; decide))
    obtain ⟨y9, e9, _, w9⟩ := DataW.trod_int Try.underlying3 h9
    have h10 : DataW.trod encH Try.prog w base spare held n 9 [c10] = some (ys[10]'(by rw [hyl]; decide)) := by
      have z : DataW.trod encH Try.prog w base spare held n 9 (List.take (Try.prog.cellsOf 9) (List.drop 10 [c0, c1, c2, c3, c4, c5, c6, c7, c8, c9, c10])) = ys[10]? := hf 10 _ rfl
      rw [cellsTSeen_9] at z
      exact z.trans (List.getElem?_eq_getElem (by rw [hyl]; decide))
    obtain ⟨y10, e10, _, w10⟩ := DataW.trod_string Try.underlying9 h10
    refine ⟨⟨y0, y1, y2, y3, y4, y5, y6, y7, y8, y9, y10⟩, ?_, w0, w1, w2, w3, w4, w5, w6, w7, w8, w9, w10, trivial⟩
    obtain rfl := (List.cons.inj e0).1
    obtain rfl := (List.cons.inj e1).1
    obtain rfl := (List.cons.inj e2).1
    obtain rfl := (List.cons.inj e3).1
    obtain rfl := (List.cons.inj e4).1
    obtain rfl := (List.cons.inj e5).1
    obtain rfl := (List.cons.inj e6).1
    obtain rfl := (List.cons.inj e7).1
    obtain rfl := (List.cons.inj e8).1
    obtain rfl := (List.cons.inj e9).1
    obtain rfl := (List.cons.inj e10).1
    rfl

theorem cellsTSeen_37 : Try.prog.cellsOf 37 = 13 := by kernel_rfl
structure Seen where
  fIn : Int
  fMeta : Int
  fP : Pkt
def encSeen (x : Seen) : List Value := [.int .i64 x.fIn, .int .u64 x.fMeta, .int .u64 x.fP.fTo, .int .u64 x.fP.fFrom, .int .i64 x.fP.fVlan, .int .i64 x.fP.fType, .int .u32 x.fP.fSrc, .int .u32 x.fP.fDst, .int .i64 x.fP.fLife, .int .i64 x.fP.fProto, .int .i64 x.fP.fSport, .int .i64 x.fP.fDport, .string x.fP.fData]
abbrev valSeen (x : Seen) : Value := .agg #[.int .i64 x.fIn, .int .u64 x.fMeta, .int .u64 x.fP.fTo, .int .u64 x.fP.fFrom, .int .i64 x.fP.fVlan, .int .i64 x.fP.fType, .int .u32 x.fP.fSrc, .int .u32 x.fP.fDst, .int .i64 x.fP.fLife, .int .i64 x.fP.fProto, .int .i64 x.fP.fSport, .int .i64 x.fP.fDport, .string x.fP.fData]
def okSeen (w : World) (x : Seen) : Prop := (Lit.int .i64 x.fIn).wf = true ∧ (Lit.int .u64 x.fMeta).wf = true ∧ okPkt w x.fP ∧ True
theorem encSeen_len (x : Seen) : (encSeen x).length = 13 := rfl
theorem encSeen_one (x : Seen) (hx : True) : ∀ u ∈ encSeen x, u.oneCell' = true := by intro u hu; simp [encSeen] at hu; rcases hu with rfl | rfl | rfl | rfl | rfl | rfl | rfl | rfl | rfl | rfl | rfl | rfl | rfl <;> rfl
set_option maxRecDepth 100000 in
theorem trod_Seen {H : Type} {encH : TypeId × Value → H} {w : World} {base : Nat} {spare : Nat → Bool} {held : Bool} {fuel : Nat} {cs : List Value} {x : DataW H × List MemPlace}
    (h : DataW.trod encH Try.prog w base spare held fuel 37 cs = some x) : ∃ y : Seen, cs = encSeen y ∧ okSeen w y := by
  obtain ⟨ys, n, _, _, hlen, hyl, hf⟩ := DataW.trod_struct Try.underlying37 h
  rw [cellsTSeen_37] at hlen
  match cs, hlen with
  | [c0, c1, c2, c3, c4, c5, c6, c7, c8, c9, c10, c11, c12], _ =>
    have h0 : DataW.trod encH Try.prog w base spare held n 3 [c0] = some (ys[0]'(by rw [hyl]; decide)) := by
      have z : DataW.trod encH Try.prog w base spare held n 3 (List.take (Try.prog.cellsOf 3) (List.drop 0 [c0, c1, c2, c3, c4, c5, c6, c7, c8, c9, c10, c11, c12])) = ys[0]? := hf 0 _ rfl
      rw [cellsTSeen_3] at z
      exact z.trans (List.getElem?_eq_getElem (by rw [hyl]; decide))
    obtain ⟨y0, e0, _, w0⟩ := DataW.trod_int Try.underlying3 h0
    have h1 : DataW.trod encH Try.prog w base spare held n 32 [c1] = some (ys[1]'(by rw [hyl]; decide)) := by
      have z : DataW.trod encH Try.prog w base spare held n 32 (List.take (Try.prog.cellsOf 32) (List.drop 1 [c0, c1, c2, c3, c4, c5, c6, c7, c8, c9, c10, c11, c12])) = ys[1]? := hf 1 _ rfl
      rw [cellsTSeen_32] at z
      exact z.trans (List.getElem?_eq_getElem (by rw [hyl]; decide))
    obtain ⟨y1, e1, _, w1⟩ := DataW.trod_int Try.underlying32 h1
    have h2 : DataW.trod encH Try.prog w base spare held n 35 [c2, c3, c4, c5, c6, c7, c8, c9, c10, c11, c12] = some (ys[2]'(by rw [hyl]; decide)) := by
      have z : DataW.trod encH Try.prog w base spare held n 35 (List.take (Try.prog.cellsOf 35) (List.drop 2 [c0, c1, c2, c3, c4, c5, c6, c7, c8, c9, c10, c11, c12])) = ys[2]? := hf 2 _ rfl
      rw [cellsTSeen_35] at z
      exact z.trans (List.getElem?_eq_getElem (by rw [hyl]; decide))
    obtain ⟨y2, e2, w2⟩ := trod_Pkt h2
    refine ⟨⟨y0, y1, y2⟩, ?_, w0, w1, w2, trivial⟩
    obtain rfl := (List.cons.inj e0).1
    obtain rfl := (List.cons.inj e1).1
    simp only [encPkt, List.cons.injEq, and_true] at e2
    obtain ⟨rfl, rfl, rfl, rfl, rfl, rfl, rfl, rfl, rfl, rfl, rfl⟩ := e2
    rfl

end Go.Proofs.Ytaaadbmhcfjooaa
