/- Structs that the statements take: their cells, and what is known of one that came in (printed by gen_struct.py). -/
import Derived.Test.YtdjhbahiiabimaaRead
namespace Go.Proofs.Ytdjhbahiiabimaa
open Go.RowKit Go.ChangeShapes Go.WideShapes Go.Deep
set_option linter.unusedVariables false

theorem cellsTEntry_3 : Try.prog.cellsOf 3 = 1 := by kernel_rfl
theorem cellsTEntry_24 : Try.prog.cellsOf 24 = 1 := by kernel_rfl
theorem cellsTEntry_67 : Try.prog.cellsOf 67 = 3 := by kernel_rfl
structure Action where
  fKind : Int
  fField : Int
  fValue : Int
def encAction (x : Action) : List Value := [.int .i64 x.fKind, .int .i64 x.fField, .int .u64 x.fValue]
abbrev valAction (x : Action) : Value := .agg #[.int .i64 x.fKind, .int .i64 x.fField, .int .u64 x.fValue]
def okAction (w : World) (x : Action) : Prop := (Lit.int .i64 x.fKind).wf = true ∧ (Lit.int .i64 x.fField).wf = true ∧ (Lit.int .u64 x.fValue).wf = true ∧ True
theorem encAction_len (x : Action) : (encAction x).length = 3 := rfl
theorem encAction_one (x : Action) (hx : True) : ∀ u ∈ encAction x, u.oneCell' = true := by intro u hu; simp [encAction] at hu; rcases hu with rfl | rfl | rfl <;> rfl
set_option maxRecDepth 100000 in
theorem trod_Action {H : Type} {encH : TypeId × Value → H} {w : World} {base : Nat} {spare : Nat → Bool} {held : Bool} {fuel : Nat} {cs : List Value} {x : DataW H × List MemPlace}
    (h : DataW.trod encH Try.prog w base spare held fuel 67 cs = some x) : ∃ y : Action, cs = encAction y ∧ okAction w y := by
  obtain ⟨ys, n, _, _, hlen, hyl, hf⟩ := DataW.trod_struct Try.underlying67 h
  rw [cellsTEntry_67] at hlen
  match cs, hlen with
  | [c0, c1, c2], _ =>
    have h0 : DataW.trod encH Try.prog w base spare held n 3 [c0] = some (ys[0]'(by rw [hyl]; decide)) := by
      have z : DataW.trod encH Try.prog w base spare held n 3 (List.take (Try.prog.cellsOf 3) (List.drop 0 [c0, c1, c2])) = ys[0]? := hf 0 _ rfl
      rw [cellsTEntry_3] at z
      exact z.trans (List.getElem?_eq_getElem (by rw [hyl]; decide))
    obtain ⟨y0, e0, _, w0⟩ := DataW.trod_int Try.underlying3 h0
    have h1 : DataW.trod encH Try.prog w base spare held n 3 [c1] = some (ys[1]'(by rw [hyl]; decide)) := by
      have z : DataW.trod encH Try.prog w base spare held n 3 (List.take (Try.prog.cellsOf 3) (List.drop 1 [c0, c1, c2])) = ys[1]? := hf 1 _ rfl
      rw [cellsTEntry_3] at z
      exact z.trans (List.getElem?_eq_getElem (by rw [hyl]; decide))
    obtain ⟨y1, e1, _, w1⟩ := DataW.trod_int Try.underlying3 h1
    have h2 : DataW.trod encH Try.prog w base spare held n 24 [c2] = some (ys[2]'(by rw [hyl]; decide)) := by
      have z : DataW.trod encH Try.prog w base spare held n 24 (List.take (Try.prog.cellsOf 24) (List.drop 2 [c0, c1, c2])) = ys[2]? := hf 2 _ rfl
      rw [cellsTEntry_24] at z
      exact z.trans (List.getElem?_eq_getElem (by rw [hyl]; decide))
    obtain ⟨y2, e2, _, w2⟩ := DataW.trod_int Try.underlying24 h2
    refine ⟨⟨y0, y1, y2⟩, ?_, w0, w1, w2, trivial⟩
    obtain rfl := (List.cons.inj e0).1
    obtain rfl := (List.cons.inj e1).1
    obtain rfl := (List.cons.inj e2).1
    rfl

theorem cellsTEntry_113 : Try.prog.cellsOf 113 = 3 := by kernel_rfl
structure Test where
  fField : Int
  fValue : Int
  fMask : Int
def encTest (x : Test) : List Value := [.int .i64 x.fField, .int .u64 x.fValue, .int .u64 x.fMask]
abbrev valTest (x : Test) : Value := .agg #[.int .i64 x.fField, .int .u64 x.fValue, .int .u64 x.fMask]
def okTest (w : World) (x : Test) : Prop := (Lit.int .i64 x.fField).wf = true ∧ (Lit.int .u64 x.fValue).wf = true ∧ (Lit.int .u64 x.fMask).wf = true ∧ True
theorem encTest_len (x : Test) : (encTest x).length = 3 := rfl
theorem encTest_one (x : Test) (hx : True) : ∀ u ∈ encTest x, u.oneCell' = true := by intro u hu; simp [encTest] at hu; rcases hu with rfl | rfl | rfl <;> rfl
set_option maxRecDepth 100000 in
theorem trod_Test {H : Type} {encH : TypeId × Value → H} {w : World} {base : Nat} {spare : Nat → Bool} {held : Bool} {fuel : Nat} {cs : List Value} {x : DataW H × List MemPlace}
    (h : DataW.trod encH Try.prog w base spare held fuel 113 cs = some x) : ∃ y : Test, cs = encTest y ∧ okTest w y := by
  obtain ⟨ys, n, _, _, hlen, hyl, hf⟩ := DataW.trod_struct Try.underlying113 h
  rw [cellsTEntry_113] at hlen
  match cs, hlen with
  | [c0, c1, c2], _ =>
    have h0 : DataW.trod encH Try.prog w base spare held n 3 [c0] = some (ys[0]'(by rw [hyl]; decide)) := by
      have z : DataW.trod encH Try.prog w base spare held n 3 (List.take (Try.prog.cellsOf 3) (List.drop 0 [c0, c1, c2])) = ys[0]? := hf 0 _ rfl
      rw [cellsTEntry_3] at z
      exact z.trans (List.getElem?_eq_getElem (by rw [hyl]; decide))
    obtain ⟨y0, e0, _, w0⟩ := DataW.trod_int Try.underlying3 h0
    have h1 : DataW.trod encH Try.prog w base spare held n 24 [c1] = some (ys[1]'(by rw [hyl]; decide)) := by
      have z : DataW.trod encH Try.prog w base spare held n 24 (List.take (Try.prog.cellsOf 24) (List.drop 1 [c0, c1, c2])) = ys[1]? := hf 1 _ rfl
      rw [cellsTEntry_24] at z
      exact z.trans (List.getElem?_eq_getElem (by rw [hyl]; decide))
    obtain ⟨y1, e1, _, w1⟩ := DataW.trod_int Try.underlying24 h1
    have h2 : DataW.trod encH Try.prog w base spare held n 24 [c2] = some (ys[2]'(by rw [hyl]; decide)) := by
      have z : DataW.trod encH Try.prog w base spare held n 24 (List.take (Try.prog.cellsOf 24) (List.drop 2 [c0, c1, c2])) = ys[2]? := hf 2 _ rfl
      rw [cellsTEntry_24] at z
      exact z.trans (List.getElem?_eq_getElem (by rw [hyl]; decide))
    obtain ⟨y2, e2, _, w2⟩ := DataW.trod_int Try.underlying24 h2
    refine ⟨⟨y0, y1, y2⟩, ?_, w0, w1, w2, trivial⟩
    obtain rfl := (List.cons.inj e0).1
    obtain rfl := (List.cons.inj e1).1
    obtain rfl := (List.cons.inj e2).1
    rfl

theorem cellsTEntry_22 : Try.prog.cellsOf 22 = 1 := by kernel_rfl
theorem cellsTEntry_23 : Try.prog.cellsOf 23 = 1 := by kernel_rfl
theorem cellsTEntry_4 : Try.prog.cellsOf 4 = 1 := by kernel_rfl
theorem cellsTEntry_26 : Try.prog.cellsOf 26 = 10 := by kernel_rfl
structure Entry where
  fTable : Int
  fPriority : Int
  vTests : Value
  fTests : List Test
  vApply : Value
  fApply : List Action
  vWrite : Value
  fWrite : List Action
  fClear : Bool
  fMeta : Int
  fMetaMask : Int
  fMeter : Int
  fGoto : Int
def encEntry (x : Entry) : List Value := [.int .i64 x.fTable, .int .i64 x.fPriority, x.vTests, x.vApply, x.vWrite, .bool x.fClear, .int .u64 x.fMeta, .int .u64 x.fMetaMask, .int .i64 x.fMeter, .int .i64 x.fGoto]
abbrev valEntry (x : Entry) : Value := .agg #[.int .i64 x.fTable, .int .i64 x.fPriority, x.vTests, x.vApply, x.vWrite, .bool x.fClear, .int .u64 x.fMeta, .int .u64 x.fMetaMask, .int .i64 x.fMeter, .int .i64 x.fGoto]
def okEntry (w : World) (x : Entry) : Prop := (Lit.int .i64 x.fTable).wf = true ∧ (Lit.int .i64 x.fPriority).wf = true ∧ (ReadL w 3 encTest x.vTests x.fTests ∧ ∀ y ∈ x.fTests, okTest w y) ∧ (ReadL w 3 encAction x.vApply x.fApply ∧ ∀ y ∈ x.fApply, okAction w y) ∧ (ReadL w 3 encAction x.vWrite x.fWrite ∧ ∀ y ∈ x.fWrite, okAction w y) ∧ (Lit.int .u64 x.fMeta).wf = true ∧ (Lit.int .u64 x.fMetaMask).wf = true ∧ (Lit.int .i64 x.fMeter).wf = true ∧ (Lit.int .i64 x.fGoto).wf = true ∧ True
theorem encEntry_len (x : Entry) : (encEntry x).length = 10 := rfl
set_option maxRecDepth 100000 in
theorem trod_Entry {H : Type} {encH : TypeId × Value → H} {w : World} {base : Nat} {spare : Nat → Bool} {held : Bool} {fuel : Nat} {cs : List Value} {x : DataW H × List MemPlace}
    (h : DataW.trod encH Try.prog w base spare held fuel 26 cs = some x) : ∃ y : Entry, cs = encEntry y ∧ okEntry w y := by
  obtain ⟨ys, n, _, _, hlen, hyl, hf⟩ := DataW.trod_struct Try.underlying26 h
  rw [cellsTEntry_26] at hlen
  match cs, hlen with
  | [c0, c1, c2, c3, c4, c5, c6, c7, c8, c9], _ =>
    have h0 : DataW.trod encH Try.prog w base spare held n 3 [c0] = some (ys[0]'(by rw [hyl]; decide)) := by
      have z : DataW.trod encH Try.prog w base spare held n 3 (List.take (Try.prog.cellsOf 3) (List.drop 0 [c0, c1, c2, c3, c4, c5, c6, c7, c8, c9])) = ys[0]? := hf 0 _ rfl
      rw [cellsTEntry_3] at z
      exact z.trans (List.getElem?_eq_getElem (by rw [hyl]; decide))
    obtain ⟨y0, e0, _, w0⟩ := DataW.trod_int Try.underlying3 h0
    have h1 : DataW.trod encH Try.prog w base spare held n 3 [c1] = some (ys[1]'(by rw [hyl]; decide)) := by
      have z : DataW.trod encH Try.prog w base spare held n 3 (List.take (Try.prog.cellsOf 3) (List.drop 1 [c0, c1, c2, c3, c4, c5, c6, c7, c8, c9])) = ys[1]? := hf 1 _ rfl
      rw [cellsTEntry_3] at z
      exact z.trans (List.getElem?_eq_getElem (by rw [hyl]; decide))
    obtain ⟨y1, e1, _, w1⟩ := DataW.trod_int Try.underlying3 h1
    have h2 : DataW.trod encH Try.prog w base spare held n 22 [c2] = some (ys[2]'(by rw [hyl]; decide)) := by
      have z : DataW.trod encH Try.prog w base spare held n 22 (List.take (Try.prog.cellsOf 22) (List.drop 2 [c0, c1, c2, c3, c4, c5, c6, c7, c8, c9])) = ys[2]? := hf 2 _ rfl
      rw [cellsTEntry_22] at z
      exact z.trans (List.getElem?_eq_getElem (by rw [hyl]; decide))
    obtain ⟨q2, y2, e2, r2, w2⟩ := read_slice (enc := encTest) (Ok := okTest w) Try.underlying22 cellsTEntry_113 (fun _ => by first | decide | exact Nat.succ_pos _) (fun fuel cs x h => trod_Test h) h2
    have h3 : DataW.trod encH Try.prog w base spare held n 23 [c3] = some (ys[3]'(by rw [hyl]; decide)) := by
      have z : DataW.trod encH Try.prog w base spare held n 23 (List.take (Try.prog.cellsOf 23) (List.drop 3 [c0, c1, c2, c3, c4, c5, c6, c7, c8, c9])) = ys[3]? := hf 3 _ rfl
      rw [cellsTEntry_23] at z
      exact z.trans (List.getElem?_eq_getElem (by rw [hyl]; decide))
    obtain ⟨q3, y3, e3, r3, w3⟩ := read_slice (enc := encAction) (Ok := okAction w) Try.underlying23 cellsTEntry_67 (fun _ => by first | decide | exact Nat.succ_pos _) (fun fuel cs x h => trod_Action h) h3
    have h4 : DataW.trod encH Try.prog w base spare held n 23 [c4] = some (ys[4]'(by rw [hyl]; decide)) := by
      have z : DataW.trod encH Try.prog w base spare held n 23 (List.take (Try.prog.cellsOf 23) (List.drop 4 [c0, c1, c2, c3, c4, c5, c6, c7, c8, c9])) = ys[4]? := hf 4 _ rfl
      rw [cellsTEntry_23] at z
      exact z.trans (List.getElem?_eq_getElem (by rw [hyl]; decide))
    obtain ⟨q4, y4, e4, r4, w4⟩ := read_slice (enc := encAction) (Ok := okAction w) Try.underlying23 cellsTEntry_67 (fun _ => by first | decide | exact Nat.succ_pos _) (fun fuel cs x h => trod_Action h) h4
    have h5 : DataW.trod encH Try.prog w base spare held n 4 [c5] = some (ys[5]'(by rw [hyl]; decide)) := by
      have z : DataW.trod encH Try.prog w base spare held n 4 (List.take (Try.prog.cellsOf 4) (List.drop 5 [c0, c1, c2, c3, c4, c5, c6, c7, c8, c9])) = ys[5]? := hf 5 _ rfl
      rw [cellsTEntry_4] at z
      exact z.trans (List.getElem?_eq_getElem (by rw [hyl]; decide))
    obtain ⟨y5, e5, _⟩ := DataW.trod_bool Try.underlying4 h5
    have h6 : DataW.trod encH Try.prog w base spare held n 24 [c6] = some (ys[6]'(by rw [hyl]; decide)) := by
      have z : DataW.trod encH Try.prog w base spare held n 24 (List.take (Try.prog.cellsOf 24) (List.drop 6 [c0, c1, c2, c3, c4, c5, c6, c7, c8, c9])) = ys[6]? := hf 6 _ rfl
      rw [cellsTEntry_24] at z
      exact z.trans (List.getElem?_eq_getElem (by rw [hyl]; decide))
    obtain ⟨y6, e6, _, w6⟩ := DataW.trod_int Try.underlying24 h6
    have h7 : DataW.trod encH Try.prog w base spare held n 24 [c7] = some (ys[7]'(by rw [hyl]; decide)) := by
      have z : DataW.trod encH Try.prog w base spare held n 24 (List.take (Try.prog.cellsOf 24) (List.drop 7 [c0, c1, c2, c3, c4, c5, c6, c7, c8, c9])) = ys[7]? := hf 7 _ rfl
      rw [cellsTEntry_24] at z
      exact z.trans (List.getElem?_eq_getElem (by rw [hyl]; decide))
    obtain ⟨y7, e7, _, w7⟩ := DataW.trod_int Try.underlying24 h7
    have h8 : DataW.trod encH Try.prog w base spare held n 3 [c8] = some (ys[8]'(by rw [hyl]; decide)) := by
      have z : DataW.trod encH Try.prog w base spare held n 3 (List.take (Try.prog.cellsOf 3) (List.drop 8 [c0, c1, c2, c3, c4, c5, c6, c7, c8, c9])) = ys[8]? := hf 8 _ rfl
      rw [cellsTEntry_3] at z
      exact z.trans (List.getElem?_eq_getElem (by rw [hyl]; decide))
    obtain ⟨y8, e8, _, w8⟩ := DataW.trod_int Try.underlying3 h8
    have h9 : DataW.trod encH Try.prog w base spare held n 3 [c9] = some (ys[9]'(by rw [hyl]; decide)) := by
      have z : DataW.trod encH Try.prog w base spare held n 3 (List.take (Try.prog.cellsOf 3) (List.drop 9 [c0, c1, c2, c3, c4, c5, c6, c7, c8, c9])) = ys[9]? := hf 9 _ rfl
      rw [cellsTEntry_3] at z
      exact z.trans (List.getElem?_eq_getElem (by rw [hyl]; decide))
    obtain ⟨y9, e9, _, w9⟩ := DataW.trod_int Try.underlying3 h9
    refine ⟨⟨y0, y1, q2, y2, q3, y3, q4, y4, y5, y6, y7, y8, y9⟩, ?_, w0, w1, ⟨r2, w2⟩, ⟨r3, w3⟩, ⟨r4, w4⟩, w6, w7, w8, w9, trivial⟩
    obtain rfl := (List.cons.inj e0).1
    obtain rfl := (List.cons.inj e1).1
    obtain rfl := (List.cons.inj e2).1
    obtain rfl := (List.cons.inj e3).1
    obtain rfl := (List.cons.inj e4).1
    obtain rfl := (List.cons.inj e5).1
    obtain rfl := (List.cons.inj e6).1
    obtain rfl := (List.cons.inj e7).1
    obtain rfl := (List.cons.inj e8).1
    obtain rfl := (List.cons.inj e9).1
    rfl

end Go.Proofs.Ytdjhbahiiabimaa
