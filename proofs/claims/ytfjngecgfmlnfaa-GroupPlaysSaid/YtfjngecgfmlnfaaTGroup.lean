/- Structs that the statements take: their cells, and what is known of one that came in (printed by gen_struct.py). -/
import Derived.Test.YtfjngecgfmlnfaaRead
namespace Go.Proofs.Ytfjngecgfmlnfaa
open Go.RowKit Go.ChangeShapes Go.WideShapes Go.Deep
set_option linter.unusedVariables false

theorem cellsTGroup_3 : Try.prog.cellsOf 3 = 1 := by kernel_rfl
theorem cellsTGroup_56 : Try.prog.cellsOf 56 = 1 := by kernel_rfl
theorem cellsTGroup_58 : Try.prog.cellsOf 58 = 3 := by kernel_rfl
structure Action where
  fKind : Int
  fField : Int
  fValue : Int
def encAction (x : Action) : List Value := [.int .i64 x.fKind, .int .i64 x.fField, .int .u64 x.fValue]
abbrev valAction (x : Action) : Value := .agg #[.int .i64 x.fKind, .int .i64 x.fField, .int .u64 x.fValue]
def okAction (w : World) (x : Action) : Prop := (Lit.int .i64 x.fKind).wf = true ∧ (Lit.int .i64 x.fField).wf = true ∧ (Lit.int .u64 x.fValue).wf = true ∧ True
theorem encAction_len (x : Action) : (encAction x).length = 3 := rfl
theorem encAction_one (x : Action) (hx : True) : ∀ u ∈ encAction x, u.oneCell' = true := by intro u hu; simp [encAction] at hu; rcases hu with rfl | rfl | rfl <;> rfl
set_option maxRecDepth 100000 in
theorem trod_Action {H : Type} {encH : TypeId × Value → H} {w : World} {base : Nat} {spare : Nat → Bool} {held : Bool} {fuel : Nat} {cs : List Value} {x : DataW H × List MemPlace}
    (h : DataW.trod encH Try.prog w base spare held fuel 58 cs = some x) : ∃ y : Action, cs = encAction y ∧ okAction w y := by
  obtain ⟨ys, n, _, _, hlen, hyl, hf⟩ := DataW.trod_struct Try.underlying58 h
  rw [cellsTGroup_58] at hlen
  match cs, hlen with
  | [c0, c1, c2], _ =>
    have h0 : DataW.trod encH Try.prog w base spare held n 3 [c0] = some (ys[0]'(by rw [hyl]; decide)) := by
      have z : DataW.trod encH Try.prog w base spare held n 3 (List.take (Try.prog.cellsOf 3) (List.drop 0 [c0, c1, c2])) = ys[0]? := hf 0 _ rfl
      rw [cellsTGroup_3] at z
      exact z.trans (List.getElem?_eq_getElem (by rw [hyl]; decide))
    obtain ⟨y0, e0, _, w0⟩ := DataW.trod_int Try.underlying3 h0
    have h1 : DataW.trod encH Try.prog w base spare held n 3 [c1] = some (ys[1]'(by rw [hyl]; decide)) := by
      have z : DataW.trod encH Try.prog w base spare held n 3 (List.take (Try.prog.cellsOf 3) (List.drop 1 [c0, c1, c2])) = ys[1]? := hf 1 _ rfl
      rw [cellsTGroup_3] at z
      exact z.trans (List.getElem?_eq_getElem (by rw [hyl]; decide))
    obtain ⟨y1, e1, _, w1⟩ := DataW.trod_int Try.underlying3 h1
    have h2 : DataW.trod encH Try.prog w base spare held n 56 [c2] = some (ys[2]'(by rw [hyl]; decide)) := by
      have z : DataW.trod encH Try.prog w base spare held n 56 (List.take (Try.prog.cellsOf 56) (List.drop 2 [c0, c1, c2])) = ys[2]? := hf 2 _ rfl
      rw [cellsTGroup_56] at z
      exact z.trans (List.getElem?_eq_getElem (by rw [hyl]; decide))
    obtain ⟨y2, e2, _, w2⟩ := DataW.trod_int Try.underlying56 h2
    refine ⟨⟨y0, y1, y2⟩, ?_, w0, w1, w2, trivial⟩
    obtain rfl := (List.cons.inj e0).1
    obtain rfl := (List.cons.inj e1).1
    obtain rfl := (List.cons.inj e2).1
    rfl

theorem cellsTGroup_28 : Try.prog.cellsOf 28 = 1 := by kernel_rfl
theorem cellsTGroup_30 : Try.prog.cellsOf 30 = 3 := by kernel_rfl
structure Bucket where
  fWatch : Int
  fWeight : Int
  vActions : Value
  fActions : List Action
def encBucket (x : Bucket) : List Value := [.int .i64 x.fWatch, .int .i64 x.fWeight, x.vActions]
abbrev valBucket (x : Bucket) : Value := .agg #[.int .i64 x.fWatch, .int .i64 x.fWeight, x.vActions]
def okBucket (w : World) (x : Bucket) : Prop := (Lit.int .i64 x.fWatch).wf = true ∧ (Lit.int .i64 x.fWeight).wf = true ∧ (ReadL w 3 encAction x.vActions x.fActions ∧ ∀ y ∈ x.fActions, okAction w y) ∧ True
theorem encBucket_len (x : Bucket) : (encBucket x).length = 3 := rfl
set_option maxRecDepth 100000 in
theorem trod_Bucket {H : Type} {encH : TypeId × Value → H} {w : World} {base : Nat} {spare : Nat → Bool} {held : Bool} {fuel : Nat} {cs : List Value} {x : DataW H × List MemPlace}
    (h : DataW.trod encH Try.prog w base spare held fuel 30 cs = some x) : ∃ y : Bucket, cs = encBucket y ∧ okBucket w y := by
  obtain ⟨ys, n, _, _, hlen, hyl, hf⟩ := DataW.trod_struct Try.underlying30 h
  rw [cellsTGroup_30] at hlen
  match cs, hlen with
  | [c0, c1, c2], _ =>
    have h0 : DataW.trod encH Try.prog w base spare held n 3 [c0] = some (ys[0]'(by rw [hyl]; decide)) := by
      have z : DataW.trod encH Try.prog w base spare held n 3 (List.take (Try.prog.cellsOf 3) (List.drop 0 [c0, c1, c2])) = ys[0]? := hf 0 _ rfl
      rw [cellsTGroup_3] at z
      exact z.trans (List.getElem?_eq_getElem (by rw [hyl]; decide))
    obtain ⟨y0, e0, _, w0⟩ := DataW.trod_int Try.underlying3 h0
    have h1 : DataW.trod encH Try.prog w base spare held n 3 [c1] = some (ys[1]'(by rw [hyl]; decide)) := by
      have z : DataW.trod encH Try.prog w base spare held n 3 (List.take (Try.prog.cellsOf 3) (List.drop 1 [c0, c1, c2])) = ys[1]? := hf 1 _ rfl
      rw [cellsTGroup_3] at z
      exact z.trans (List.getElem?_eq_getElem (by rw [hyl]; decide))
    obtain ⟨y1, e1, _, w1⟩ := DataW.trod_int Try.underlying3 h1
    have h2 : DataW.trod encH Try.prog w base spare held n 28 [c2] = some (ys[2]'(by rw [hyl]; decide)) := by
      have z : DataW.trod encH Try.prog w base spare held n 28 (List.take (Try.prog.cellsOf 28) (List.drop 2 [c0, c1, c2])) = ys[2]? := hf 2 _ rfl
      rw [cellsTGroup_28] at z
      exact z.trans (List.getElem?_eq_getElem (by rw [hyl]; decide))
    obtain ⟨q2, y2, e2, r2, w2⟩ := read_slice (enc := encAction) (Ok := okAction w) Try.underlying28 cellsTGroup_58 (fun _ => by first | decide | exact Nat.succ_pos _) (fun fuel cs x h => trod_Action h) h2
    refine ⟨⟨y0, y1, q2, y2⟩, ?_, w0, w1, ⟨r2, w2⟩, trivial⟩
    obtain rfl := (List.cons.inj e0).1
    obtain rfl := (List.cons.inj e1).1
    obtain rfl := (List.cons.inj e2).1
    rfl

theorem cellsTGroup_22 : Try.prog.cellsOf 22 = 1 := by kernel_rfl
theorem cellsTGroup_24 : Try.prog.cellsOf 24 = 3 := by kernel_rfl
structure Group where
  fID : Int
  fKind : Int
  vBuckets : Value
  fBuckets : List Bucket
def encGroup (x : Group) : List Value := [.int .i64 x.fID, .int .i64 x.fKind, x.vBuckets]
abbrev valGroup (x : Group) : Value := .agg #[.int .i64 x.fID, .int .i64 x.fKind, x.vBuckets]
def okGroup (w : World) (x : Group) : Prop := (Lit.int .i64 x.fID).wf = true ∧ (Lit.int .i64 x.fKind).wf = true ∧ (ReadL w 3 encBucket x.vBuckets x.fBuckets ∧ ∀ y ∈ x.fBuckets, okBucket w y) ∧ True
theorem encGroup_len (x : Group) : (encGroup x).length = 3 := rfl
set_option maxRecDepth 100000 in
theorem trod_Group {H : Type} {encH : TypeId × Value → H} {w : World} {base : Nat} {spare : Nat → Bool} {held : Bool} {fuel : Nat} {cs : List Value} {x : DataW H × List MemPlace}
    (h : DataW.trod encH Try.prog w base spare held fuel 24 cs = some x) : ∃ y : Group, cs = encGroup y ∧ okGroup w y := by
  obtain ⟨ys, n, _, _, hlen, hyl, hf⟩ := DataW.trod_struct Try.underlying24 h
  rw [cellsTGroup_24] at hlen
  match cs, hlen with
  | [c0, c1, c2], _ =>
    have h0 : DataW.trod encH Try.prog w base spare held n 3 [c0] = some (ys[0]'(by rw [hyl]; decide)) := by
      have z : DataW.trod encH Try.prog w base spare held n 3 (List.take (Try.prog.cellsOf 3) (List.drop 0 [c0, c1, c2])) = ys[0]? := hf 0 _ rfl
      rw [cellsTGroup_3] at z
      exact z.trans (List.getElem?_eq_getElem (by rw [hyl]; decide))
    obtain ⟨y0, e0, _, w0⟩ := DataW.trod_int Try.underlying3 h0
    have h1 : DataW.trod encH Try.prog w base spare held n 3 [c1] = some (ys[1]'(by rw [hyl]; decide)) := by
      have z : DataW.trod encH Try.prog w base spare held n 3 (List.take (Try.prog.cellsOf 3) (List.drop 1 [c0, c1, c2])) = ys[1]? := hf 1 _ rfl
      rw [cellsTGroup_3] at z
      exact z.trans (List.getElem?_eq_getElem (by rw [hyl]; decide))
    obtain ⟨y1, e1, _, w1⟩ := DataW.trod_int Try.underlying3 h1
    have h2 : DataW.trod encH Try.prog w base spare held n 22 [c2] = some (ys[2]'(by rw [hyl]; decide)) := by
      have z : DataW.trod encH Try.prog w base spare held n 22 (List.take (Try.prog.cellsOf 22) (List.drop 2 [c0, c1, c2])) = ys[2]? := hf 2 _ rfl
      rw [cellsTGroup_22] at z
      exact z.trans (List.getElem?_eq_getElem (by rw [hyl]; decide))
    obtain ⟨q2, y2, e2, r2, w2⟩ := read_slice (enc := encBucket) (Ok := okBucket w) Try.underlying22 cellsTGroup_30 (fun _ => by first | decide | exact Nat.succ_pos _) (fun fuel cs x h => trod_Bucket h) h2
    refine ⟨⟨y0, y1, q2, y2⟩, ?_, w0, w1, ⟨r2, w2⟩, trivial⟩
    obtain rfl := (List.cons.inj e0).1
    obtain rfl := (List.cons.inj e1).1
    obtain rfl := (List.cons.inj e2).1
    rfl

end Go.Proofs.Ytfjngecgfmlnfaa
