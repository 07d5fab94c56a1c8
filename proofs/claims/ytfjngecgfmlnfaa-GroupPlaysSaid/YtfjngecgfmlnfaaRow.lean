/- A whole struct stored into its variable, and read: one step each, however many cells it has. -/
import Derived.Test.YtfjngecgfmlnfaaBase
import Derived.Laws.Rows
import Derived.Laws.ResultCell
namespace Go.Proofs.Ytfjngecgfmlnfaa
open Go.RowKit
set_option linter.unusedVariables false

theorem BlkAt.setRow {w : World} {g : Nat} {t : TypeId} {cs : Array Value} (h : BlkAt w g t cs) (cs' : Array Value) : BlkAt (w.setRow g cs') g t cs' := setRow_heap w g cs cs' t (0, 0) h
theorem Bar.setRow {w : World} (g : Nat) (cs' : Array Value) : Bar g w (w.setRow g cs') :=
  ⟨rfl, rfl, rfl, by simp, fun k _ hk => setRow_other w g k cs' hk⟩
section
variable {P : Program}
theorem run_storeVar_row (w : World) (g : Nat) (t ty : TypeId) (cs cs' : Array Value) (hg : BlkAt w g t cs) (hsz : cs'.size = cs.size) (hi : (P.info? ty).map (·.size) = some cs'.size) (h1 : ∀ v ∈ cs'.toList, v.oneCell' = true) :
    (storeVar ty ⟨g, 0, none⟩ (.agg cs')).run P w = .ok () (w.setRow g cs') := by
  have hs := run_storeCells_from (P := P) g t cs'.toList 0 cs w hg (by simp; omega) h1
  cases hq : P.info? ty with
  | none => simp [hq] at hi
  | some i =>
    have hs' : i.size = cs'.size := by simpa [hq] using hi
    simp only [List.take_zero, List.nil_append, Array.toArray_toList] at hs
    simp [storeVar, sizeOf, typeInfo, hq, Value.cells, hs', Sem.run_bind]
    exact hs
theorem wpList_store_row {ops : Array Oper} {rest : List Oper} {o : Oper} {a : Act} {w : World} {Q : Exit → Act → World → Prop} (hgd : o.guard = none) (ty : TypeId) (x y : Operand) (ho : o.op = .store ty x y)
    (g : Nat) (hx : a.eval x = .pointer (some ⟨g, 0, none⟩)) (cs' : Array Value) (hy : a.eval y = .agg cs') (t : TypeId) (cs : Array Value) (hg : BlkAt w g t cs) (hsz : cs'.size = cs.size)
    (hi : (P.info? ty).map (·.size) = some cs'.size) (h1 : ∀ v ∈ cs'.toList, v.oneCell' = true)
    (h : ∀ W, BlkAt W g t cs' → Bar g w W → wpList P ops Q rest (a.put o.dst undef) W) : wpList P ops Q (o :: rest) a w :=
  wpList_plain hgd fun _ hK => by
    unfold Oper.wp execOp
    simp only [ho, hx, hy, Instr.storeAt, Instr.sureAddr, Sem.run_bind, Sem.run_pure, Result.andThen_ok, run_storeVar_row w g t ty cs cs' hg hsz hi h1]
    exact hK _ _ (h _ (hg.setRow cs') (Bar.setRow g cs'))
theorem run_loadVar_at (w : World) (g o : Nat) (t ty : TypeId) (cs cs' : Array Value) (d : TypeDesc) (hg : BlkAt w g t cs) (hsub : cs.extract o (o + cs'.size) = cs')
    (hu : P.underlying ty = some d) (hd : (match d with | .struct _ | .array _ _ => true | _ => false) = true) (hi : (P.info? ty).map (·.size) = some cs'.size) :
    (loadVar ty ⟨g, o, none⟩).run P w = .ok (.agg cs') w := by
  have hl : (loadCells ⟨g, o, none⟩ cs'.toList.length).run P w = .ok cs'.toList.toArray w :=
    run_loadCells_list (P := P) w ⟨g, o, none⟩ cs'.toList (fun j v hv => by
      have hadd : (⟨g, o, none⟩ : Addr).add j = ⟨g, o + j, none⟩ := by unfold Addr.add; split <;> simp_all
      rw [hadd, cell_of_row w g (o + j) cs t (0, 0) hg]
      have h2 : cs'[j]? = some v := by simpa using hv
      rw [← hsub] at h2
      rw [Array.getElem?_extract] at h2
      split at h2
      · exact h2
      · cases h2)
  cases hq : P.info? ty with
  | none => simp [hq] at hi
  | some i =>
    have hs : i.size = cs'.size := by simpa [hq] using hi
    have hagg : (isAgg ty).run P w = .ok true w := by
      unfold isAgg
      rw [Sem.run_bind, run_underlying hu w]
      cases d <;> simp_all
    simp only [Array.length_toList, Array.toArray_toList] at hl
    simp [loadVar, Sem.run_bind, hagg, sizeOf, typeInfo, hq, hs, hl]
theorem wpList_load_at {ops : Array Oper} {rest : List Oper} {o : Oper} {a : Act} {w : World} {Q : Exit → Act → World → Prop} (hgd : o.guard = none) (ty : TypeId) (x : Operand) (ho : o.op = .load ty x)
    (g f : Nat) (hx : a.eval x = .pointer (some ⟨g, f, none⟩)) (t : TypeId) (cs cs' : Array Value) (d : TypeDesc) (hg : BlkAt w g t cs) (hsub : cs.extract f (f + cs'.size) = cs')
    (hu : P.underlying ty = some d) (hd : (match d with | .struct _ | .array _ _ => true | _ => false) = true) (hi : (P.info? ty).map (·.size) = some cs'.size)
    (h : wpList P ops Q rest (a.put o.dst (.agg cs')) w) : wpList P ops Q (o :: rest) a w :=
  wpList_plain hgd fun _ hK => by
    unfold Oper.wp execOp
    simp only [ho, hx, Instr.loadAt, Instr.sureAddr, Sem.run_bind, Sem.run_pure, Result.andThen_ok, run_loadVar_at w g f t ty cs cs' d hg hsub hu hd hi]
    exact hK _ _ h
theorem results_row_tmp {fn : Func} {p u : Tmp} {ty : TypeId} (h : fn.results = #[.cell p ty, .tmp u]) (tmps : Array Value) (w : World) (g : Nat) (t : TypeId) (cs : Array Value) (d : TypeDesc)
    (hp : tmps.getD p undef = .pointer (some ⟨g, 0, none⟩)) (hg : BlkAt w g t cs)
    (hu : P.underlying ty = some d) (hd : (match d with | .struct _ | .array _ _ => true | _ => false) = true) (hi : (P.info? ty).map (·.size) = some cs.size) :
    (results fn tmps).run P w = .ok (.tuple #[.agg cs, tmps.getD u undef]) w := by
  have hp' : tmps[p]?.getD undef = .pointer (some ⟨g, 0, none⟩) := by simpa using hp
  rw [Go.results_cell_tmp h]
  simp [hp', asAddr, run_loadVar_row w g t ty cs (0, 0) d hg hu hd hi, Result.andThen]
theorem two_boxes_wp {c : Code} {Q : Exit → Act → World → Prop} {a : Act} {w : World} {A B : Array Value} {t1 t2 : TypeId}
    (h : ∀ W, BlkAt W w.heap.size t1 A → BlkAt W (w.heap.size + 1) t2 B → Below w.heap.size w W → Hid (W.heap.size = w.heap.size + 2) → c.wp P Q a W) : c.wp P Q a ((w.alloc (.cells A t1 (0, 0))).alloc (.cells B t2 (0, 0))) := by
  have e : (w.alloc (.cells A t1 (0, 0))).heap.size = w.heap.size + 1 := by simp
  refine h _ ((BlkAt.new w t1 A).alloc _) ?_ (((Below.refl _ _).alloc (Nat.le_refl _) _).alloc (by simp) _) ?_
  · have := BlkAt.new (w.alloc (.cells A t1 (0, 0))) t2 B
    rw [e] at this
    exact this
  · show _ = _
    simp
theorem set_wp {c : Code} {Q : Exit → Act → World → Prop} {a : Act} {w0 W : World} {B0 g1 g2 j : Nat} {t1 t2 : TypeId} {A B : Array Value} {v : Value}
    (h1 : BlkAt W g1 t1 A) (h2 : BlkAt W g2 t2 B) (hb : Below B0 w0 W) (hne : g2 ≠ g1) (hg : B0 ≤ g1)
    (h : ∀ W', BlkAt W' g1 t1 (A.setIfInBounds j v) → BlkAt W' g2 t2 B → Below B0 w0 W' → c.wp P Q a W') : c.wp P Q a (W.setCell ⟨g1, j, none⟩ v) :=
  h _ (h1.set j v) (h2.setOther hne v) (hb.setCell hg v)
theorem one_box_wp {c : Code} {Q : Exit → Act → World → Prop} {a : Act} {w : World} {A : Array Value} {t1 : TypeId}
    (h : ∀ W, BlkAt W w.heap.size t1 A → Below w.heap.size w W → Hid (w.heap.size < W.heap.size) → c.wp P Q a W) : c.wp P Q a (w.alloc (.cells A t1 (0, 0))) :=
  h _ (BlkAt.new w t1 A) ((Below.refl _ _).alloc (Nat.le_refl _) _) (by show _ < _; simp)
end
end Go.Proofs.Ytfjngecgfmlnfaa
