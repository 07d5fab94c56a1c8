/- Several cells of a block stored, one behind the other. -/
import Derived.Test.YtfjngecgfmlnfaaReadX
import Derived.Deep.MidRow
import Derived.Lib.SliceRun
namespace Go.Proofs.Ytfjngecgfmlnfaa
open Go.RowKit
set_option linter.unusedVariables false
def setsAt (cur : Array Value) : Nat → List Value → Array Value
  | _, [] => cur
  | o, v :: r => setsAt (cur.setIfInBounds o v) (o + 1) r
theorem setsAt_size : ∀ (vs : List Value) (o : Nat) (cur : Array Value), (setsAt cur o vs).size = cur.size
  | [], _, _ => rfl
  | v :: r, o, cur => by rw [setsAt, setsAt_size r]; simp
theorem setsAt_out : ∀ (vs : List Value) (o : Nat) (cur : Array Value) (q : Nat), q < o ∨ o + vs.length ≤ q → (setsAt cur o vs)[q]? = cur[q]?
  | [], _, _, _, _ => rfl
  | v :: r, o, cur, q, h => by
    simp only [List.length_cons] at h
    rw [setsAt, setsAt_out r (o + 1) _ q (by omega), Array.getElem?_setIfInBounds_ne (by omega)]
theorem setsAt_in : ∀ (vs : List Value) (o : Nat) (cur : Array Value) (j : Nat) (u : Value), vs[j]? = some u → o + vs.length ≤ cur.size → (setsAt cur o vs)[o + j]? = some u
  | [], _, _, _, _, h, _ => by simp at h
  | v :: r, o, cur, j, u, h, hs => by
    simp only [List.length_cons] at hs
    rw [setsAt]
    cases j with
    | zero =>
      show (setsAt _ (o + 1) r)[o]? = _
      rw [setsAt_out r (o + 1) _ o (by omega), Array.getElem?_setIfInBounds_self_of_lt (by omega)]
      simpa using h
    | succ j =>
      rw [show o + (j + 1) = o + 1 + j by omega]
      exact setsAt_in r (o + 1) _ j u (by simpa using h) (by simp; omega)
theorem BlkAt.sets : ∀ (vs : List Value) {w : World} {g : Nat} {T : TypeId} {cur : Array Value} (_ : BlkAt w g T cur) (o : Nat), BlkAt (w.setCells g o vs) g T (setsAt cur o vs)
  | [], _, _, _, _, h, _ => h
  | v :: r, _, _, _, _, h, o => BlkAt.sets r (h.set o v) (o + 1)
theorem Bar.sets : ∀ (vs : List Value) (w : World) (g o : Nat), Bar g w (w.setCells g o vs)
  | [], w, g, _ => Bar.refl g w
  | v :: r, w, g, o => ((Bar.refl g w).set o v).trans (Bar.sets r _ g (o + 1))
section
variable {P : Program}
theorem BlkAt.there {w : World} {g : Nat} {T : TypeId} {cur : Array Value} (h : BlkAt w g T cur) (o n : Nat) (hn : o + n ≤ cur.size) : w.there g o n := fun j hj => by
  refine ⟨?_, h.frozen _⟩
  rw [h.cell (o + j) cur[o + j] (Array.getElem?_eq_getElem (by omega))]
  rfl
theorem wpList_store_at {ops : Array Oper} {rest : List Oper} {op : Oper} {a : Act} {w : World} {Q : Exit → Act → World → Prop} (hgd : op.guard = none) (ty : TypeId) (x y : Operand) (ho : op.op = .store ty x y)
    (b o : Nat) (cs : Array Value) (hx : a.eval x = .pointer (some ⟨b, o, none⟩)) (hy : a.eval y = .agg cs) (T : TypeId) (cur : Array Value) (hb : BlkAt w b T cur) (hs : o + cs.size ≤ cur.size)
    (hi : (P.info? ty).map (·.size) = some cs.size) (h1 : cs.all (·.oneCell') = true)
    (h : ∀ W, BlkAt W b T (setsAt cur o cs.toList) → Bar b w W → wpList P ops Q rest (a.put op.dst undef) W) : wpList P ops Q (op :: rest) a w :=
  wpList_store_mid hgd ty x y ho b o cs hx hy (hb.there o _ hs) hi h1 (h _ (hb.sets _ o) (Bar.sets _ _ _ _))
/-- A whole struct read out of a row. -/
theorem range_row {α : Type} {size : Nat} {enc : α → List Value} {w : World} {g : Nat} {T : TypeId} {cur : Array Value} {xs : List α} (hr : RowOf size enc cur xs) (hb : BlkAt w g T cur) (i : Nat) (hi : i < xs.length) : w.rangeAt g (i * size) (enc xs[i]) := fun j v hv =>
  hb.cell _ _ (hr.2 i j v hi hv)
/-- clear: the cells from a place on are written. -/
theorem run_clear_row (w : World) (t e : TypeId) (z : Value) (ht : P.underlying t = some (.slice e)) (hv : ∀ w, (zeroValue e).run P w = .ok z w) (k : Nat) (hz : z.cells.size = k) (h1 : ∀ u ∈ z.cells.toList, u.oneCell' = true) (b o n c : Nat)
    (T : TypeId) (cur : Array Value) (hb : BlkAt w b T cur) (hs : o + n * k ≤ cur.size) :
    ∃ W cur', (∀ ty, (Builtin.clear_ #[t] ty #[.slice (some ⟨b, o, none⟩) n c]).run P w = .ok (.tuple #[]) W) ∧ Bar b w W ∧ BlkAt W b T cur' ∧ cur'.size = cur.size ∧ ∀ q, q < o → cur'[q]? = cur[q]? := by
  cases n with
  | zero => exact ⟨w, cur, fun ty => by simp [Builtin.clear_, run_underlying ht], Bar.refl _ _, hb, rfl, fun _ _ => rfl⟩
  | succ m =>
    have hl : (Builtin.zeroCells z.cells (m + 1)).toList.length = (m + 1) * k := by simp [Builtin.zeroCells, hz]
    have hone : ∀ u ∈ (Builtin.zeroCells z.cells (m + 1)).toList, u.oneCell' = true := by
      intro u hu
      simp only [Builtin.zeroCells, Array.toList_map, List.mem_map] at hu
      obtain ⟨i, hi, rfl⟩ := hu
      have hi' : i < (m + 1) * z.cells.size := by simpa using hi
      have hpos : 0 < z.cells.size := by
        rcases Nat.eq_zero_or_pos z.cells.size with h0 | h0
        · rw [h0] at hi'; simp at hi'
        · exact h0
      have hlt := Nat.mod_lt i hpos
      refine h1 _ ?_
      rw [getElem!_pos z.cells _ hlt]
      simp
    have th := hb.there o ((m + 1) * k) hs
    have hst := run_storeCells_cells (P := P) b o (Builtin.zeroCells z.cells (m + 1)).toList 0 w (fun j hj => by rw [hl] at hj; simpa using (th j hj).1) (fun j hj => by rw [hl] at hj; simpa using (th j hj).2) hone
    simp only [Nat.add_zero] at hst
    obtain ⟨vs, hvs⟩ : ∃ vs, vs = (Builtin.zeroCells z.cells (m + 1)).toList := ⟨_, rfl⟩
    rw [← hvs] at hst
    refine ⟨w.setCells b o vs, setsAt cur o vs, ?_, Bar.sets vs w b o, hb.sets vs o, setsAt_size _ _ _, fun q hq => setsAt_out _ _ _ _ (.inl hq)⟩
    intro ty
    simp [Builtin.clear_, run_underlying ht, hv, ← hvs, hst]
end
end Go.Proofs.Ytfjngecgfmlnfaa
