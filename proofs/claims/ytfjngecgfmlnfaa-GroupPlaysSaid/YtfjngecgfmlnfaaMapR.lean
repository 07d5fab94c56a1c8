/- Ranging over a block that is a map, told as a list: what is still to come. -/
import Derived.Test.YtfjngecgfmlnfaaMapW
import Derived.Maps.RangeWalk
namespace Go.Proofs.Ytfjngecgfmlnfaa
open Go.RowKit Go.MapKept Go.Maps
open Go.ChangeMaps (setBlock)
set_option linter.unusedVariables false
section
variable {P : Program} {α β : Type}
/-- Block r ranges over the map in block g; lf is still to come. -/
def IterL (w : World) (g r : Nat) (ke : α → Value) (ve : β → Value) (l lf : List (α × β)) : Prop :=
  ∃ (es : Array MapEntry) (c since c0 : Nat) (seen : Array Nat), w.heap[g]? = some (.map es c) ∧ Stamped es c ∧ es.toList.map (fun e => (e.key, e.val)) = l.map (fun p => (ke p.1, ve p.2)) ∧
    w.heap[r]? = some (.mapIter (some g) since seen c0) ∧ (∀ x ∈ es.toList, x.born < since) ∧ (since ≤ c0 ∧ since ≤ c) ∧ (leftOf es seen).toList.map (fun e => (e.key, e.val)) = lf.map (fun p => (ke p.1, ve p.2))
variable {w w' : World} {g r B : Nat} {ke : α → Value} {ve : β → Value} {l lf : List (α × β)} {K E T : TypeId}
theorem IterL.of_blocks (h : IterL w g r ke ve l lf) (hg : w'.heap[g]? = w.heap[g]?) (hr : w'.heap[r]? = w.heap[r]?) : IterL w' g r ke ve l lf := by
  obtain ⟨es, c, since, c0, seen, h1, h2, h3, h4, h5⟩ := h
  exact ⟨es, c, since, c0, seen, hg.trans h1, h2, h3, hr.trans h4, h5⟩
theorem IterL.lt (h : IterL w g r ke ve l lf) : g < w.heap.size ∧ r < w.heap.size := by
  obtain ⟨es, c, since, c0, seen, h1, h2, h3, h4, h5⟩ := h
  exact ⟨(Array.getElem?_eq_some_iff.1 h1).1, (Array.getElem?_eq_some_iff.1 h4).1⟩
theorem IterL.bar {k : Nat} (h : IterL w g r ke ve l lf) (hb : Bar k w w') (hg : g ≠ k) (hr : r ≠ k) : IterL w' g r ke ve l lf :=
  h.of_blocks (hb.block g h.lt.1 hg) (hb.block r h.lt.2 hr)
theorem IterL.below (h : IterL w g r ke ve l lf) (hb : Below B w w') (hB : w.heap.size ≤ B) : IterL w' g r ke ve l lf :=
  h.of_blocks (hb.block g (Nat.lt_of_lt_of_le h.lt.1 hB)) (hb.block r (Nat.lt_of_lt_of_le h.lt.2 hB))
theorem IterL.grown {row : Option Nat} (h : IterL w g r ke ve l lf) (hb : w.grownBy w' row) (hg : row ≠ some g) (hr : row ≠ some r) : IterL w' g r ke ve l lf :=
  h.of_blocks (hb.block g h.lt.1 hg.symm) (hb.block r h.lt.2 hr.symm)
theorem IterL.drew (h : IterL w g r ke ve l lf) : IterL w.drew g r ke ve l lf := h
theorem IterL.map (h : IterL w g r ke ve l lf) : MapL w g ke ve l := by
  obtain ⟨es, c, since, c0, seen, h1, h2, h3, h4, h5⟩ := h
  exact ⟨es, c, h1, h2, h3⟩
theorem IterL.range (h : MapL w g ke ve l) (ht : P.underlying T = some (.map K E)) :
    ∃ ob, (Instr.range T (.map (some g))).run P w = .ok (.pointer (some ⟨w.heap.size, 0, none⟩)) (w.alloc ob) ∧ IterL (w.alloc ob) g w.heap.size ke ve l l := by
  have hlt := h.lt
  obtain ⟨es, c, hb, hs, he⟩ := h
  refine ⟨_, run_range_map w T K E g es c ht hb, es, c, c, c, #[], (heap_alloc_old w _ hlt).trans hb, hs, he, heap_alloc_new w _, hs.1, ⟨Nat.le_refl _, Nat.le_refl _⟩, ?_⟩
  have : leftOf es #[] = es := Array.filter_eq_self.2 (fun x hx => by simp)
  rw [this, he]
theorem map_erase {γ δ : Type} (f : γ → δ) : ∀ (L : List γ) (i : Nat), (L.eraseIdx i).map f = (L.map f).eraseIdx i
  | [], _ => rfl
  | x :: L, 0 => rfl
  | x :: L, i + 1 => by simp only [List.eraseIdx_cons_succ, List.map_cons]; rw [map_erase f L i]
theorem erase_filter : ∀ (L : List MapEntry) (i : Nat) (hi : i < L.length), (L.map (·.born)).Nodup → L.filter (fun e => !(e.born == (L[i]).born)) = L.eraseIdx i
  | [], i, hi, _ => by simp at hi
  | x :: L, 0, hi, hn => by
    simp only [List.getElem_cons_zero, List.eraseIdx_cons_zero, List.filter_cons, beq_self_eq_true, Bool.not_true]
    rw [List.map_cons, List.nodup_cons] at hn
    refine List.filter_eq_self.2 fun y hy => ?_
    have : y.born ≠ x.born := fun e => hn.1 (e ▸ List.mem_map_of_mem hy)
    simpa using this
  | x :: L, i + 1, hi, hn => by
    rw [List.map_cons, List.nodup_cons] at hn
    have hi' : i < L.length := by simpa using hi
    have hx : x.born ≠ (L[i]).born := fun e => hn.1 (e ▸ List.mem_map_of_mem (List.getElem_mem hi'))
    have : (!(x.born == (L[i]).born)) = true := by simpa using hx
    simp only [List.getElem_cons_succ, List.eraseIdx_cons_succ, List.filter_cons, this, if_true]
    rw [erase_filter L i hi' hn.2]
theorem IterL.next (h : IterL w g r ke ve l lf) (ty : TypeId) :
    (lf = [] ∧ (Instr.next (.pointer (some ⟨r, 0, none⟩)) false ty).run P w = .ok (.tuple #[.bool false]) w) ∨
    ∃ (i : Nat) (hi : i < lf.length) (w' : World), (Instr.next (.pointer (some ⟨r, 0, none⟩)) false ty).run P w = .ok (.tuple #[.bool true, ke lf[i].1, ve lf[i].2]) w' ∧ IterL w' g r ke ve l (lf.eraseIdx i) ∧ Bar r w w' ∧ w'.heap.size = w.heap.size ∧
      (Instr.entry (.pointer (some ⟨r, 0, none⟩))).run P w' = .ok (.tuple #[ke lf[i].1, ve lf[i].2]) w' := by
  have hlt := h.lt
  obtain ⟨es, c, since, c0, seen, h1, h2, h3, h4, h5, ⟨h6, h7⟩, h8⟩ := h
  have hne : g ≠ r := fun e => by rw [e, h4] at h1; cases h1
  rcases run_next_at (P := P) w ty r g since c0 seen es c h4 h1 h5 h6 with ⟨a1, a2⟩ | ⟨e, he, w1, hw1, hrun⟩
  · refine .inl ⟨?_, a2⟩
    have : lf.length = 0 := by
      have := congrArg List.length h8
      simp only [List.length_map, Array.length_toList] at this
      omega
    simpa using this
  · obtain ⟨i, hi, rfl⟩ := List.getElem_of_mem he
    have hlen : (leftOf es seen).toList.length = lf.length := by
      have := congrArg List.length h8
      simpa using this
    have hi' : i < lf.length := by omega
    have hkv : (leftOf es seen).toList[i].key = ke lf[i].1 ∧ (leftOf es seen).toList[i].val = ve lf[i].2 := by
      have := congrArg (fun q => q[i]?) h8
      simp only [List.getElem?_map, List.getElem?_eq_getElem hi, List.getElem?_eq_getElem hi', Option.map_some, Option.some.injEq, Prod.mk.injEq] at this
      exact this
    have hall : ∀ x ∈ (leftOf es seen).toList, x ∈ es.toList := fun x hx => by
      simp only [leftOf, Array.toList_filter, List.mem_filter] at hx
      exact hx.1
    have hmem : (leftOf es seen).toList[i] ∈ es.toList := hall _ (List.getElem_mem hi)
    have hnd : ((leftOf es seen).toList.map (·.born)).Nodup := by
      simp only [leftOf, Array.toList_filter]
      exact (List.Sublist.map _ List.filter_sublist).nodup h2.2.1
    have hw1h : w1.heap = w.heap := by rcases hw1 with rfl | rfl <;> rfl
    have hr1 : w1.heap[r]? = some (.mapIter (some g) since seen c0) := by rw [hw1h]; exact h4
    have hbar : Bar r w (setBlock w1 r (.mapIter (some g) since (seen.push (leftOf es seen).toList[i].born) c)) := by
      have : Bar r w1 (setBlock w1 r (.mapIter (some g) since (seen.push (leftOf es seen).toList[i].born) c)) := ⟨rfl, rfl, rfl, by simp [setBlock], fun k _ hk => by
        simp only [setBlock]
        rw [Array.getElem?_setIfInBounds_ne (Ne.symm hk)]⟩
      rcases hw1 with rfl | rfl
      · exact this
      · exact (Bar.refl r w).drew.trans this
    have hrn : (setBlock w1 r (.mapIter (some g) since (seen.push (leftOf es seen).toList[i].born) c)).heap[r]? = some (.mapIter (some g) since (seen.push (leftOf es seen).toList[i].born) c) := by
      simp only [setBlock]
      rw [Array.getElem?_setIfInBounds_self_of_lt (by rw [hw1h]; exact hlt.2)]
    have hgn : (setBlock w1 r (.mapIter (some g) since (seen.push (leftOf es seen).toList[i].born) c)).heap[g]? = some (.map es c) := (hbar.block g hlt.1 hne).trans h1
    rw [hkv.1, hkv.2] at hrun
    refine .inr ⟨i, hi', _, hrun, ⟨es, c, since, c, _, hgn, h2, h3, hrn, h5, ⟨h7, h7⟩, ?_⟩, hbar, by simp [setBlock, hw1h], ?_⟩
    · have e1 : (leftOf es (seen.push (leftOf es seen).toList[i].born)).toList = (leftOf es seen).toList.eraseIdx i := by
        rw [← erase_filter _ i hi hnd]
        generalize (leftOf es seen).toList[i].born = b
        simp only [leftOf, Array.toList_filter, List.filter_filter]
        refine List.filter_congr fun x hx => ?_
        rw [Array.contains_push]
        cases seen.contains x.born <;> cases h : (x.born == b) <;> simp_all
      rw [e1, map_erase, map_erase, h8]
    · have := run_entry_at (P := P) _ r g since seen es c _ hrn hgn hmem h2.2.1
      rw [hkv.1, hkv.2] at this
      exact this
end
section
variable {P : Program} {α β : Type} {ops : Array Oper} {rest : List Oper} {o : Oper} {a : Act} {Q : Exit → Act → World → Prop} {w : World} {g r : Nat} {ke : α → Value} {ve : β → Value} {l lf : List (α × β)} {K E : TypeId}
theorem wpList_range_L (hg : o.guard = none) (m : Operand) (t : TypeId) (hop : o.op = Op.range t m) (ht : P.underlying t = some (.map K E)) (hm : a.eval m = .map (some g)) (h : MapL w g ke ve l)
    (hK : ∀ ob, IterL (w.alloc ob) g w.heap.size ke ve l l → wpList P ops Q rest (a.put o.dst (.pointer (some ⟨w.heap.size, 0, none⟩))) (w.alloc ob)) : wpList P ops Q (o :: rest) a w := by
  refine wpList_plain hg fun K' hK' => ?_
  obtain ⟨ob, hrun, r1⟩ := IterL.range (P := P) h ht
  unfold Oper.wp
  simp [execOp, hop, hm, hrun, Result.andThen]
  exact hK' _ _ (hK ob r1)
theorem wpList_next_L (hg : o.guard = none) (it : Operand) (hop : o.op = Op.next it false) (hit : a.eval it = .pointer (some ⟨r, 0, none⟩)) (h : IterL w g r ke ve l lf)
    (hDone : lf = [] → wpList P ops Q rest (a.put o.dst (.tuple #[.bool false])) w)
    (hMore : ∀ (i : Nat) (hi : i < lf.length) (w' : World), IterL w' g r ke ve l (lf.eraseIdx i) → Bar r w w' → w'.heap.size = w.heap.size → (Instr.entry (.pointer (some ⟨r, 0, none⟩))).run P w' = .ok (.tuple #[ke lf[i].1, ve lf[i].2]) w' →
      wpList P ops Q rest (a.put o.dst (.tuple #[.bool true, ke lf[i].1, ve lf[i].2])) w') : wpList P ops Q (o :: rest) a w := by
  refine wpList_plain hg fun K' hK' => ?_
  unfold Oper.wp
  rcases h.next (P := P) o.type with ⟨h0, hrun⟩ | ⟨i, hi, w', hrun, r1, r2, r3, r4⟩
  · simp [execOp, hop, hit, hrun, Result.andThen]
    exact hK' _ _ (hDone h0)
  · simp [execOp, hop, hit, hrun, Result.andThen]
    exact hK' _ _ (hMore i hi w' r1 r2 r3 r4)
end
end Go.Proofs.Ytfjngecgfmlnfaa
