/- append of one to one's own list, and where the list lies behind it; what stays while a list grows. -/
import Derived.Test.YtfjngecgfmlnfaaRead
import Derived.Deep.AppendLies
import Derived.Deep.Upon
namespace Go.Proofs.Ytfjngecgfmlnfaa
open Go.RowKit
set_option linter.unusedVariables false
set_option linter.unusedSimpArgs false

/-- append of one, and where the list lies behind it. -/
theorem app_at {P : Program} {ops : Array Oper} {rest : List Oper} {o : Oper} {a : Act} {Q : Exit → Act → World → Prop} {s x : Operand} {t e : TypeId} {z : Value} {bytes size B : Nat} {w : World} {v : Value} {α : Type} {enc : α → List Value} {xs : List α}
    (hown : OwnL w B e size enc v xs) (y : α) (ht : P.underlying t = some (.slice e)) (hinfo : (P.info? e).map (fun i => (i.zero, i.size, i.bytes)) = some (some z, size, bytes))
    (hzs : z.cells.size = size) (hsz : 0 < size) (hel : ∀ x, (enc x).length = size) (h1 : ∀ u ∈ enc y, u.oneCell' = true) (hgd : o.guard = none)
    (ho : o.op = .call { callee := .builtin .append, args := #[s, x], argTypes := #[t, t] }) (hs : a.eval s = v) (hx : a.eval x = .slice (some ⟨w.heap.size, 0, none⟩) 1 1)
    (hbytes : (xs.length + 1) * bytes ≤ 140737488355328) (hlen : xs.length + 1 ≤ 140737488355328) (hbase : B ≤ w.heap.size)
    (h : ∀ g cap w', OwnL w' B e size enc (.slice (some ⟨g, 0, none⟩) (xs.length + 1) cap) (xs ++ [y]) → w.grownBy w' v.ownBlock → (v.ownBlock = some g ∨ w.heap.size ≤ g) → wpList P ops Q rest (a.put o.dst (.slice (some ⟨g, 0, none⟩) (xs.length + 1) cap)) w') :
    wpList P ops Q (o :: rest) a (w.alloc (.cells (enc y).toArray e)) := by
  obtain ⟨i0, hi, hz0, hz1, hz2⟩ := info_parts hinfo
  refine wpList_append_lies _ hgd s x t ho B e i0 z size bytes ht hi hz0 hz1 hz2 hzs hsz v xs.length (xs.flatMap enc) hs (World.ownsRow.alloc hown _) ⟨w.heap.size, 0, none⟩ 1 1 (enc y) hx (by rw [hel]; omega) ?_ h1 (by omega) (by unfold maxLen; omega) hbytes (by simp; omega) _ rfl ?_
  · intro j u hj
    have : (⟨w.heap.size, 0, none⟩ : Addr).add j = ⟨w.heap.size, j, none⟩ := by unfold Addr.add; split <;> simp_all
    rw [this, World.cell?_alloc_at _ _ _ _ rfl]
    simpa using hj
  · intro g cap w' hown' hg hat hlt
    refine h g cap w' ?_ ?_ ?_
    · unfold OwnL
      rw [List.flatMap_append, List.length_append]
      simpa using hown'
    · refine ⟨hg.os, hg.tape, hg.output, by have := hg.size; simp at this; omega, fun k hk hne => ?_⟩
      rw [hg.block k (by simp; omega) hne]
      exact Below.heap_alloc _ _ _ hk
    · rcases hat with h | h
      · exact .inl h
      · exact .inr (by rw [h]; simp)
/-- What holds of a world, whatever happens to block row and to new blocks. -/
def Stay (p : World → Prop) (w : World) (row : Option Nat) : Prop := ∀ W, w.grownBy W row → p W
theorem Stay.now {p : World → Prop} {w : World} {row : Option Nat} (h : Stay p w row) : p w := h w (World.grownBy.refl w row)
theorem Stay.grown {p : World → Prop} {w w' : World} {row row' : Option Nat} (h : Stay p w row) (hg : w.grownBy w' row) (hr : row' = row ∨ ∀ k, row' = some k → w.heap.size ≤ k) : Stay p w' row' := by
  intro W hW
  refine h W ⟨hW.os.trans hg.os, hW.tape.trans hg.tape, hW.output.trans hg.output, Nat.le_trans hg.size hW.size, fun k hk hne => ?_⟩
  refine (hW.block k (Nat.lt_of_lt_of_le hk hg.size) ?_).trans (hg.block k hk hne)
  rcases hr with rfl | hr
  · exact hne
  · intro e
    have := hr k e.symm
    omega
theorem Stay.below {p : World → Prop} {w w' : World} {row : Option Nat} (h : Stay p w row) (hb : Below w.heap.size w w') : Stay p w' row := by
  refine h.grown ⟨hb.os, hb.tape, hb.output, hb.size, fun k hk _ => hb.block k hk⟩ (.inl rfl)
theorem grownBy_Bar {w w' : World} {k : Nat} (h : w.grownBy w' (some k)) : Bar k w w' := ⟨h.os, h.tape, h.output, h.size, fun j hj hne => h.block j hj (fun e => hne (by simpa using e))⟩
theorem grownBy_none {w w' : World} (h : w.grownBy w' none) : Below w.heap.size w w' := ⟨h.os, h.tape, h.output, h.size, fun j hj => h.block j hj (fun e => by cases e)⟩
/-- A list's cells, one behind the other. -/
theorem flat_at {α : Type} {w : World} {b off size : Nat} {enc : α → List Value} {ys : List α} (he : ∀ x, (enc x).length = size) (hs : 0 < size) (hc : ∀ i j u, (hi : i < ys.length) → (enc ys[i])[j]? = some u → w.cell? ⟨b, off + (i * size + j), none⟩ = some u) :
    ∀ j u, (ys.flatMap enc)[j]? = some u → w.cell? ((⟨b, off, none⟩ : Addr).add j) = some u := by
  intro q u hq
  have hfl : (ys.flatMap enc).length = ys.length * size := by
    clear hq hc
    induction ys with
    | nil => simp
    | cons x xs ih => rw [List.flatMap_cons, List.length_append, ih, he, List.length_cons, Nat.add_mul]; omega
  have hlt : q < ys.length * size := by rw [← hfl]; exact (List.getElem?_eq_some_iff.mp hq).1
  have hi : q / size < ys.length := Nat.div_lt_of_lt_mul (by rw [Nat.mul_comm]; exact hlt)
  have hj : q % size < size := Nat.mod_lt _ hs
  have e1 := flat_get ys enc size he (q / size) (q % size) hi hj
  have hqe : q / size * size + q % size = q := by rw [Nat.mul_comm]; exact Nat.div_add_mod q size
  rw [hqe, hq] at e1
  have := hc (q / size) (q % size) u hi e1.symm
  rw [hqe] at this
  have hadd : (⟨b, off, none⟩ : Addr).add q = ⟨b, off + q, none⟩ := by unfold Addr.add; split <;> simp_all
  rw [hadd]
  exact this
theorem flat_length {α : Type} {size : Nat} {enc : α → List Value} (he : ∀ x, (enc x).length = size) : ∀ ys : List α, (ys.flatMap enc).length = ys.length * size
  | [] => by simp
  | x :: xs => by rw [List.flatMap_cons, List.length_append, flat_length he xs, he, List.length_cons, Nat.add_mul]; omega
/-- append of a list that is read to one's own. -/
theorem run_append_list {P : Program} {α : Type} {e t ty : TypeId} {size bytes : Nat} {z : Value} {enc : α → List Value} (ht : P.underlying t = some (.slice e)) (hinfo : (P.info? e).map (fun i => (i.zero, i.size, i.bytes)) = some (some z, size, bytes))
    (hzs : z.cells.size = size) (hsz : 0 < size) (hel : ∀ x, (enc x).length = size) {w : World} {B : Nat} {vx vy : Value} {xs ys : List α} (hx : OwnL w B e size enc vx xs) (hy : ReadL w size enc vy ys) (h1 : ∀ y ∈ ys, ∀ u ∈ enc y, u.oneCell' = true)
    (hl : xs.length + ys.length ≤ 1000000) (hby : (xs.length + ys.length) * bytes ≤ 140737488355328) (hB : B ≤ w.heap.size) :
    ∃ v' w', (Builtin.append_ #[t, t] ty #[vx, vy]).run P w = .ok v' w' ∧ OwnL w' B e size enc v' (xs ++ ys) ∧ w.grownBy w' vx.ownBlock ∧ (v'.ownBlock = vx.ownBlock ∨ v'.ownBlock = some w.heap.size) := by
  obtain ⟨i0, hi, hz0, hz1, hz2⟩ := info_parts hinfo
  obtain ⟨a, cap, rfl, hcap, hmax, hc⟩ := hy
  have hvx : ∃ ao ac, vx = .slice ao xs.length ac ∧ xs.length ≤ ac := by
    rcases hx.2 with ⟨rfl, h0⟩ | ⟨k, cp, cur, rfl, _, _, h1, _, _, _⟩
    · exact ⟨none, 0, by rw [h0], by omega⟩
    · exact ⟨_, cp, rfl, h1⟩
  obtain ⟨ao, ac, hvx, hxc⟩ := hvx
  by_cases hys : ys = []
  · subst hys
    have hn := run_append_nothing (P := P) w t t ty e i0 ht hi ao xs.length ac hxc (.slice a 0 cap)
      ⟨.inl ⟨_, ht⟩, fun w' => rfl, by cases a <;> simp [Builtin.firstCells, loadCells, loadCellsFrom], by cases a <;> simp [Builtin.firstCells, loadCells, loadCellsFrom], by simp, by simp⟩
    subst hvx
    exact ⟨_, w, hn, by simpa using hx, World.grownBy.refl _ _, .inl rfl⟩
  · rcases hc with h0 | ⟨b, off, rfl, hblt, hcell⟩
    · exact absurd h0 hys
    · obtain ⟨g, cp, w', h1', h2, h3, h4, h5⟩ := run_append_lies (P := P) w t ty B e i0 z size bytes ht hi hz0 hz1 hz2 hzs hsz vx xs.length (xs.flatMap enc) hx
        ⟨b, off, none⟩ ys.length cap (ys.flatMap enc) (flat_length hel ys) (flat_at hel hsz hcell)
        (fun u hu => by obtain ⟨y, hy, hu⟩ := List.mem_flatMap.1 hu; exact h1 y hy u hu)
        (by cases ys with | nil => exact absurd rfl hys | cons _ _ => simp) (by unfold maxLen; omega) hby hB _ rfl
      refine ⟨_, w', h1', ?_, h3, ?_⟩
      · unfold OwnL
        rw [List.flatMap_append, List.length_append]
        exact h2
      · rcases h4 with h4 | h4
        · left; rw [h4]; rfl
        · right; rw [h4]; rfl
theorem wpList_append_list {P : Program} {α : Type} {e t : TypeId} {size bytes : Nat} {z : Value} {enc : α → List Value} {ops : Array Oper} {rest : List Oper} {o : Oper} {a : Act} {Q : Exit → Act → World → Prop} (hgd : o.guard = none) (s x : Operand)
    (ho : o.op = .call { callee := .builtin .append, args := #[s, x], argTypes := #[t, t] }) (ht : P.underlying t = some (.slice e)) (hinfo : (P.info? e).map (fun i => (i.zero, i.size, i.bytes)) = some (some z, size, bytes))
    (hzs : z.cells.size = size) (hsz : 0 < size) (hel : ∀ x, (enc x).length = size) {w : World} {B : Nat} {vx vy : Value} {xs ys : List α} (hs : a.eval s = vx) (hx0 : a.eval x = vy) (hx : OwnL w B e size enc vx xs) (hy : ReadL w size enc vy ys) (h1 : ∀ y ∈ ys, ∀ u ∈ enc y, u.oneCell' = true)
    (hl : xs.length + ys.length ≤ 1000000) (hby : (xs.length + ys.length) * bytes ≤ 140737488355328) (hB : B ≤ w.heap.size)
    (h : ∀ v' w', OwnL w' B e size enc v' (xs ++ ys) → w.grownBy w' vx.ownBlock → (v'.ownBlock = vx.ownBlock ∨ v'.ownBlock = some w.heap.size) → wpList P ops Q rest (a.put o.dst v') w') : wpList P ops Q (o :: rest) a w := by
  obtain ⟨v', w', hr, h2, h3, h4⟩ := run_append_list (ty := o.type) ht hinfo hzs hsz hel hx hy h1 hl hby hB
  refine wpList_plain hgd fun _ hK => ?_
  unfold Oper.wp execOp
  simp only [ho, resolve, invoke, builtin, Sem.run_bind, Sem.run_pure, Result.andThen_ok, List.map_toArray, List.map_cons, List.map_nil, hs, hx0, hr]
  exact hK _ _ (h v' w' h2 h3 h4)
end Go.Proofs.Ytfjngecgfmlnfaa
