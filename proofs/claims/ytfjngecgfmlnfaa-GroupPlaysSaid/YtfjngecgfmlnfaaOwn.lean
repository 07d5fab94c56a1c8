/- Rows that a call makes itself: a list of values, each some cells; one more is appended; what is read of it. -/
import Derived.Test.YtfjngecgfmlnfaaBase
import Derived.OwnWalk
import Derived.Laws.AppendOwn
namespace Go.Proofs.Ytfjngecgfmlnfaa
open Go.RowKit
set_option linter.unusedVariables false

section
variable {P : Program} {α : Type}
/-- v is the call's own row (its block from B on) that holds xs, each told by enc in 'size' cells of type e. -/
def OwnL (w : World) (B : Nat) (e : TypeId) (size : Nat) (enc : α → List Value) (v : Value) (xs : List α) : Prop :=
  w.ownsRow B e size v xs.length (xs.flatMap enc)
variable {w w' : World} {B : Nat} {e : TypeId} {size : Nat} {enc : α → List Value} {v : Value} {xs : List α}
theorem OwnL.nil (w : World) (B : Nat) (e : TypeId) (size : Nat) (enc : α → List Value) : OwnL w B e size enc (.slice none 0 0) [] := World.ownsRow_nil _ _ _ _
theorem OwnL.kept (h : OwnL w B e size enc v xs) {row : Option Nat} (hg : w.grownBy w' row) (hne : v.ownBlock = none ∨ v.ownBlock ≠ row) : OwnL w' B e size enc v xs := World.ownsRow.kept h hg hne
theorem OwnL.alloc (h : OwnL w B e size enc v xs) (o : Obj) : OwnL (w.alloc o) B e size enc v xs := World.ownsRow.alloc h o
theorem OwnL.drew (h : OwnL w B e size enc v xs) : OwnL w.drew B e size enc v xs := h
theorem OwnL.drewN (h : OwnL w B e size enc v xs) (n : Nat) : OwnL (w.drewN n) B e size enc v xs := h
theorem OwnL.block (h : OwnL w B e size enc v xs) : ∀ k, v.ownBlock = some k → B ≤ k ∧ k < w.heap.size := World.ownsRow.lt h
theorem OwnL.below (h : OwnL w B e size enc v xs) {C : Nat} (hb : Below C w w') (hC : ∀ k, v.ownBlock = some k → k < C) : OwnL w' B e size enc v xs := by
  refine ⟨h.1, ?_⟩
  rcases h.2 with hn | ⟨g, cap, cur, rfl, hbg, hg, r⟩
  · exact .inl hn
  · exact .inr ⟨g, cap, cur, rfl, hbg, by rw [hb.block g (hC g rfl)]; exact hg, r⟩
theorem OwnL.belowAll (h : OwnL w B e size enc v xs) (hb : Below w.heap.size w w') : OwnL w' B e size enc v xs := h.below hb fun k hk => (h.block k hk).2
theorem OwnL.bar (h : OwnL w B e size enc v xs) {g : Nat} (hb : Bar g w w') (hC : ∀ k, v.ownBlock = some k → k ≠ g) : OwnL w' B e size enc v xs := by
  have hlt := h.block
  refine ⟨h.1, ?_⟩
  rcases h.2 with hn | ⟨g', cap, cur, rfl, hbg, hg, r⟩
  · exact .inl hn
  · exact .inr ⟨g', cap, cur, rfl, hbg, by rw [hb.block g' (hlt g' rfl).2 (hC g' rfl)]; exact hg, r⟩

theorem flat_get (xs : List α) (enc : α → List Value) (size : Nat) (he : ∀ x, (enc x).length = size) (i j : Nat) (hi : i < xs.length) (hj : j < size) : (xs.flatMap enc)[i * size + j]? = (enc (xs[i]))[j]? := by
  induction xs generalizing i with
  | nil => simp at hi
  | cons x xs ih =>
    cases i with
    | zero =>
      simp only [List.flatMap_cons, Nat.zero_mul, Nat.zero_add, List.getElem_cons_zero]
      rw [List.getElem?_append_left (by rw [he]; exact hj)]
    | succ i =>
      simp only [List.flatMap_cons, List.getElem_cons_succ]
      rw [List.getElem?_append_right (by rw [he, Nat.add_mul]; omega), he]
      rw [show (i + 1) * size + j - size = i * size + j by rw [Nat.add_mul]; omega]
      exact ih i (by simpa using hi)

/-- What is known of the value and its cells. -/
theorem OwnL.form (h : OwnL w B e size enc v xs) (he : ∀ x, (enc x).length = size) : (v = .slice none 0 0 ∧ xs = []) ∨
    ∃ g cap, v = .slice (some ⟨g, 0, none⟩) xs.length cap ∧ B ≤ g ∧ g < w.heap.size ∧ xs.length ≤ cap ∧ cap ≤ maxLen ∧ (∀ j, w.frozen? ⟨g, j, none⟩ = false) ∧
      ∀ i j u, (hi : i < xs.length) → (enc xs[i])[j]? = some u → w.cell? ⟨g, i * size + j, none⟩ = some u := by
  rcases h.2 with ⟨rfl, hn⟩ | ⟨g, cap, cur, rfl, hbg, hg, hnc, hcm, hcs, htake⟩
  · exact .inl ⟨rfl, List.eq_nil_of_length_eq_zero hn⟩
  · refine .inr ⟨g, cap, rfl, hbg, (Array.getElem?_eq_some_iff.mp hg).1, hnc, hcm, fun j => by simp [World.frozen?, hg], fun i j u hi hu => ?_⟩
    have hj : j < size := by
      rw [← he xs[i]]
      exact (List.getElem?_eq_some_iff.mp hu).1
    have h1 := flat_get xs enc size he i j hi hj
    rw [hu, ← htake] at h1
    have h2 : cur.toList[i * size + j]? = some u := by
      rw [List.getElem?_take] at h1
      split at h1
      · exact h1
      · cases h1
    have h3 : cur[i * size + j]? = some u := by rw [← Array.getElem?_toList]; exact h2
    simp [World.cell?, hg, h3]

/-- 'append(v, x)': the variadic's box is the newest block; the law in one line. -/
theorem app_one {ops : Array Oper} {rest : List Oper} {o : Oper} {a : Act} {Q : Exit → Act → World → Prop} {s x : Operand} {t : TypeId} {z : Value} {bytes : Nat} {w : World} {v : Value} {xs : List α}
    (hown : OwnL w B e size enc v xs) (y : α) (ht : P.underlying t = some (.slice e)) (hinfo : (P.info? e).map (fun i => (i.zero, i.size, i.bytes)) = some (some z, size, bytes))
    (hzs : z.cells.size = size) (hsz : 0 < size) (hel : ∀ x, (enc x).length = size) (h1 : ∀ x, ∀ u ∈ enc x, u.oneCell' = true) (hgd : o.guard = none)
    (ho : o.op = .call { callee := .builtin .append, args := #[s, x], argTypes := #[t, t] }) (hs : a.eval s = v) (hx : a.eval x = .slice (some ⟨w.heap.size, 0, none⟩) 1 1)
    (hbytes : (xs.length + 1) * bytes ≤ 140737488355328) (hlen : xs.length + 1 ≤ 140737488355328) (hbase : B ≤ w.heap.size)
    (h : ∀ v' w', OwnL w' B e size enc v' (xs ++ [y]) → w.grownBy w' v.ownBlock → v' ≠ .slice none 0 0 → wpList P ops Q rest (a.put o.dst v') w') :
    wpList P ops Q (o :: rest) a (w.alloc (.cells (enc y).toArray e)) := by
  obtain ⟨i0, hi, hz0, hz1, hz2⟩ := info_parts hinfo
  refine wpList_append_own _ hgd s x t ho B e i0 z size bytes ht hi hz0 hz1 hz2 hzs hsz v xs.length (xs.flatMap enc) hs (World.ownsRow.alloc hown _) ⟨w.heap.size, 0, none⟩ 1 1 (enc y) hx (by rw [hel]; omega) ?_ (h1 y) (by unfold maxLen; omega) hbytes (by simp; omega) ?_
  · intro j u hj
    have : (⟨w.heap.size, 0, none⟩ : Addr).add j = ⟨w.heap.size, j, none⟩ := by unfold Addr.add; split <;> simp_all
    rw [this, World.cell?_alloc_at _ _ _ _ rfl]
    simpa using hj
  · intro v' w1 hown1 hgrow hnil
    refine h v' w1 ?_ ?_ ?_
    · unfold OwnL
      rw [List.flatMap_append, List.length_append]
      simpa using hown1
    · exact ⟨hgrow.os, hgrow.tape, hgrow.output, Nat.le_trans (by simp) hgrow.size, fun k hk hr => (hgrow.block k (by simp; omega) hr).trans (Below.heap_alloc _ _ _ hk)⟩
    · intro hv
      have := hnil.mp hv
      omega
end
theorem below_grown {B : Nat} {w0 w w' : World} (h : Below B w0 w) {v : Value} (hg : w.grownBy w' v.ownBlock) (hB : B ≤ w.heap.size) {α : Type} {e : TypeId} {size : Nat} {enc : α → List Value} {xs : List α} (ho : OwnL w B e size enc v xs) : Below B w0 w' :=
  h.grown hg hB fun k hk => (ho.block k hk).1

/-- Rows of bytes, of ints. -/
def encU8 (n : Int) : List Value := [.int .u8 n]
def encI (n : Int) : List Value := [.int .i64 n]
theorem encU8_len (n : Int) : (encU8 n).length = 1 := rfl
theorem encI_len (n : Int) : (encI n).length = 1 := rfl
theorem encU8_one (n : Int) : ∀ u ∈ encU8 n, u.oneCell' = true := by intro u hu; simp [encU8] at hu; subst hu; rfl
theorem encI_one (n : Int) : ∀ u ∈ encI n, u.oneCell' = true := by intro u hu; simp [encI] at hu; subst hu; rfl
end Go.Proofs.Ytfjngecgfmlnfaa
