/- A region whose order is open: an operation is taken first if it yields its value in every world that the operations, which do not wait for it, leave behind. What each leaves behind (D) is told operation by operation; those that wait for what is taken (the last stores) need not keep what the loads read. -/
import Derived.Test.YtfjngecgfmlnfaaKRInto
import Derived.Deep.RegionHeld3
namespace Go.Proofs.Ytfjngecgfmlnfaa
open Go.RowKit
set_option linter.unusedVariables false
section
variable {P : Program} {ops : Array Oper} {Q : Exit → Act → World → Prop} {md : Region.Mode} {D : Nat → World → World → Prop} {S : World → Prop}
def wpG (P : Program) (md : Region.Mode) (ops : Array Oper) (Q : Exit → Act → World → Prop) (D : Nat → World → World → Prop) : Nat → Array Bool → Act → World → Prop
  | 0, listed, a, w => Region.ready md ops listed = [] ∧ Q .normal a w
  | f + 1, listed, a, w => (Region.ready md ops listed = [] → Q .normal a w) ∧
    ∀ i ∈ Region.ready md ops listed, wpOp P ops Q i (fun a' w' => D i w w' ∧ wpG P md ops Q D f (listed.setIfInBounds i true) a' w') a w
theorem wpAny_of_G : ∀ (f : Nat) (listed : Array Bool) (a : Act) (w : World), wpG P md ops Q D f listed a w → wpAny P md ops Q f listed a w
  | 0, _, _, _, h => h
  | f + 1, _, _, _, h => ⟨h.1, fun i hi => wpOp_mono (fun a' w' h' => wpAny_of_G f _ a' w' h'.2) (h.2 i hi)⟩
/-- Those that wait for i: each has an edge to it or to one of them. -/
def waitsG (md : Region.Mode) (ops : Array Oper) (i : Nat) (W : List Nat) : Prop := ∀ j ∈ W, ∃ o, ops[j]? = some o ∧ ∃ e ∈ o.after, Region.binds md e = true ∧ (e.on = i ∨ e.on ∈ W)
theorem notReady_waits {i j : Nat} {W : List Nat} {listed : Array Bool} (hW : waitsG md ops i W) (hi : listed.getD i true = false) (hun : ∀ k ∈ W, listed.getD k true = false) (hj : j ∈ Region.ready md ops listed) : j ∉ W := by
  intro hjW
  obtain ⟨o, ho, e, he, hb, hon⟩ := hW j hjW
  obtain ⟨_, o', ho', hall⟩ := mem_ready.1 hj
  rw [ho] at ho'
  cases ho'
  have h1 := hall e he hb
  have h0 : listed.getD e.on true = false := by
    rcases hon with h | h
    · rw [h]; exact hi
    · exact hun _ h
  rw [getD_both h0] at h1
  cases h1
theorem wpG_first {i : Nat} {oi : Oper} {v : Value} {W : List Nat} (hi : ops[i]? = some oi) (hsel : ∀ (j : Nat) (o : Oper) cs b, ops[j]? = some o → o.op ≠ .select cs b)
    (hQ : ∀ c a w, Q (.panic c) (a.put oi.dst v) w → Q (.panic c) a w) (hW : waitsG md ops i W) (hDi : ∀ w, D i w w) :
    ∀ (f : Nat) (listed : Array Bool) (a : Act) (w : World), (∀ k ∈ W, listed.getD k true = false) → (∀ j oj, ops[j]? = some oj → listed.getD j true = false → j ≠ i → j ∉ W → ∀ w w', S w → D j w w' → S w') →
      (∀ j oj, ops[j]? = some oj → j ≠ i → listed.getD j true = false → (∀ e ∈ oj.after, Region.binds md e = true → e.on ≠ i) → oi.apart ops oj = true) →
      i ∈ Region.ready md ops listed → YieldsIf P ops S oi v a → S w →
      wpG P md ops Q D f (listed.setIfInBounds i true) (a.put oi.dst v) w → wpG P md ops Q D (f + 1) listed a w := by
  intro f
  induction f with
  | zero =>
    intro listed a w _ _ _ hr hy hS H
    refine ⟨fun h => (by rw [h] at hr; cases hr), fun j hj => ?_⟩
    by_cases hji : j = i
    · subst hji; exact hy.wpOp hi hS ⟨hDi _, H⟩
    · have := ready_mono hj hji
      rw [H.1] at this
      cases this
  | succ f ih =>
    intro listed a w hun hD hfree hr hy hS H
    have hiun := (mem_ready.1 hr).1
    refine ⟨fun h => (by rw [h] at hr; cases hr), fun j hj => ?_⟩
    by_cases hji : j = i
    · subst hji; exact hy.wpOp hi hS ⟨hDi _, H⟩
    · have hjW : j ∉ W := notReady_waits hW hiun hun hj
      have h1 := H.2 j (ready_mono hj hji)
      obtain ⟨hjun, oj, hoj, hall⟩ := mem_ready.1 hj
      have hnot : ∀ e ∈ oj.after, Region.binds md e = true → e.on ≠ i := fun e he hb heq => by
        have h1 := hall e he hb
        rw [heq, getD_both hiun] at h1
        cases h1
      have h2 := wpOp_putIf hoj (hfree j oj hoj hji hjun hnot) (fun cs b => hsel i oi cs b hi) (fun cs b => hsel j oj cs b hoj) hQ hy h1
      have keep : ∀ k, (listed.setIfInBounds j true).getD k true = false → listed.getD k true = false := fun k hk => by
        by_cases hjk : j = k
        · subst hjk; exact hjun
        · rw [getD_set_ne true hjk] at hk; exact hk
      refine wpOp_mono (fun a' w' h3 => ⟨h3.2.1, ih (listed.setIfInBounds j true) a' w' ?_ ?_ ?_ (ready_mono hr (Ne.symm hji)) h3.1 (hD j oj hoj hjun hji hjW _ w' hS h3.2.1) ?_⟩) h2
      · intro k hk
        rw [getD_set_ne true (by rintro rfl; exact hjW hk)]
        exact hun k hk
      · exact fun k ok hok hk => hD k ok hok (keep k hk)
      · exact fun k ok hk hki hkun => hfree k ok hk hki (keep k hkun)
      · rw [Array.setIfInBounds_comm _ _ hji]
        exact h3.2.2
/-- All that wait for i, in the order of the numbers. -/
def closG (md : Region.Mode) (ops : Array Oper) (i : Nat) : List Nat :=
  (List.range ops.size).foldl (fun W j => match ops[j]? with
    | some o => if o.after.any (fun e => Region.binds md e && (e.on == i || W.contains e.on)) then W ++ [j] else W
    | none => W) []
def waitsB (md : Region.Mode) (ops : Array Oper) (i : Nat) (W : List Nat) : Bool :=
  W.all fun j => match ops[j]? with
    | some o => o.after.any (fun e => Region.binds md e && (e.on == i || W.contains e.on))
    | none => false
theorem waitsB_spec {i : Nat} {W : List Nat} (h : waitsB md ops i W = true) : waitsG md ops i W := by
  intro j hj
  unfold waitsB at h
  have h1 := List.all_eq_true.1 h j hj
  cases ho : ops[j]? with
  | none => rw [ho] at h1; cases h1
  | some o =>
    rw [ho] at h1
    obtain ⟨e, he, hc⟩ := Array.any_eq_true'.1 h1
    simp only [Bool.and_eq_true, Bool.or_eq_true, beq_iff_eq, List.contains_iff_mem] at hc
    exact ⟨o, rfl, e, he, hc.1, hc.2⟩
/-- From n on the operations need not keep S; all of them that are to come wait for i. -/
def tailG (md : Region.Mode) (ops : Array Oper) (n : Nat) (listed : Array Bool) (i : Nat) : Bool :=
  decide (i < n) && waitsB md ops i (closG md ops i) && (closG md ops i).all (fun j => !listed.getD j true) && (List.range ops.size).all (fun j => decide (j < n) || (closG md ops i).contains j || listed.getD j true)
/-- What each operation leaves: those ahead of n keep S. -/
def keepTo (n : Nat) (S : World → Prop) (j : Nat) (w w' : World) : Prop := j < n → S w → S w'
theorem wpG_take {i : Nat} {oi : Oper} {v : Value} {n fuel : Nat} {listed : Array Bool} {a : Act} {w : World} (hi : ops[i]? = some oi)
    (hs : Region.noSelect ops = true) (hf : (Region.free md ops listed i && tailG md ops n listed i) = true) (hr : (Region.ready md ops listed).contains i = true)
    (hQ : ∀ c a w, Q (.panic c) (a.put oi.dst v) w → Q (.panic c) a w) (hy : YieldsIf P ops S oi v a) (hS : S w)
    (h : wpG P md ops Q (keepTo n S) fuel (listed.setIfInBounds i true) (a.put oi.dst v) w) : wpG P md ops Q (keepTo n S) (fuel + 1) listed a w := by
  simp only [tailG, Bool.and_eq_true, decide_eq_true_eq] at hf
  obtain ⟨hf, ⟨⟨hin, hw⟩, hu⟩, ht⟩ := hf
  refine wpG_first (S := S) hi (Region.noSelect_spec hs) hQ (waitsB_spec hw) (fun _ _ h => h) fuel listed a w (fun k hk => ?_) (fun j oj hoj hj hne hjW w' w'' hSw hD => ?_) (Region.free_spec hi hf) (by simpa using hr) hy hS h
  · simpa using List.all_eq_true.1 hu k hk
  · have := List.all_eq_true.1 ht j (List.mem_range.2 (Array.getElem?_eq_some_iff.1 hoj).1)
    simp only [Bool.or_eq_true, decide_eq_true_eq, List.contains_iff_mem] at this
    rcases this with (h | h) | h
    · exact hD h hSw
    · exact absurd h hjW
    · rw [h] at hj; cases hj
theorem wpG_ready {i : Nat} {oi : Oper} {n fuel : Nat} {listed : Array Bool} {a : Act} {w : World} (hi : ops[i]? = some oi) (hr : Region.ready md ops listed = [i])
    (h : ∀ K' : Act → World → Prop, Shut (∀ a w', (i < n → S w → S w') → wpG P md ops Q (keepTo n S) fuel (listed.setIfInBounds i true) a w' → K' a w') → if Region.wanted oi (yielded ops a.tmps) = true then Oper.wp P oi a w K' Q else K' (a.put oi.dst undef) w) :
    wpG P md ops Q (keepTo n S) (fuel + 1) listed a w := by
  refine ⟨fun h0 => absurd (hr ▸ h0) (by simp), fun j hj => ?_⟩
  rw [hr] at hj
  obtain rfl : j = i := by simpa using hj
  exact wpOp_step hi (fun K' hK => h K' (fun a w hS hW => hK a w ⟨hS, hW⟩))
/-- An operation that yields its value in whatever world. -/
theorem wpG_pure {i : Nat} {oi : Oper} {v : Value} {n fuel : Nat} {listed : Array Bool} {a : Act} {w : World} (hi : ops[i]? = some oi)
    (hs : Region.noSelect ops = true) (hf : Region.free md ops listed i = true) (hr : (Region.ready md ops listed).contains i = true)
    (hQ : ∀ c a w, Q (.panic c) (a.put oi.dst v) w → Q (.panic c) a w) (hy : YieldsIf P ops (fun _ => True) oi v a)
    (h : wpG P md ops Q (keepTo n S) fuel (listed.setIfInBounds i true) (a.put oi.dst v) w) : wpG P md ops Q (keepTo n S) (fuel + 1) listed a w :=
  wpG_first (S := fun _ => True) (W := []) hi (Region.noSelect_spec hs) hQ (fun j hj => by cases hj) (fun _ _ h => h) fuel listed a w (fun k hk => by cases hk) (fun _ _ _ _ _ _ _ _ _ _ => trivial) (Region.free_spec hi hf) (by simpa using hr) hy trivial h
/-- Two that may come up, in either order. -/
theorem wpG_two {i j : Nat} {oi oj : Oper} {n fuel : Nat} {listed : Array Bool} {a : Act} {w : World} (hi : ops[i]? = some oi) (hj : ops[j]? = some oj) (hr : Region.ready md ops listed = [i, j])
    (h1 : ∀ K' : Act → World → Prop, Shut (∀ a w', (i < n → S w → S w') → wpG P md ops Q (keepTo n S) fuel (listed.setIfInBounds i true) a w' → K' a w') → if Region.wanted oi (yielded ops a.tmps) = true then Oper.wp P oi a w K' Q else K' (a.put oi.dst undef) w)
    (h2 : ∀ K' : Act → World → Prop, Shut (∀ a w', (j < n → S w → S w') → wpG P md ops Q (keepTo n S) fuel (listed.setIfInBounds j true) a w' → K' a w') → if Region.wanted oj (yielded ops a.tmps) = true then Oper.wp P oj a w K' Q else K' (a.put oj.dst undef) w) :
    wpG P md ops Q (keepTo n S) (fuel + 1) listed a w := by
  refine ⟨fun h0 => absurd (hr ▸ h0) (by simp), fun k hk => ?_⟩
  rw [hr] at hk
  simp only [List.mem_cons, List.not_mem_nil, or_false] at hk
  rcases hk with rfl | rfl
  · exact wpOp_step hi (fun K' hK => h1 K' (fun a w' hS hW => hK a w' ⟨hS, hW⟩))
  · exact wpOp_step hj (fun K' hK => h2 K' (fun a w' hS hW => hK a w' ⟨hS, hW⟩))
theorem wpG_done {listed : Array Bool} {a : Act} {w : World} (hr : Region.ready md ops listed = []) (h : Q .normal a w) : ∀ fuel, wpG P md ops Q D fuel listed a w
  | 0 => ⟨hr, h⟩
  | _ + 1 => ⟨fun _ => h, by rw [hr]; simp⟩
theorem wp_region_G {id : Nat} {a : Act} {w : World} (n : Nat) (S : World → Prop) (hm : P.follows .mixedOrders = true)
    (h : wpG P .any ops Q (keepTo n S) ops.size (Array.replicate ops.size false) a w.drew) : (Code.region id ops true).wp P Q a w :=
  wp_region_any hm (wpAny_of_G _ _ _ _ h)
end
/-- Blocks that stay, and all that lay in a world. -/
def KS (B : Nat) (w : World) (l : List (Nat × TypeId × Array Value)) (wr W : World) : Prop := KR B w l W ∧ Below wr.heap.size wr W
section
variable {B : Nat} {w wr W W' : World} {l : List (Nat × TypeId × Array Value)}
theorem KR.barOut {g : Nat} (h : KR B w l W) (hb : Bar g W W') (hg : B ≤ g) (hne : ∀ x ∈ l, x.1 ≠ g) : KR B w l W' :=
  ⟨fun x hx => (h.1 x hx).bar hb (hne x hx), hb.below h.2.1 hg h.2.2, Nat.le_trans h.2.2 hb.size⟩
theorem KS.start (h : KR B w l W) : KS B w l W W := ⟨h, Below.refl _ _⟩
theorem KS.drew (h : KS B w l wr W) : KS B w l wr W.drew := ⟨h.1.drew, h.2.drew⟩
theorem KS.call (h : KS B w l wr W) (hb : Below W.heap.size W W') : KS B w l wr W' := ⟨h.1.call hb, h.2.trans (hb.mono h.2.size)⟩
theorem KS.at (h : KS B w l wr W) (i : Nat) {g : Nat} {t : TypeId} {cs : Array Value} (hi : l[i]? = some (g, t, cs)) : BlkAt W g t cs := h.1.at i hi
theorem KS.below (h : KS B w l wr W) : Below B w W := h.1.below
theorem KS.cell (h : KS B w l wr W) {p : Addr} {v : Value} (hp : p.block < wr.heap.size) (hc : wr.cell? p = some v) : W.cell? p = some v := (h.2.cell hp).trans hc
theorem KS.frozen (h : KS B w l wr W) {p : Addr} (hp : p.block < wr.heap.size) : W.frozen? p = wr.frozen? p := World.frozen?_of_block (h.2.block _ hp)
end
section
variable {B : Nat} {w wr W W' : World} {l : List (Nat × TypeId × Array Value)}
theorem KS.alloc (h : KS B w l wr W) (o : Obj) : KS B w l wr (W.alloc o) := h.call ((Below.refl _ _).alloc (Nat.le_refl _) o)
end
end Go.Proofs.Ytfjngecgfmlnfaa
