/- A block that is a map, told as a list of keys and elements in the order in which they lie; what is looked up, put, deleted. -/
import Derived.Test.YtfjngecgfmlnfaaKRInto
import Derived.Maps.Keyed
import Derived.Carry
namespace Go.Proofs.Ytfjngecgfmlnfaa
open Go.RowKit Go.MapKept Go.Maps
set_option linter.unusedVariables false
section
variable {P : Program} {α β : Type} [DecidableEq α]
/-- Block g is a map whose entries are l. -/
def MapL (w : World) (g : Nat) (ke : α → Value) (ve : β → Value) (l : List (α × β)) : Prop :=
  ∃ (es : Array MapEntry) (c : Nat), w.heap[g]? = some (.map es c) ∧ Stamped es c ∧ es.toList.map (fun e => (e.key, e.val)) = l.map (fun p => (ke p.1, ve p.2))
def lookL (l : List (α × β)) (x : α) : Option β := (l.find? (fun p => decide (p.1 = x))).map (·.2)
/-- What is asked of the keys. -/
structure KeyE (P : Program) (K : TypeId) (ke : α → Value) (ok : α → Prop) : Prop where
  keyed : Keyed P K
  lit : ∀ x, ok x → ∃ l, keyOf P K (ke x) = some l
  inj : ∀ x y, ke x = ke y → x = y
variable {w w' : World} {g B : Nat} {ke : α → Value} {ve : β → Value} {l : List (α × β)} {K E T : TypeId} {ok : α → Prop}
omit [DecidableEq α] in
theorem MapL.lt (h : MapL w g ke ve l) : g < w.heap.size := by
  obtain ⟨es, c, hb, _⟩ := h
  exact (Array.getElem?_eq_some_iff.1 hb).1
omit [DecidableEq α] in
theorem MapL.of_block (h : MapL w g ke ve l) (hb : w'.heap[g]? = w.heap[g]?) : MapL w' g ke ve l := by
  obtain ⟨es, c, h1, h2⟩ := h
  exact ⟨es, c, by rw [hb]; exact h1, h2⟩
omit [DecidableEq α] in
theorem MapL.below (h : MapL w g ke ve l) (hb : Below B w w') (hg : g < B) : MapL w' g ke ve l := h.of_block (hb.block g hg)
omit [DecidableEq α] in
theorem MapL.bar {k : Nat} (h : MapL w g ke ve l) (hb : Bar k w w') (hg : g ≠ k) : MapL w' g ke ve l := h.of_block (hb.block g h.lt hg)
omit [DecidableEq α] in
theorem MapL.drew (h : MapL w g ke ve l) : MapL w.drew g ke ve l := h
omit [DecidableEq α] in
theorem MapL.new (w : World) (ke : α → Value) (ve : β → Value) : MapL (w.alloc (.map #[] 0)) w.heap.size ke ve [] :=
  ⟨#[], 0, (MapKept.heap_alloc w _).1, stamped_empty 0, rfl⟩
omit [DecidableEq α] in
theorem MapL.size {es : Array MapEntry} (h : es.toList.map (fun e => (e.key, e.val)) = l.map (fun p => (ke p.1, ve p.2))) : es.size = l.length := by
  have := congrArg List.length h
  simpa using this
theorem lookL_none {x : α} : lookL l x = none ↔ ∀ p ∈ l, p.1 ≠ x := by
  unfold lookL
  simp [List.find?_eq_none]
theorem lookL_some {x : α} {y : β} {i : Nat} (hi : i < l.length) (hx : l[i] = (x, y)) (hn : (l.map (·.1)).Nodup) : lookL l x = some y := by
  unfold lookL
  have : l.find? (fun p => decide (p.1 = x)) = some (x, y) := by
    rw [List.find?_eq_some_iff_getElem]
    refine ⟨by simp, i, hi, hx, fun j hj => ?_⟩
    simp only [Bool.not_eq_true', decide_eq_false_iff_not]
    intro e
    have h1 : (l.map (·.1))[j]'(by simp; omega) = (l.map (·.1))[i]'(by simpa using hi) := by
      rw [List.getElem_map, List.getElem_map, e, hx]
    have := (List.getElem_inj hn).1 h1
    omega
  rw [this]; rfl
omit [DecidableEq α] in
theorem MapL.keys {es : Array MapEntry} {c : Nat} (hs : Stamped es c) (h : es.toList.map (fun e => (e.key, e.val)) = l.map (fun p => (ke p.1, ve p.2))) : (l.map (·.1)).Nodup := by
  have h1 : es.toList.map (·.key) = (l.map (·.1)).map ke := by
    have := congrArg (List.map (·.1)) h
    rw [List.map_map, List.map_map] at this
    rw [List.map_map]
    exact this
  have h2 := hs.2.2
  rw [h1] at h2
  exact List.Pairwise.of_map ke (fun a b hab e => hab (by rw [e])) h2
/-- The search. -/
theorem MapL.find (hk : KeyE P K ke ok) {es : Array MapEntry} {c : Nat} (hs : Stamped es c) (h : es.toList.map (fun e => (e.key, e.val)) = l.map (fun p => (ke p.1, ve p.2))) (hok : ∀ p ∈ l, ok p.1) (x : α) (hx : ok x) (w : World) :
    ((Instr.findKey K (ke x) es.toList).run P w = .ok none w ∧ lookL l x = none) ∨ ∃ j y, ∃ hj : j < l.length, (Instr.findKey K (ke x) es.toList).run P w = .ok (some (j, ve y)) w ∧ l[j] = (x, y) ∧ lookL l x = some y := by
  obtain ⟨lx, hlx⟩ := hk.lit x hx
  have hsz := MapL.size h
  have hat : ∀ j (h1 : j < es.size) (h2 : j < l.length), es[j].key = ke l[j].1 ∧ es[j].val = ve l[j].2 := fun j h1 h2 => by
    have := congrArg (fun q => q[j]?) h
    simp only [List.getElem?_map, List.getElem?_eq_getElem h2, Array.getElem?_toList, Array.getElem?_eq_getElem h1, Option.map_some, Option.some.injEq, Prod.mk.injEq] at this
    exact this
  rcases hk.keyed.find w hlx es.toList (fun e he => by
    obtain ⟨j, hj, rfl⟩ := List.getElem_of_mem he
    have hj' : j < es.size := by simpa using hj
    have := (hat j hj' (by omega)).1
    simp only [Array.getElem_toList]
    rw [this]
    exact hk.lit _ (hok _ (List.getElem_mem _))) with ⟨h1, h2⟩ | ⟨j, e, h1, h2, h3⟩
  · refine .inl ⟨h1, lookL_none.2 fun p hp => ?_⟩
    obtain ⟨j, hj, rfl⟩ := List.getElem_of_mem hp
    intro e
    refine h2 es[j] (by simp) ?_
    rw [(hat j (by omega) hj).1, e]
  · have hj : j < es.size := by
      have := (List.getElem?_eq_some_iff.1 h2).1
      simpa using this
    have he : es[j] = e := by
      have := (List.getElem?_eq_some_iff.1 h2).2
      simpa using this
    obtain ⟨q1, q2⟩ := hat j hj (by omega)
    rw [he] at q1 q2
    have hx1 : l[j].1 = x := hk.inj _ _ (by rw [← q1, h3])
    have hl : l[j] = (x, l[j].2) := by rw [← hx1]
    refine .inr ⟨j, l[j].2, by omega, by rw [h1, q2], hl, lookL_some (by omega) hl (MapL.keys hs h)⟩
/-- 'v, ok := m[k]'. -/
theorem MapL.look (h : MapL w g ke ve l) (hk : KeyE P K ke ok) (ht : P.underlying T = some (.map K E)) {z : Value} (hz : ∀ w, (zeroValue E).run P w = .ok z w) (hok : ∀ p ∈ l, ok p.1) (x : α) (hx : ok x) (b : Bool) :
    (Instr.lookup T (.map (some g)) (ke x) b).run P w = .ok (if b then .tuple #[((lookL l x).map ve).getD z, .bool (lookL l x).isSome] else ((lookL l x).map ve).getD z) w := by
  obtain ⟨es, c, hb, hs, he⟩ := h
  obtain ⟨lx, hlx⟩ := hk.lit x hx
  rcases MapL.find hk hs he hok x hx w with ⟨h1, h2⟩ | ⟨j, y, hj, h1, _, h2⟩
  · rw [h2]
    simp [Instr.lookup, run_underlying ht, MapKept.run_getObj_map hb, hk.keyed.check w _ hlx, h1, hz, Result.andThen]
  · rw [h2]
    simp [Instr.lookup, run_underlying ht, MapKept.run_getObj_map hb, hk.keyed.check w _ hlx, h1, Result.andThen]
/-- 'm[k] = v': the list behind it. -/
def putL (l : List (α × β)) (x : α) (y : β) : List (α × β) := if lookL l x = none then l ++ [(x, y)] else l.map fun p => if p.1 = x then (x, y) else p
theorem MapL.update (h : MapL w g ke ve l) (hk : KeyE P K ke ok) (ht : P.underlying T = some (.map K E)) (hok : ∀ p ∈ l, ok p.1) (x : α) (hx : ok x) (y : β) :
    ∃ w', (Instr.mapUpdate T (.map (some g)) (ke x) (ve y)).run P w = .ok () w' ∧ MapL w' g ke ve (putL l x y) ∧ Bar g w w' := by
  obtain ⟨es, c, hb, hs, he⟩ := h
  obtain ⟨lx, hlx⟩ := hk.lit x hx
  have hsz := MapL.size he
  have bar : ∀ o, Bar g w { w with heap := w.heap.setIfInBounds g o } := fun o => ⟨rfl, rfl, rfl, by simp, fun k _ hk => (heap_set hb).2 k hk⟩
  rcases MapL.find hk hs he hok x hx w with ⟨h1, h2⟩ | ⟨j, y0, hj, h1, hl, h2⟩
  · refine ⟨_, by simp [Instr.mapUpdate, run_underlying ht, MapKept.run_getObj_map hb, hk.keyed.check w _ hlx, h1, MapKept.run_setObj_map _ hb, Result.andThen], ?_, bar (.map (es.push { key := ke x, val := ve y, born := c }) (c + 1))⟩
    refine ⟨_, _, (heap_set hb).1, stamped_push hs fun e hem => ?_, ?_⟩
    · obtain ⟨i, hi, rfl⟩ := List.getElem_of_mem hem
      have hi' : i < es.size := by simpa using hi
      have := congrArg (fun q => q[i]?) he
      simp only [List.getElem?_map, List.getElem?_eq_getElem (show i < l.length by omega), Array.getElem?_toList, Array.getElem?_eq_getElem hi', Option.map_some, Option.some.injEq, Prod.mk.injEq] at this
      simp only [Array.getElem_toList]
      rw [this.1]
      intro e
      exact lookL_none.1 h2 _ (List.getElem_mem (show i < l.length by omega)) (hk.inj _ _ e)
    · unfold putL
      rw [if_pos h2]
      simp [he]
  · have hje : j < es.size := by omega
    have hkj : es[j].key = ke x := by
      have := congrArg (fun q => q[j]?) he
      simp only [List.getElem?_map, List.getElem?_eq_getElem hj, Array.getElem?_toList, Array.getElem?_eq_getElem hje, Option.map_some, Option.some.injEq, Prod.mk.injEq] at this
      rw [this.1, hl]
    refine ⟨_, by simp [Instr.mapUpdate, run_underlying ht, MapKept.run_getObj_map hb, hk.keyed.check w _ hlx, h1, hje, hkj, hk.keyed.stays w hlx, MapKept.run_setObj_map _ hb, Result.andThen]; rfl, ?_, bar _⟩
    refine ⟨_, _, (heap_set hb).1, stamped_modify hs j _ (fun _ _ => rfl) (fun e _ hej => ?_), ?_⟩
    · rw [Array.getElem?_eq_getElem hje] at hej
      cases hej
      exact hkj.symm
    · unfold putL
      rw [if_neg (by rw [h2]; simp)]
      have hnd := MapL.keys hs he
      refine List.ext_getElem? fun i => ?_
      simp only [List.getElem?_map, Array.getElem?_toList, Array.getElem?_modify]
      by_cases hij : j = i
      · subst hij
        simp only [if_true, Array.getElem?_eq_getElem hje, List.getElem?_eq_getElem hj, Option.map_some, hl]
      · simp only [hij, if_false]
        have hi := congrArg (fun q => q[i]?) he
        simp only [List.getElem?_map, Array.getElem?_toList] at hi
        rw [hi]
        cases hli : l[i]? with
        | none => rfl
        | some p =>
          obtain ⟨hil, hip⟩ := List.getElem?_eq_some_iff.1 hli
          have : p.1 ≠ x := by
            intro e
            apply hij
            have h1 : (l.map (·.1))[j]'(by simpa using hj) = (l.map (·.1))[i]'(by simpa using hil) := by
              rw [List.getElem_map, List.getElem_map, hl, hip, e]
            exact (List.getElem_inj hnd).1 h1
          simp [this]
omit [DecidableEq α] in
theorem MapL.len (h : MapL w g ke ve l) (ht : P.underlying T = some (.map K E)) (ty : TypeId) : (Builtin.len_ #[T] ty #[.map (some g)]).run P w = .ok (.int .i64 l.length) w := by
  obtain ⟨es, c, hb, hs, he⟩ := h
  simp [Builtin.len_, run_underlying ht, MapKept.run_getObj_map hb, Result.andThen, MapL.size he]; rfl
end
end Go.Proofs.Ytfjngecgfmlnfaa
