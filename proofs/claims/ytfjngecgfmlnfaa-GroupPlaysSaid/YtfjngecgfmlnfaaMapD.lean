/- A block that is a map, told as a list: a key is deleted. -/
import Derived.Test.YtfjngecgfmlnfaaMapR
namespace Go.Proofs.Ytfjngecgfmlnfaa
open Go.RowKit Go.MapKept Go.Maps
set_option linter.unusedVariables false
section
variable {P : Program} {α β : Type} [DecidableEq α]
def delL (l : List (α × β)) (x : α) : List (α × β) := l.filter fun p => !decide (p.1 = x)
theorem delL_none {l : List (α × β)} {x : α} (h : lookL l x = none) : delL l x = l := by
  refine List.filter_eq_self.2 fun p hp => ?_
  simpa using lookL_none.1 h p hp
theorem delL_erase : ∀ (L : List (α × β)) (i : Nat) (hi : i < L.length), (L.map (·.1)).Nodup → delL L (L[i]).1 = L.eraseIdx i
  | [], i, hi, _ => by simp at hi
  | x :: L, 0, hi, hn => by
    simp only [delL, List.getElem_cons_zero, List.eraseIdx_cons_zero, List.filter_cons, decide_true, Bool.not_true]
    rw [List.map_cons, List.nodup_cons] at hn
    refine List.filter_eq_self.2 fun y hy => ?_
    have : y.1 ≠ x.1 := fun e => hn.1 (e ▸ List.mem_map_of_mem hy)
    simpa using this
  | x :: L, i + 1, hi, hn => by
    rw [List.map_cons, List.nodup_cons] at hn
    have hi' : i < L.length := by simpa using hi
    have hx : x.1 ≠ (L[i]).1 := fun e => hn.1 (e ▸ List.mem_map_of_mem (List.getElem_mem hi'))
    have : (!decide (x.1 = (L[i]).1)) = true := by simpa using hx
    simp only [delL, List.getElem_cons_succ, List.eraseIdx_cons_succ, List.filter_cons, this, if_true]
    have := delL_erase L i hi' hn.2
    unfold delL at this
    rw [this]
variable {w w' : World} {g B : Nat} {ke : α → Value} {ve : β → Value} {l : List (α × β)} {K E T : TypeId} {ok : α → Prop}
theorem MapL.delete (h : MapL w g ke ve l) (hk : KeyE P K ke ok) (ht : P.underlying T = some (.map K E)) (hok : ∀ p ∈ l, ok p.1) (x : α) (hx : ok x) (ty : TypeId) :
    ∃ w', (Builtin.delete_ #[T, K] ty #[.map (some g), ke x]).run P w = .ok (.tuple #[]) w' ∧ MapL w' g ke ve (delL l x) ∧ Bar g w w' := by
  obtain ⟨es, c, hb, hs, he⟩ := h
  obtain ⟨lx, hlx⟩ := hk.lit x hx
  have hsz := MapL.size he
  have bar : ∀ o, Bar g w { w with heap := w.heap.setIfInBounds g o } := fun o => ⟨rfl, rfl, rfl, by simp, fun k _ hk => (heap_set hb).2 k hk⟩
  rcases MapL.find hk hs he hok x hx w with ⟨h1, h2⟩ | ⟨j, y0, hj, h1, hl, h2⟩
  · refine ⟨_, by simp [Builtin.delete_, run_underlying ht, MapKept.run_getObj_map hb, hk.keyed.check w _ hlx, h1, MapKept.run_setObj_map _ hb, Result.andThen], ?_, bar (.map es c)⟩
    rw [delL_none h2]
    exact ⟨es, c, (heap_set hb).1, hs, he⟩
  · refine ⟨_, by simp [Builtin.delete_, run_underlying ht, MapKept.run_getObj_map hb, hk.keyed.check w _ hlx, h1, MapKept.run_setObj_map _ hb, Result.andThen], ?_, bar (.map (es.eraseIdxIfInBounds j) c)⟩
    refine ⟨_, _, (heap_set hb).1, stamped_erase hs _, ?_⟩
    have hnd := MapL.keys hs he
    have e := delL_erase l j hj hnd
    rw [hl] at e
    rw [e, Array.eraseIdxIfInBounds, dif_pos (by omega), Array.toList_eraseIdx, map_erase, he, ← map_erase]
theorem delL_look (l : List (α × β)) (x y : α) : lookL (delL l x) y = if y = x then none else lookL l y := by
  induction l with
  | nil => simp [delL, lookL]
  | cons p l ih =>
    unfold delL at *
    simp only [List.filter_cons]
    by_cases hp : p.1 = x
    · have h1 : (!decide (p.1 = x)) = false := by simp [hp]
      rw [h1, if_neg (by simp), ih]
      unfold lookL
      simp only [List.find?_cons]
      by_cases hy : y = x
      · rw [if_pos hy, if_pos hy]
      · rw [if_neg hy, if_neg hy, decide_eq_false (by rw [hp]; exact Ne.symm hy)]
    · have h1 : (!decide (p.1 = x)) = true := by simp [hp]
      rw [h1, if_pos rfl]
      unfold lookL at ih ⊢
      simp only [List.find?_cons]
      by_cases hy : p.1 = y
      · rw [decide_eq_true hy]
        subst hy
        rw [if_neg hp]
      · rw [decide_eq_false hy]
        exact ih
theorem delL_mem {l : List (α × β)} {x : α} {p : α × β} (h : p ∈ delL l x) : p ∈ l ∧ p.1 ≠ x := by
  unfold delL at h
  simpa using List.mem_filter.1 h
end
end Go.Proofs.Ytfjngecgfmlnfaa
