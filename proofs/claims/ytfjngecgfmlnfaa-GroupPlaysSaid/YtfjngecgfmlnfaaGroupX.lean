/- The keys of a table's map, sorted. -/
import Derived.Test.YtfjngecgfmlnfaaGroupW
import Derived.Sort.OwnSortedInts
import Derived.Shelf.SlIterI.Sorted
namespace Go.Proofs.Ytfjngecgfmlnfaa
open Go.RowKit Go.Maps Go.Shelf
open Go.Sort hiding rd
open Go.WideElems (Fit rd rg rd_mk rg_of)
set_option linter.unusedVariables false
set_option linter.unusedSimpArgs false

def sortI (xs : List Int) : List Int := xs.mergeSort fun x y => decide (x ≤ y)
theorem flat_encI (xs : List Int) : xs.flatMap encI = xs.map (Value.int .i64) := by
  induction xs with
  | nil => rfl
  | cons x xs ih => simp [encI, ih]
theorem sortI_perm {a b : List Int} (h : a.Perm b) : sortI a = sortI b := by
  have pw : ∀ l : List Int, (sortI l).Pairwise (fun x y => decide (x ≤ y) = true) := fun l =>
    List.pairwise_mergeSort (le := fun x y : Int => decide (x ≤ y)) (fun a b c h1 h2 => by simp at *; omega) (fun a b => by simp; omega) l
  exact List.Perm.eq_of_pairwise (le := fun x y : Int => decide (x ≤ y) = true) (fun x y _ _ h1 h2 => by simp at h1 h2; omega) (pw a) (pw b)
    (((List.mergeSort_perm _ _).trans h).trans (List.mergeSort_perm _ _).symm)
theorem sortsI (m : Nat) : AnyZI.SortsIn Try.prog Try.sortedI_ren Fence.wide m :=
  ⟨fun blk off cap ss W hH hblk hsz => callsIn_wide.2 (Any.slices_Sort_int Try.lays189 blk off cap ss W hH hblk hsz),
   fun p cap W => callsIn_wide.2 (Any.slices_Sort_int_none Try.lays189 p cap W)⟩
theorem keys_any (mb : Nat) (W : World) : Calls Try.prog 48 #[.map (some mb)] W fun e w' =>
    e = .returned (.func (.func 63) #[] #[.pointer (some ⟨W.heap.size, 0, none⟩)]) ∧ w' = W.alloc (.cells #[.map (some mb)] 66) :=
  callsIn_wide.1 (AnyZI.keys_in Try.keysI Fence.wide 5 trivial rfl (some mb) W)
def noR (_ : Value) : Option (DataW Unit × List MemPlace) := some (.nil, [])
set_option maxRecDepth 100000 in
theorem MapL.owns {β : Type} {w : World} {mb : Nat} {ve : β → Value} {l : List (Int × β)} (h : MapL w mb keyI ve l) (hk : ∀ p ∈ l, wfI p.1) (hl : l.length ≤ 1000) :
    ∃ D : DataW Unit, w.ownsMap Try.prog 3 noR mb l.length D ∧ (intKeys D).Perm (l.map (·.1)) ∧ Maps.size D = l.length := by
  obtain ⟨es, c, hb, hs, he⟩ := h
  have hsz := MapL.size he
  have hrd : ∀ x ∈ es.toList, ∃ n : Int, x.key = keyI n ∧ rd Try.prog 3 noR x = some (.int .i64 n, .nil) := by
    intro x hx
    obtain ⟨j, hj, rfl⟩ := List.getElem_of_mem hx
    have hj' : j < es.size := by simpa using hj
    have := congrArg (fun q => q[j]?) he
    simp only [List.getElem?_map, List.getElem?_eq_getElem (show j < l.length by omega), Array.getElem?_toList, Array.getElem?_eq_getElem hj', Option.map_some, Option.some.injEq, Prod.mk.injEq] at this
    refine ⟨l[j].1, by simpa using this.1, ?_⟩
    have hw := hk _ (List.getElem_mem (show j < l.length by omega))
    have hk1 := keyOf_int_mk (P := Try.prog) Try.underlying3 hw
    have h1 := this.1
    simp only [Array.getElem_toList]
    unfold rd
    rw [h1]
    unfold keyI
    rw [hk1]
    rfl
  refine ⟨_, ⟨es, c, hb, ⟨by rw [hsz]; unfold maxLen; omega, hs, fun x hx => ?_⟩, by omega, rfl⟩, ?_, ?_⟩
  · obtain ⟨n, _, h⟩ := hrd x hx
    exact ⟨_, h⟩
  · refine ((Go.WideShapes.sorted_perm _).map _).trans ?_
    rw [List.map_map]
    have e : es.toList.map (fun x => Go.intOf (rg Try.prog 3 noR x).1) = l.map (·.1) := by
      have h1 : es.toList.map (·.key) = (l.map (·.1)).map keyI := by
        have := congrArg (List.map (·.1)) he
        rw [List.map_map, List.map_map] at this
        rw [List.map_map]
        exact this
      have h2 : ∀ x ∈ es.toList, keyI (Go.intOf (rg Try.prog 3 noR x).1) = x.key := fun x hx => by
        obtain ⟨n, h1, h2⟩ := hrd x hx
        rw [rg_of h2, h1]; rfl
      have h3 : (es.toList.map (fun x => Go.intOf (rg Try.prog 3 noR x).1)).map keyI = (l.map (·.1)).map keyI := by
        rw [List.map_map, ← h1]
        exact List.map_congr_left fun x hx => h2 x hx
      exact List.map_inj_right (fun a b h => by simpa [keyI] using h) |>.1 h3
    exact List.Perm.of_eq e
  · show ((es.toList.map (rg Try.prog 3 noR)).foldr DataW.insert []).length = l.length
    rw [(Go.WideShapes.sorted_perm _).length_eq, List.length_map, Array.length_toList, hsz]
set_option maxHeartbeats 1000000 in
theorem sorted_any {β : Type} {W : World} {mb : Nat} {ve : β → Value} {l : List (Int × β)} (h : MapL W mb keyI ve l) (hk : ∀ p ∈ l, wfI p.1) (hl : l.length ≤ 1000) :
    Calls Try.prog 47 #[.func (.func 63) #[] #[.pointer (some ⟨W.heap.size, 0, none⟩)]] (W.alloc (.cells #[.map (some mb)] 66)) fun e w' =>
      ∃ v, e = .returned v ∧ OwnL w' (W.heap.size + 1) 3 1 encI v (sortI (l.map (·.1))) ∧ Below (W.heap.size + 1) (W.alloc (.cells #[.map (some mb)] 66)) w' := by
  obtain ⟨D, hown, hperm, hsz⟩ := h.owns hk hl
  have hbl := h.lt
  have hseq : SeqGives Fence.wide 2 Try.prog 63 #[.pointer (some ⟨W.heap.size, 0, none⟩)] encZ (fun ss => ss.Perm (intKeys D)) (Maps.size D) (W.alloc (.cells #[.map (some mb)] 66)) :=
    AnyZI.keys_gives (ρ := Try.keysI_ren) { Try.keysI with } Fence.wide _ trivial rfl (by omega) W.heap.size mb l.length D _ (by simp) (by simp) (by
      obtain ⟨es, clock, hb, Ft, hs, hD⟩ := hown
      exact ⟨es, clock, (Below.heap_alloc _ _ mb hbl).trans hb, Ft, hs, hD⟩)
  refine (callsIn_wide.1 (AnyZI.sorted_in Try.sortedI Fence.wide 5 trivial trivial trivial trivial rfl (by omega) (sortsI _) (enters_of Try.func62 (by kernel_rfl) rfl) 63 #[.pointer (some ⟨W.heap.size, 0, none⟩)] trivial (enters_of Try.func63 (by kernel_rfl) rfl) _ _ (by unfold maxLen; omega) (by omega) _ hseq)).mono ?_
  rintro e w' ⟨v, ss, rfl, hss, ho, _, hb⟩
  have hp : sortI ss = sortI (l.map (·.1)) := sortI_perm (hss.trans hperm)
  refine ⟨v, rfl, ?_, by simpa using hb⟩
  rw [← hp]
  unfold OwnL
  rw [flat_encI, show (sortI ss).length = ss.length from List.length_mergeSort ..]
  have ho' : w'.ownsRow (W.alloc (.cells #[.map (some mb)] 66)).heap.size 3 1 v ss.length ((sortI ss).map (Value.int .i64)) := ho
  simpa using ho'
end Go.Proofs.Ytfjngecgfmlnfaa
