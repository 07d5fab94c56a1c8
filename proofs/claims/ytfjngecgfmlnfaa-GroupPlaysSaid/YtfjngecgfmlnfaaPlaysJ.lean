/- What a table of groups keeps, call by call (plain). The program's table and the reference's list, plain: what they have in common. droverlaw10.same; what keeps the two tables apart. -/
import Derived.Test.YtfjngecgfmlnfaaGroupY
import Derived.Test.YtfjngecgfmlnfaaPlaysK
namespace Go.Proofs.Ytfjngecgfmlnfaa
section
open Go.RowKit Go.Maps
set_option linter.unusedVariables false
set_option linter.unusedSimpArgs false

abbrev coresG (g : Group) : List Core := g.fBuckets.map coreB
/-- What a table keeps. -/
structure TabI (l : List (Int × Group)) (room : Int) : Prop where
  ok : TabOk l
  nodup : (l.map (·.1)).Nodup
  ids : ∀ p ∈ l, p.1 = p.2.fID
  whole : ∀ p ∈ l, ∀ n ∈ leadsF (coresG p.2), (lookL l n).isSome = true
  rank : ∃ r : Int → Nat, ∀ p ∈ l, ∀ n ∈ leadsF (coresG p.2), r n < r p.1
  len : (l.length : Int) ≤ room
theorem TabI.nil {room : Int} (h : 1 ≤ room) : TabI [] room := ⟨⟨by simp, by simp⟩, by simp, by simp, by simp, ⟨fun _ => 0, by simp⟩, by simp; omega⟩
theorem lookL_append {α β : Type} [DecidableEq α] (l m : List (α × β)) (x : α) : lookL (l ++ m) x = (lookL l x).or (lookL m x) := by
  unfold lookL
  rw [List.find?_append]
  cases l.find? fun p => decide (p.1 = x) <;> rfl
theorem lookL_one {α β : Type} [DecidableEq α] (x : α) (y : β) (n : α) : lookL [(x, y)] n = if x = n then some y else none := by
  unfold lookL
  simp only [List.find?_cons, List.find?_nil]
  by_cases h : x = n <;> simp [h]
theorem lookL_isSome {α β : Type} [DecidableEq α] {l : List (α × β)} {x : α} : (lookL l x).isSome = true ↔ x ∈ l.map (·.1) := by
  constructor
  · intro h
    obtain ⟨y, hy⟩ := Option.isSome_iff_exists.1 h
    exact List.mem_map.2 ⟨_, lookL_mem hy, rfl⟩
  · intro h
    obtain ⟨p, hp, rfl⟩ := List.mem_map.1 h
    cases hq : lookL l p.1 with
    | some y => rfl
    | none => exact absurd rfl (lookL_none.1 hq p hp)
theorem lookL_of_mem {α β : Type} [DecidableEq α] {l : List (α × β)} (hn : (l.map (·.1)).Nodup) {p : α × β} (h : p ∈ l) : lookL l p.1 = some p.2 := by
  obtain ⟨i, hi, rfl⟩ := List.getElem_of_mem h
  exact lookL_some hi rfl hn
theorem next_of_mem {l : List (Int × Group)} (hn : (l.map (·.1)).Nodup) {p : Int × Group} (h : p ∈ l) : nextF l p.1 = leadsF (coresG p.2) := by
  unfold nextF getG
  rw [lookL_of_mem hn h]
  rfl
theorem keys_put {α β : Type} [DecidableEq α] {l : List (α × β)} {x : α} {y : β} (h : (lookL l x).isSome = true) : (putL l x y).map (·.1) = l.map (·.1) := by
  unfold putL
  rw [if_neg (by intro e; rw [e] at h; cases h), List.map_map]
  refine List.map_congr_left fun p _ => ?_
  simp only [Function.comp]
  split
  · rename_i h; exact h.symm
  · rfl
theorem putL_mem_old {α β : Type} [DecidableEq α] {l : List (α × β)} {x : α} {y : β} (hs : (lookL l x).isSome = true) {p : α × β} (h : p ∈ putL l x y) : (p ∈ l ∧ p.1 ≠ x) ∨ p = (x, y) := by
  unfold putL at h
  rw [if_neg (by intro e; rw [e] at hs; cases hs)] at h
  obtain ⟨q, hq, rfl⟩ := List.mem_map.1 h
  split
  · exact .inr rfl
  · rename_i hne; exact .inl ⟨hq, hne⟩
theorem max_bound (r : Int → Nat) (L : List Int) : ∃ M, ∀ v ∈ L, r v < M := by
  induction L with
  | nil => exact ⟨0, by simp⟩
  | cons x L ih =>
    obtain ⟨M, hM⟩ := ih
    refine ⟨max M (r x + 1), fun v hv => ?_⟩
    rcases List.mem_cons.1 hv with rfl | hv
    · omega
    · have := hM v hv; omega
theorem coreG_eq {g g' : Group} (h : coreG g' = coreG g) : g'.fID = g.fID ∧ g'.fKind = g.fKind ∧ coresG g' = coresG g := by
  simpa [coreG, coresG] using h

theorem TabI.add {l : List (Int × Group)} {room : Int} (h : TabI l room) (hr : room ≤ 64) {g g' : Group} (h0 : addF l room g.fID g.fKind (coresG g) = 0) (hc : coreG g' = coreG g) : TabI (l ++ [(g.fID, g')]) room := by
  obtain ⟨e1, e2, e3⟩ := coreG_eq hc
  unfold addF at h0
  split at h0
  · rename_i hw; exact absurd h0 hw
  · rename_i hw
    have hw0 : wrongF g.fID g.fKind (coresG g) = 0 := by omega
    split at h0
    · cases h0
    · rename_i hl
      have hno : lookL l g.fID = none := by simpa using hl
      split at h0
      · cases h0
      · rename_i hwh
        have hwh' : wholeF l (coresG g) = true := by simpa using hwh
        split at h0
        · cases h0
        · rename_i hlen
          have hnk : ∀ p ∈ l, p.1 ≠ g.fID := fun p hp => lookL_none.1 hno p hp
          unfold wholeF at hwh'
          rw [List.all_eq_true] at hwh'
          have hin : ∀ n, (lookL l n).isSome = true → n ≠ g.fID := fun n hn e => by rw [e, hno] at hn; cases hn
          refine ⟨⟨by simp; omega, fun p hp => ?_⟩, ?_, fun p hp => ?_, fun p hp n hn => ?_, ?_, by simp; omega⟩
          · rcases List.mem_append.1 hp with hp | hp
            · exact h.ok.2 p hp
            · obtain rfl := List.mem_singleton.1 hp
              simp only [e1, e2]
              unfold coresG at e3
              rw [e3]
              exact hw0
          · rw [List.map_append, List.nodup_append]
            refine ⟨h.nodup, by simp, fun a ha b hb => ?_⟩
            obtain ⟨p, hp, rfl⟩ := List.mem_map.1 ha
            simp at hb
            rw [hb]
            exact hnk p hp
          · rcases List.mem_append.1 hp with hp | hp
            · exact h.ids p hp
            · obtain rfl := List.mem_singleton.1 hp
              exact e1.symm
          · rw [lookL_append]
            rcases List.mem_append.1 hp with hp | hp
            · have := h.whole p hp n hn
              cases hq : lookL l n with
              | none => rw [hq] at this; cases this
              | some y => rfl
            · obtain rfl := List.mem_singleton.1 hp
              rw [show coresG ((g.fID, g').2) = coresG g from e3] at hn
              have := hwh' n hn
              cases hq : lookL l n with
              | none => rw [hq] at this; cases this
              | some y => rfl
          · obtain ⟨r, hrk⟩ := h.rank
            obtain ⟨M, hM⟩ := max_bound r (leadsF (coresG g))
            refine ⟨fun n => if n = g.fID then M else r n, fun p hp n hn => ?_⟩
            rcases List.mem_append.1 hp with hp | hp
            · have h1 := h.whole p hp n hn
              simp only
              rw [if_neg (hin n h1), if_neg (hnk p hp)]
              exact hrk p hp n hn
            · obtain rfl := List.mem_singleton.1 hp
              rw [show coresG ((g.fID, g').2) = coresG g from e3] at hn
              simp only
              rw [if_neg (hin n (hwh' n hn)), if_pos trivial]
              exact hM n hn
theorem TabI.modify {l : List (Int × Group)} {room : Int} (h : TabI l room) {g g' : Group} (h0 : modF l g.fID g.fKind (coresG g) = 0) (hc : coreG g' = coreG g) : TabI (putL l g.fID g') room := by
  obtain ⟨e1, e2, e3⟩ := coreG_eq hc
  unfold modF at h0
  split at h0
  · rename_i hw; exact absurd h0 hw
  · rename_i hw
    have hw0 : wrongF g.fID g.fKind (coresG g) = 0 := by omega
    split at h0
    · cases h0
    · rename_i hl
      have his : (lookL l g.fID).isSome = true := by cases hq : (lookL l g.fID).isSome with | true => rfl | false => exact absurd hq hl
      split at h0
      · cases h0
      · rename_i hwh
        have hwh' : wholeF l (coresG g) = true := by simpa using hwh
        split at h0
        · cases h0
        · rename_i hcm
          unfold wholeF at hwh'
          rw [List.all_eq_true] at hwh'
          have hkeys := keys_put (y := g') his
          have hlook : ∀ n, (lookL l n).isSome = true → (lookL (putL l g.fID g') n).isSome = true := fun n hn => by
            rw [lookL_isSome, hkeys, ← lookL_isSome]; exact hn
          have hlen : (putL l g.fID g').length = l.length := by
            have := congrArg List.length hkeys
            simpa using this
          refine ⟨⟨by rw [hlen]; exact h.ok.1, fun p hp => ?_⟩, by rw [hkeys]; exact h.nodup, fun p hp => ?_, fun p hp n hn => ?_, ?_, by rw [hlen]; exact h.len⟩
          · rcases putL_mem_old his hp with ⟨hp, _⟩ | rfl
            · exact h.ok.2 p hp
            · simp only [e1, e2]
              unfold coresG at e3
              rw [e3]
              exact hw0
          · rcases putL_mem_old his hp with ⟨hp, _⟩ | rfl
            · exact h.ids p hp
            · exact e1.symm
          · rcases putL_mem_old his hp with ⟨hp, _⟩ | rfl
            · exact hlook n (h.whole p hp n hn)
            · rw [show coresG ((g.fID, g').2) = coresG g from e3] at hn
              exact hlook n (hwh' n hn)
          · obtain ⟨r, hrk⟩ := h.rank
            obtain ⟨M, hM⟩ := max_bound r (leadsF (coresG g))
            classical
            refine ⟨fun n => if Comes (nextF l) n g.fID then r n + M + 1 else r n, fun p hp n hn => ?_⟩
            rcases putL_mem_old his hp with ⟨hp, hne⟩ | rfl
            · have h1 := hrk p hp n hn
              have hst : Comes (nextF l) n g.fID → Comes (nextF l) p.1 g.fID := fun hcn => .step (by rw [next_of_mem h.nodup hp]; exact hn) hcn
              simp only
              by_cases hcn : Comes (nextF l) n g.fID
              · rw [if_pos hcn, if_pos (hst hcn)]; omega
              · rw [if_neg hcn]
                split <;> omega
            · rw [show coresG ((g.fID, g').2) = coresG g from e3] at hn
              have hncn : ¬ Comes (nextF l) n g.fID := fun hcn => hcm ⟨n, hn, hcn⟩
              have := hM n hn
              simp only
              rw [if_neg hncn, if_pos (.refl _)]
              omega
theorem TabI.delete {l : List (Int × Group)} {room : Int} (h : TabI l room) {id : Int} (h0 : delF l id = 0) : TabI (delL l id) room := by
  unfold delF at h0
  split at h0
  · cases h0
  · split at h0
    · cases h0
    · rename_i hled
      have hsub : (delL l id).Sublist l := List.filter_sublist
      have hlen : (delL l id).length ≤ l.length := hsub.length_le
      refine ⟨⟨Nat.le_trans hlen h.ok.1, fun p hp => h.ok.2 p (delL_mem hp).1⟩, (hsub.map _).nodup h.nodup, fun p hp => h.ids p (delL_mem hp).1, fun p hp n hn => ?_, ?_, by have := h.len; omega⟩
      · have hp1 := (delL_mem hp).1
        have h1 := h.whole p hp1 n hn
        rw [delL_look, if_neg]
        · exact h1
        · rintro rfl
          refine hled (List.any_eq_true.2 ⟨p, hp1, ?_⟩)
          unfold ledB
          exact List.contains_iff_mem.2 hn
      · obtain ⟨r, hrk⟩ := h.rank
        exact ⟨r, fun p hp => hrk p (delL_mem hp).1⟩
end
section
open Go.RowKit Go.Maps
set_option linter.unusedVariables false
set_option linter.unusedSimpArgs false

/-- The two tables. -/
structure RelT (l : List (Int × Group)) (L : List Group) : Prop where
  rise : (L.map Group.fID).Pairwise (· < ·)
  same : ∀ c, c ∈ L.map coreG ↔ c ∈ l.map fun p => coreG p.2
theorem RelT.nil : RelT [] [] := ⟨by simp, by simp⟩
variable {l : List (Int × Group)} {L : List Group} {room : Int}
theorem coreG_id {g g' : Group} (h : coreG g = coreG g') : g.fID = g'.fID := (coreG_eq h).1
theorem RelT.uniq (h : RelT l L) {g g' : Group} (hg : g ∈ L) (hg' : g' ∈ L) (he : g.fID = g'.fID) : g = g' := by
  have h1 := h.rise
  rw [List.pairwise_map] at h1
  obtain ⟨i, hi, rfl⟩ := List.getElem_of_mem hg
  obtain ⟨j, hj, rfl⟩ := List.getElem_of_mem hg'
  rw [List.pairwise_iff_getElem] at h1
  rcases Nat.lt_trichotomy i j with hij | hij | hij
  · have := h1 i j hi hj hij; omega
  · subst hij; rfl
  · have := h1 j i hj hi hij; omega
theorem RelT.inL (h : RelT l L) (hI : TabI l room) (id : Int) : inL L id = (lookL l id).isSome := by
  rw [Bool.eq_iff_iff, lookL_isSome]
  unfold Go.Proofs.Ytfjngecgfmlnfaa.inL
  simp only [List.any_eq_true, decide_eq_true_eq]
  constructor
  · rintro ⟨g, hg, rfl⟩
    obtain ⟨p, hp, he⟩ := List.mem_map.1 ((h.same _).1 (List.mem_map_of_mem hg))
    exact List.mem_map.2 ⟨p, hp, by rw [hI.ids p hp]; exact coreG_id he⟩
  · intro hm
    obtain ⟨p, hp, rfl⟩ := List.mem_map.1 hm
    obtain ⟨g, hg, he⟩ := List.mem_map.1 ((h.same (coreG p.2)).2 (List.mem_map.2 ⟨p, hp, rfl⟩))
    exact ⟨g, hg, by rw [coreG_id he, hI.ids p hp]⟩
theorem RelT.get (h : RelT l L) (hI : TabI l room) (id : Int) : coreG (getR L id) = coreG (getG l id) := by
  cases hin : Go.Proofs.Ytfjngecgfmlnfaa.inL L id with
  | false =>
    rw [(inL_none hin).2]
    have : (lookL l id).isSome = false := by rw [← h.inL hI]; exact hin
    unfold getG
    have h2 : lookL l id = none := by simpa using this
    rw [h2]; rfl
  | true =>
    obtain ⟨k, hk, _, hid, hg, _⟩ := inL_at hin
    obtain ⟨p, hp, he⟩ := List.mem_map.1 ((h.same _).1 (List.mem_map_of_mem (List.getElem_mem hk)))
    have hpid : p.1 = id := by rw [hI.ids p hp, coreG_id he, hid]
    have h2 : lookL l id = some p.2 := by rw [← hpid]; exact lookL_of_mem hI.nodup hp
    unfold getG
    rw [hg, h2]
    exact he.symm
theorem RelT.next (h : RelT l L) (hI : TabI l room) : nextR L = nextF l := by
  funext n
  have := (coreG_eq (h.get hI n)).2.2
  unfold nextR nextF
  unfold coresG at this
  rw [this]
theorem RelT.whole (h : RelT l L) (hI : TabI l room) (c : List Core) : wholeR L c = wholeF l c := by
  unfold wholeR wholeF
  congr 1
  funext n
  exact h.inL hI n
theorem RelT.refOk (h : RelT l L) (hI : TabI l room) : RefOk L := fun g hg => by
  obtain ⟨p, hp, he⟩ := List.mem_map.1 ((h.same _).1 (List.mem_map_of_mem hg))
  obtain ⟨e1, e2, e3⟩ := coreG_eq he
  have := hI.ok.2 p hp
  unfold coresG at e3
  rw [e1, e2, e3] at this
  exact this
theorem RelT.wholeL (h : RelT l L) (hI : TabI l room) : ∀ g ∈ L, ∀ n ∈ leadsF (g.fBuckets.map coreB), Go.Proofs.Ytfjngecgfmlnfaa.inL L n = true := fun g hg n hn => by
  obtain ⟨p, hp, he⟩ := List.mem_map.1 ((h.same _).1 (List.mem_map_of_mem hg))
  obtain ⟨_, _, e3⟩ := coreG_eq he
  unfold coresG at e3
  rw [h.inL hI]
  exact hI.whole p hp n (by unfold coresG; rw [e3]; exact hn)
theorem listF_mem (hI : TabI l room) (c : Int × Int × List Core) : c ∈ listF l ↔ c ∈ l.map fun p => coreG p.2 := by
  unfold listF
  constructor
  · intro h
    obtain ⟨id, hid, rfl⟩ := List.mem_map.1 h
    obtain ⟨p, hp, rfl⟩ := List.mem_map.1 ((List.mergeSort_perm _ _).mem_iff.1 hid)
    refine List.mem_map.2 ⟨p, hp, ?_⟩
    unfold getG
    rw [lookL_of_mem hI.nodup hp]; rfl
  · intro h
    obtain ⟨p, hp, rfl⟩ := List.mem_map.1 h
    refine List.mem_map.2 ⟨p.1, (List.mergeSort_perm _ _).mem_iff.2 (List.mem_map_of_mem hp), ?_⟩
    unfold getG
    rw [lookL_of_mem hI.nodup hp]; rfl
theorem listF_rise (hI : TabI l room) : (listF l).Pairwise (fun a b => a.1 < b.1) := by
  unfold listF
  have hids : ∀ id ∈ sortI (l.map (·.1)), (coreG (getG l id)).1 = id := fun id hid => by
    obtain ⟨p, hp, rfl⟩ := List.mem_map.1 ((List.mergeSort_perm _ _).mem_iff.1 hid)
    unfold getG
    rw [lookL_of_mem hI.nodup hp]
    exact (hI.ids p hp).symm
  rw [List.pairwise_map]
  have h1 : (sortI (l.map (·.1))).Pairwise (fun x y => decide (x ≤ y) = true) := List.pairwise_mergeSort (le := fun x y : Int => decide (x ≤ y)) (fun a b c h1 h2 => by simp at *; omega) (fun a b => by simp; omega) _
  have h2 : (sortI (l.map (·.1))).Nodup := (List.mergeSort_perm _ _).nodup_iff.2 hI.nodup
  refine (h1.and h2).imp_of_mem fun {a b} ha hb ⟨hle, hne⟩ => ?_
  rw [hids a ha, hids b hb]
  have := of_decide_eq_true hle
  omega
theorem RelT.list (h : RelT l L) (hI : TabI l room) : L.map coreG = listF l := by
  have h1 : (L.map coreG).Pairwise (fun a b => a.1 < b.1) := by
    have := h.rise
    rw [List.pairwise_map] at this ⊢
    exact this.imp fun h => h
  have h2 := listF_rise hI
  have nd : ∀ {M : List (Int × Int × List Core)}, M.Pairwise (fun a b => a.1 < b.1) → M.Nodup := fun hM => hM.imp fun {a b} hab e => by subst e; exact Int.lt_irrefl _ hab
  have hp : (L.map coreG).Perm (listF l) := (List.perm_ext_iff_of_nodup (nd h1) (nd h2)).2 fun c => by rw [h.same, listF_mem hI]
  exact List.Perm.eq_of_pairwise (fun a b _ _ hab hba => absurd hab (by have : b.1 < a.1 := hba; omega)) h1 h2 hp
theorem RelT.len (h : RelT l L) (hI : TabI l room) : L.length = l.length := by
  have := congrArg List.length (h.list hI)
  simpa [listF, sortI_len] using this
theorem RelT.addEq (h : RelT l L) (hI : TabI l room) (id kind : Int) (c : List Core) : addR L room id kind c = addF l room id kind c := by
  unfold addR addF
  rw [h.inL hI, h.whole hI, h.len hI]
theorem RelT.modEq (h : RelT l L) (hI : TabI l room) (id kind : Int) (c : List Core) : modR L id kind c = modF l id kind c := by
  unfold modR modF
  rw [h.inL hI, h.whole hI, h.next hI]
theorem RelT.delEq (h : RelT l L) (hI : TabI l room) (id : Int) : delR L id = delF l id := by
  unfold delR delF
  rw [h.inL hI]
  have : L.any (ledR id) = l.any (ledB id) := by
    rw [Bool.eq_iff_iff, List.any_eq_true, List.any_eq_true]
    constructor
    · rintro ⟨g, hg, hh⟩
      obtain ⟨p, hp, he⟩ := List.mem_map.1 ((h.same _).1 (List.mem_map_of_mem hg))
      have e3 := (coreG_eq he).2.2
      refine ⟨p, hp, ?_⟩
      unfold ledB
      unfold ledR at hh
      unfold coresG at e3
      rw [e3]; exact hh
    · rintro ⟨p, hp, hh⟩
      obtain ⟨g, hg, he⟩ := List.mem_map.1 ((h.same (coreG p.2)).2 (List.mem_map.2 ⟨p, hp, rfl⟩))
      have e3 := (coreG_eq he).2.2
      refine ⟨g, hg, ?_⟩
      unfold ledR
      unfold ledB at hh
      unfold coresG at e3
      rw [e3]; exact hh
  rw [this]
theorem insF_rise {g : Group} : ∀ {L : List Group}, (L.map Group.fID).Pairwise (· < ·) → (∀ x ∈ L, x.fID ≠ g.fID) → ((insF g L).map Group.fID).Pairwise (· < ·)
  | [], _, _ => by simp [insF]
  | x :: L, h, hn => by
    rw [List.map_cons, List.pairwise_cons] at h
    rw [insF]
    split
    · rename_i hlt
      rw [List.map_cons, List.map_cons, List.pairwise_cons, List.pairwise_cons]
      refine ⟨fun y hy => ?_, h⟩
      rcases List.mem_cons.1 hy with rfl | hy
      · exact hlt
      · have := h.1 y hy; omega
    · rename_i hnl
      have hx := hn x (by simp)
      rw [List.map_cons, List.pairwise_cons]
      refine ⟨fun y hy => ?_, insF_rise h.2 fun y hy => hn y (by simp [hy])⟩
      obtain ⟨z, hz, rfl⟩ := List.mem_map.1 hy
      rcases insF_mem.1 hz with rfl | hz
      · omega
      · exact h.1 _ (List.mem_map_of_mem hz)
theorem RelT.add (h : RelT l L) (hI : TabI l room) {g g' : Group} (h0 : addF l room g.fID g.fKind (g.fBuckets.map coreB) = 0) (hc : coreG g' = coreG g) : RelT (l ++ [(g.fID, g')]) (insF g L) := by
  have hno : lookL l g.fID = none := by
    unfold addF at h0
    split at h0
    · rename_i hw; exact absurd h0 hw
    · split at h0
      · cases h0
      · rename_i hl; simpa using hl
  have hin : Go.Proofs.Ytfjngecgfmlnfaa.inL L g.fID = false := by rw [h.inL hI, hno]; rfl
  refine ⟨insF_rise h.rise fun x hx e => ?_, fun c => ?_⟩
  · unfold Go.Proofs.Ytfjngecgfmlnfaa.inL at hin
    have := List.any_eq_false.1 hin x hx
    simp [e] at this
  · simp only [List.map_append, List.mem_append, ← h.same, List.map_cons, List.map_nil, List.mem_singleton, hc]
    simp only [List.mem_map]
    constructor
    · rintro ⟨x, hx, rfl⟩
      rcases insF_mem.1 hx with rfl | hx
      · exact .inr rfl
      · exact .inl ⟨x, hx, rfl⟩
    · rintro (⟨x, hx, rfl⟩ | rfl)
      · exact ⟨x, insF_mem.2 (.inr hx), rfl⟩
      · exact ⟨g, insF_mem.2 (.inl rfl), rfl⟩
theorem RelT.modify (h : RelT l L) (hI : TabI l room) {g g' : Group} (hin : Go.Proofs.Ytfjngecgfmlnfaa.inL L g.fID = true) (hc : coreG g' = coreG g) : RelT (putL l g.fID g') (L.set (rAtF L g.fID).toNat g) := by
  obtain ⟨k, hk, hat, hid, _, _⟩ := inL_at hin
  have his : (lookL l g.fID).isSome = true := by rw [← h.inL hI]; exact hin
  rw [hat, Int.toNat_natCast]
  refine ⟨?_, fun c => ?_⟩
  · have : (L.set k g).map Group.fID = L.map Group.fID := by
      rw [List.map_set]
      have e : g.fID = (L.map Group.fID)[k]'(by simpa using hk) := by rw [List.getElem_map, hid]
      rw [e, List.set_getElem_self]
    rw [this]; exact h.rise
  · have hset : ∀ x, x ∈ L.set k g ↔ x = g ∨ (x ∈ L ∧ x.fID ≠ g.fID) := fun x => by
      constructor
      · intro hx
        obtain ⟨j, hj, rfl⟩ := List.getElem_of_mem hx
        rw [List.length_set] at hj
        rw [List.getElem_set]
        split
        · exact .inl rfl
        · rename_i hne
          refine .inr ⟨List.getElem_mem hj, fun e => ?_⟩
          have h1 := h.rise
          rw [List.pairwise_map, List.pairwise_iff_getElem] at h1
          rcases Nat.lt_or_gt_of_ne hne with hlt | hlt
          · have := h1 k j hk hj hlt; omega
          · have := h1 j k hj hk hlt; omega
      · rintro (rfl | ⟨hx, hne⟩)
        · exact List.mem_set hk _
        · obtain ⟨j, hj, rfl⟩ := List.getElem_of_mem hx
          have hjk : k ≠ j := fun e => hne (by subst e; exact hid)
          rw [show L[j] = (L.set k g)[j]'(by simpa using hj) by rw [List.getElem_set, if_neg hjk]]
          exact List.getElem_mem _
    have hput : ∀ p, p ∈ putL l g.fID g' ↔ p = (g.fID, g') ∨ (p ∈ l ∧ p.1 ≠ g.fID) := fun p => by
      constructor
      · intro hp
        rcases putL_mem_old his hp with hp | rfl
        · exact .inr hp
        · exact .inl rfl
      · intro hp
        unfold putL
        rw [if_neg (by intro e; rw [e] at his; cases his)]
        rcases hp with rfl | ⟨hp, hne⟩
        · obtain ⟨q, hq, hqe⟩ := List.mem_map.1 (lookL_isSome.1 his)
          exact List.mem_map.2 ⟨q, hq, by rw [if_pos hqe]⟩
        · exact List.mem_map.2 ⟨p, hp, by rw [if_neg hne]⟩
    simp only [List.mem_map, hset, hput]
    constructor
    · rintro ⟨x, rfl | ⟨hx, hne⟩, rfl⟩
      · exact ⟨_, .inl rfl, hc⟩
      · obtain ⟨p, hp, he⟩ := List.mem_map.1 ((h.same _).1 (List.mem_map_of_mem hx))
        exact ⟨p, .inr ⟨hp, fun e => hne (by rw [← coreG_id he, ← hI.ids p hp, e])⟩, he⟩
    · rintro ⟨p, rfl | ⟨hp, hne⟩, rfl⟩
      · exact ⟨g, .inl rfl, hc.symm⟩
      · obtain ⟨x, hx, he⟩ := List.mem_map.1 ((h.same (coreG p.2)).2 (List.mem_map.2 ⟨p, hp, rfl⟩))
        exact ⟨x, .inr ⟨hx, fun e => hne (by rw [hI.ids p hp, ← coreG_id he, e])⟩, he⟩
theorem RelT.delete (h : RelT l L) (hI : TabI l room) {id : Int} (hin : Go.Proofs.Ytfjngecgfmlnfaa.inL L id = true) : RelT (delL l id) (L.eraseIdx (rAtF L id).toNat) := by
  obtain ⟨k, hk, hat, hid, _, _⟩ := inL_at hin
  rw [hat, Int.toNat_natCast]
  refine ⟨?_, fun c => ?_⟩
  · exact h.rise.sublist ((List.eraseIdx_sublist L k).map _)
  · have hers : ∀ x, x ∈ L.eraseIdx k ↔ x ∈ L ∧ x.fID ≠ id := fun x => by
      constructor
      · intro hx
        refine ⟨List.mem_of_mem_eraseIdx hx, fun e => ?_⟩
        have he := h.uniq (List.mem_of_mem_eraseIdx hx) (List.getElem_mem hk) (by rw [e, hid])
        have hnd : L.Nodup := by
          have h1 := h.rise
          rw [List.pairwise_map] at h1
          exact h1.imp fun {a b} hab e => by subst e; exact Int.lt_irrefl _ hab
        rw [he] at hx
        obtain ⟨j, hj, hje⟩ := List.getElem_of_mem hx
        rw [List.getElem_eraseIdx] at hje
        split at hje
        · have := (List.getElem_inj hnd).1 hje; omega
        · have := (List.getElem_inj hnd).1 hje; omega
      · rintro ⟨hx, hne⟩
        rcases mem_erase hk hx with h1 | h1
        · exact h1
        · exact absurd (by rw [h1, hid]) hne
    have hdel : ∀ p, p ∈ delL l id ↔ p ∈ l ∧ p.1 ≠ id := fun p => by
      unfold delL; simp
    simp only [List.mem_map, hers, hdel]
    constructor
    · rintro ⟨x, ⟨hx, hne⟩, rfl⟩
      obtain ⟨p, hp, he⟩ := List.mem_map.1 ((h.same _).1 (List.mem_map_of_mem hx))
      exact ⟨p, ⟨hp, fun e => hne (by rw [← coreG_id he, ← hI.ids p hp, e])⟩, he⟩
    · rintro ⟨p, ⟨hp, hne⟩, rfl⟩
      obtain ⟨x, hx, he⟩ := List.mem_map.1 ((h.same (coreG p.2)).2 (List.mem_map.2 ⟨p, hp, rfl⟩))
      exact ⟨x, ⟨hx, fun e => hne (by rw [hI.ids p hp, ← coreG_id he, e])⟩, he⟩
end
section
open Go.RowKit Go.Maps Go.Deep
set_option linter.unusedVariables false
set_option linter.unusedSimpArgs false

set_option maxRecDepth 100000 in
set_option maxHeartbeats 8000000 in
theorem same_any (w : World) (va vb : Value) (A B : List Group) (hA : ReadL w 3 encGroup va A) (hB : ReadL w 3 encGroup vb B) (okA : ∀ g ∈ A, okGroup w g) (okB : ∀ g ∈ B, okGroup w g) (he : A.map coreG = B.map coreG) :
    Calls Try.prog 23 #[va, vb] w fun e w' => e = .returned (.bool true) ∧ Below w.heap.size w w' := by
  have hll : A.length = B.length := by simpa using congrArg List.length he
  have HS := Lib.hid (fun k (h1 : k < A.length) (h2 : k < B.length) W (hb : Below w.heap.size w W) => SameGroup_eq W A[k] B[k] (okGroup_below (okA _ (List.getElem_mem h1)) hb (Nat.le_refl _)) (okGroup_below (okB _ (List.getElem_mem h2)) hb (Nat.le_refl _)) (by
    have := congrArg (fun l => l[k]?) he
    simpa [List.getElem?_eq_getElem h1, List.getElem?_eq_getElem h2] using this))
  obtain ⟨aa, acap, hav, hacap, hamax, hac⟩ := hA
  obtain ⟨ba, bcap, hbv, hbcap, hbmax, hbc⟩ := hB
  subst hav hbv
  unfold maxLen at hamax hbmax
  have HAc := Lib.hid hac
  have HBc := Lib.hid hbc
  have HN := Lib.hid hll
  rw [← hll]
  rw [← hll] at hbcap
  have K : Hid (KR w.heap.size w [] w) := Lib.hid (KR.start (Below.refl _ _) (Nat.le_refl _))
  clear hac hbc he okA okB hll
  go_enter Try.func23, Try.ntmps23
  go_wp2_with fail
  go_loopw [5] (fun iv wr => ∃ k : Nat, k ≤ A.length ∧ iv = .int .i64 k ∧ Hid (KR w.heap.size w [] wr)) (fun iv _ => A.length - (intOf iv).toNat)
  case atStart => exact ⟨0, Nat.zero_le _, rfl, K⟩
  case round =>
    obtain ⟨k, hk, rfl, K⟩ := hrel
    by_cases hlt : k < A.length
    · have d2 : decide (k < A.length) = true := by simpa using hlt
      have hlt2 : k < B.length := by rw [← HN.out]; exact hlt
      rcases HAc.out with hnil | ⟨ab, aoff, rfl, hablt, hacell⟩
      · rw [hnil] at hlt; simp at hlt
      rcases HBc.out with hnil | ⟨bb, boff, rfl, hbblt, hbcell⟩
      · rw [hnil] at hlt2; simp at hlt2
      have RA := Lib.hid (fun W (hb : Below w.heap.size w W) => range_of hacell hb hablt k hlt)
      have RB := Lib.hid (fun W (hb : Below w.heap.size w W) => range_of hbcell hb hbblt k hlt2)
      have HS1 := Lib.hid (HS.out k hlt hlt2)
      clear hacell hbcell HS HAc HBc
      generalize A[k] = x at *
      generalize B[k] = y at *
      clear hlt2
      obtain ⟨xi, xk, xv, xb⟩ := x
      obtain ⟨yi, yk, yv, yb⟩ := y
      simp only [encGroup] at RA RB
      simp only [valGroup] at HS1
      haveI : Nonempty (Keep (KR w.heap.size w [])) := ⟨⟨_, K.out⟩⟩
      go_upto_region 6 with fail
      refine wp_region_keep2 (Cl := KR w.heap.size w []) (by kernel_rfl) (by kernel_rfl) K.out.drew ?_
      intro y' hy'
      clear hy' K
      repeat
        first
          | (refine wpQ2_rowk _ _ rfl _ (fun W h => run_loadVar_mid W ab (aoff + k * 3) 24 [.int .i64 xi, .int .i64 xk, xv] _ (RA.out W h.below) Try.underlying24 rfl (by kernel_rfl)) ?_ ?_
             · (go_simp; done))
          | (refine wpQ2_rowk _ _ rfl _ (fun W h => run_loadVar_mid W bb (boff + k * 3) 24 [.int .i64 yi, .int .i64 yk, yv] _ (RB.out W h.below) Try.underlying24 rfl (by kernel_rfl)) ?_ ?_
             · (go_simp; done))
          | (refine wpQ2_step (fun K hK => ?_)
             go_simp
             first
               | (refine hK _ ?_; clear hK K)
               | (apply Exists.intro
                  refine ⟨fun _ => ?_, hK _ ?_⟩
                  (rw [if_neg (by omega)]; exact ⟨rfl, rfl⟩)
                  clear hK K)
               | (apply Exists.intro
                  refine ⟨fun _ => ?_, hK _ ?_⟩
                  ((with_reducible refine Calls.keep ((fun w_ (h_ : KR w.heap.size w [] w_) => HS1.out w_ h_.below) _ (Keep.h _)) ?_); exact (fun w' hb => KR.call (Keep.h _) hb))
                  clear hK K))
      refine wpQ2_nil ?_
      intro Wk Kk
      have K := Lib.hid Kk
      clear Kk
      go_wp2_with fail
      go_roundw
      case rel => exact ⟨k + 1, by omega, by go_num, K⟩
      case measure => simp [intOf]; omega
    · have d2 : decide (k < A.length) = false := by simpa using hlt
      go_wp2_with fail
      go_ret
      exact ⟨rfl, K.out.below⟩

/-- A block that is a map is no block of cells. -/
theorem MapL.ne_cells {α β : Type} {w : World} {mb g : Nat} {ke : α → Value} {ve : β → Value} {l : List (α × β)} (h : MapL w mb ke ve l) {cs : Array Value} {T : TypeId} {fr : Nat × Nat} (hg : w.heap[g]? = some (.cells cs T fr)) : mb ≠ g := by
  rintro rfl
  obtain ⟨es, c, h1, _⟩ := h
  rw [hg] at h1
  cases h1
theorem OwnL.cellsAt {α : Type} {w : World} {B size : Nat} {enc : α → List Value} {v : Value} {xs : List α} {e : TypeId} (h : OwnL w B e size enc v xs) {k : Nat} (hk : v.ownBlock = some k) : ∃ cur, w.heap[k]? = some (.cells cur e (0, 0)) := by
  rcases h.2 with ⟨rfl, _⟩ | ⟨g, cap, cur, rfl, _, hg, _⟩
  · cases hk
  · obtain rfl : g = k := by simpa [Value.ownBlock] using hk
    exact ⟨cur, hg⟩
/-- All blocks but those of X are as they were. -/
def Agree (X : Nat → Prop) (w W : World) : Prop := w.heap.size ≤ W.heap.size ∧ ∀ j, j < w.heap.size → ¬ X j → W.heap[j]? = w.heap[j]?
theorem ReadX.agree {α : Type} {w W : World} {m size : Nat} {enc : α → List Value} {v : Value} {xs : List α} (h : ReadX w m size enc v xs) {X : Nat → Prop} (ha : Agree X w W) (hX : ∀ j, X j → j ≤ m) {m' : Nat} (hm : m' ≤ m) : ReadX W m' size enc v xs := by
  obtain ⟨a, cap, hv, h1, h2, h3⟩ := h
  refine ⟨a, cap, hv, h1, h2, h3.imp id ?_⟩
  rintro ⟨b, off, hb, hlt, hgt, hc⟩
  refine ⟨b, off, hb, Nat.lt_of_lt_of_le hlt ha.1, by omega, fun i j u hi hu => ?_⟩
  rw [World.cell?_of_block (ha.2 b hlt (fun hx => by have := hX b hx; omega))]
  exact hc i j u hi hu
theorem okGX.agree {w W : World} {m : Nat} {g : Group} (h : okGX w m g) {X : Nat → Prop} (ha : Agree X w W) (hX : ∀ j, X j → j ≤ m) {m' : Nat} (hm : m' ≤ m) : okGX W m' g :=
  ⟨h.1, h.2.1, h.2.2.1.agree ha hX hm, fun b hb => ⟨(h.2.2.2 b hb).1, (h.2.2.2 b hb).2.1, (h.2.2.2 b hb).2.2.1.agree ha hX hm, (h.2.2.2 b hb).2.2.2⟩⟩
/-- The blocks that the two tables write. -/
def XB (mb rb : Nat) (lv : Value) (j : Nat) : Prop := j = mb ∨ j = rb ∨ some j = lv.ownBlock
/-- The program's groups lie elsewhere. -/
def TabStay (w : World) (mb rb : Nat) (lv : Value) (l : List (Int × Group)) : Prop := ∀ p ∈ l, ∀ W, Agree (XB mb rb lv) w W → okGX W mb p.2
theorem TabStay.nil (w : World) (mb rb : Nat) (lv : Value) : TabStay w mb rb lv [] := by intro p hp; cases hp
/-- A step that changes blocks of X alone, and new ones. -/
theorem TabStay.step {w w' : World} {mb rb : Nat} {lv lv' : Value} {l : List (Int × Group)} (h : TabStay w mb rb lv l) (ha : Agree (XB mb rb lv) w w') (hn : ∀ k, lv'.ownBlock = some k → some k = lv.ownBlock ∨ w.heap.size ≤ k) : TabStay w' mb rb lv' l := by
  intro p hp W hW
  refine h p hp W ⟨Nat.le_trans ha.1 hW.1, fun j hj hx => ?_⟩
  refine (hW.2 j (Nat.lt_of_lt_of_le hj ha.1) ?_).trans (ha.2 j hj hx)
  rintro (rfl | rfl | he)
  · exact hx (.inl rfl)
  · exact hx (.inr (.inl rfl))
  · rcases hn j he.symm with h1 | h1
    · exact hx (.inr (.inr h1))
    · omega
theorem agree_grown {w w' : World} {mb rb : Nat} {lv : Value} (h : w.grownBy w' (some mb)) : Agree (XB mb rb lv) w w' := ⟨h.size, fun j hj hx => h.block j hj (fun e => hx (.inl (by simpa using e)))⟩
theorem agree_rb {w w' : World} {mb rb : Nat} {lv : Value} (h : Bar rb w w') : Agree (XB mb rb lv) w w' := ⟨h.size, fun j hj hx => h.block j hj (fun e => hx (.inr (.inl e)))⟩
theorem agree_row {w w' : World} {mb rb k : Nat} {lv : Value} (hk : lv.ownBlock = some k) (h : Bar k w w') : Agree (XB mb rb lv) w w' := ⟨h.size, fun j hj hx => h.block j hj (fun e => hx (.inr (.inr (by rw [hk, e]))))⟩
theorem agree_below {w w' : World} {X : Nat → Prop} (h : Below w.heap.size w w') : Agree X w w' := ⟨h.size, fun j hj _ => h.block j hj⟩
/-- A group that is put: it lies in new blocks. -/
theorem TabStay.put {w w' : World} {mb rb : Nat} {lv : Value} {l l' : List (Int × Group)} (h : TabStay w' mb rb lv l) {g' : Group} (hg : okGX w' (w.heap.size - 1) g') (hm : mb < w.heap.size) (hr : rb < w.heap.size) (hk : ∀ k, lv.ownBlock = some k → k < w.heap.size) (hl : ∀ p ∈ l', p ∈ l ∨ p.2 = g') : TabStay w' mb rb lv l' := by
  intro p hp W hW
  rcases hl p hp with h1 | h1
  · exact h p h1 W hW
  · rw [h1]
    refine hg.agree hW (fun j hj => ?_) (by omega)
    rcases hj with rfl | rfl | he
    · omega
    · omega
    · have := hk j he.symm; omega
/-- The program's table behind a call of the reference. -/
theorem TableW.agree {w w' w0 : World} {tb mb rb : Nat} {room : Int} {lv : Value} {l : List (Int × Group)} {L : List Group} (h : TableW w tb mb room l) (hR : RefW w w0 rb room lv L) (hs : TabStay w mb rb lv l) (hm : w0.heap.size ≤ mb) (k : Nat) (hk : k = rb ∨ some k = lv.ownBlock) (hb : Bar k w w') : TableW w' tb mb room l := by
  have hX : Agree (XB mb rb lv) w w' := ⟨hb.size, fun j hj hx => hb.block j hj (fun e => by
    subst e
    rcases hk with rfl | hk
    · exact hx (.inr (.inl rfl))
    · exact hx (.inr (.inr hk)))⟩
  have hkb : ∃ cs T, w.heap[k]? = some (.cells cs T (0, 0)) ∧ T ≠ 68 := by
    rcases hk with rfl | hk
    · exact ⟨_, _, hR.tab, by decide⟩
    · obtain ⟨cur, hc⟩ := hR.row.cellsAt hk.symm
      exact ⟨cur, _, hc, by decide⟩
  obtain ⟨cs, T, hc, hT⟩ := hkb
  have h1 : mb ≠ k := h.map.ne_cells hc
  have h2 : tb ≠ k := by
    rintro rfl
    have := h.tab
    unfold BlkAt at this
    rw [hc] at this
    injection this with h3
    injection h3 with _ h4 _
    exact hT h4
  exact ⟨h.tab.bar hb h2, h.map.bar hb h1, h.keys, fun p hp => hs p hp w' hX, h.lt⟩
/-- The reference's table behind a call of the program. -/
theorem RefW.grown {w w' w0 : World} {mb rb : Nat} {room : Int} {lv : Value} {l : List (Int × Group)} {L : List Group} (h : RefW w w0 rb room lv L) (hM : MapL w mb keyI valGroup l) (hm : w0.heap.size ≤ mb) (hg : w.grownBy w' (some mb)) : RefW w' w0 rb room lv L := by
  have h1 : mb ≠ rb := hM.ne_cells h.tab
  have h2 : lv.ownBlock = none ∨ lv.ownBlock ≠ some mb := by
    cases hv : lv.ownBlock with
    | none => exact .inl rfl
    | some k =>
      right
      obtain ⟨cur, hc⟩ := h.row.cellsAt hv
      have := hM.ne_cells hc
      intro e
      exact this (by simpa using e.symm)
  exact ⟨(hg.block rb h.tab.lt (fun e => h1 (by simpa using e.symm))).trans h.tab, h.row.kept hg h2, h.ok, h.len, h.base.grown hg h.base.size (fun k hk => by cases hk; exact hm), h.lt⟩
end
end Go.Proofs.Ytfjngecgfmlnfaa
