/- A table of groups, plain: what calls keep; what is left behind the rounds. -/
import Derived.Test.YtfjngecgfmlnfaaRunsB
namespace Go.Proofs.Ytfjngecgfmlnfaa
open Go.RowKit Go.Maps
set_option linter.unusedVariables false
set_option linter.unusedSimpArgs false

abbrev coresG (g : Group) : List Core := g.fBuckets.map coreB
/-- What a table keeps. -/
structure TabI (l : List (Int × Group)) (room : Int) : Prop where
  ok : TabOk l
  nodup : (l.map (·.1)).Nodup
  ids : ∀ p ∈ l, p.1 = p.2.fID
  whole : ∀ p ∈ l, ∀ n ∈ leadsF (coresG p.2), (lookL l n).isSome = true
  rank : ∃ r : Int → Nat, ∀ p ∈ l, ∀ n ∈ leadsF (coresG p.2), r n < r p.1
  len : (l.length : Int) ≤ room
theorem TabI.nil {room : Int} (h : 1 ≤ room) : TabI [] room := ⟨⟨by simp, by simp⟩, by simp, by simp, by simp, ⟨fun _ => 0, by simp⟩, by simp; omega⟩
theorem lookL_append {α β : Type} [DecidableEq α] (l m : List (α × β)) (x : α) : lookL (l ++ m) x = (lookL l x).or (lookL m x) := by
  unfold lookL
  rw [List.find?_append]
  cases l.find? fun p => decide (p.1 = x) <;> rfl
theorem lookL_one {α β : Type} [DecidableEq α] (x : α) (y : β) (n : α) : lookL [(x, y)] n = if x = n then some y else none := by
  unfold lookL
  simp only [List.find?_cons, List.find?_nil]
  by_cases h : x = n <;> simp [h]
theorem lookL_isSome {α β : Type} [DecidableEq α] {l : List (α × β)} {x : α} : (lookL l x).isSome = true ↔ x ∈ l.map (·.1) := by
  constructor
  · intro h
    obtain ⟨y, hy⟩ := Option.isSome_iff_exists.1 h
    exact List.mem_map.2 ⟨_, lookL_mem hy, rfl⟩
  · intro h
    obtain ⟨p, hp, rfl⟩ := List.mem_map.1 h
    cases hq : lookL l p.1 with
    | some y => rfl
    | none => exact absurd rfl (lookL_none.1 hq p hp)
theorem lookL_of_mem {α β : Type} [DecidableEq α] {l : List (α × β)} (hn : (l.map (·.1)).Nodup) {p : α × β} (h : p ∈ l) : lookL l p.1 = some p.2 := by
  obtain ⟨i, hi, rfl⟩ := List.getElem_of_mem h
  exact lookL_some hi rfl hn
theorem next_of_mem {l : List (Int × Group)} (hn : (l.map (·.1)).Nodup) {p : Int × Group} (h : p ∈ l) : nextF l p.1 = leadsF (coresG p.2) := by
  unfold nextF getG
  rw [lookL_of_mem hn h]
  rfl
theorem keys_put {α β : Type} [DecidableEq α] {l : List (α × β)} {x : α} {y : β} (h : (lookL l x).isSome = true) : (putL l x y).map (·.1) = l.map (·.1) := by
  unfold putL
  rw [if_neg (by intro e; rw [e] at h; cases h), List.map_map]
  refine List.map_congr_left fun p _ => ?_
  simp only [Function.comp]
  split
  · rename_i h; exact h.symm
  · rfl
theorem putL_mem_old {α β : Type} [DecidableEq α] {l : List (α × β)} {x : α} {y : β} (hs : (lookL l x).isSome = true) {p : α × β} (h : p ∈ putL l x y) : (p ∈ l ∧ p.1 ≠ x) ∨ p = (x, y) := by
  unfold putL at h
  rw [if_neg (by intro e; rw [e] at hs; cases hs)] at h
  obtain ⟨q, hq, rfl⟩ := List.mem_map.1 h
  split
  · exact .inr rfl
  · rename_i hne; exact .inl ⟨hq, hne⟩
theorem max_bound (r : Int → Nat) (L : List Int) : ∃ M, ∀ v ∈ L, r v < M := by
  induction L with
  | nil => exact ⟨0, by simp⟩
  | cons x L ih =>
    obtain ⟨M, hM⟩ := ih
    refine ⟨max M (r x + 1), fun v hv => ?_⟩
    rcases List.mem_cons.1 hv with rfl | hv
    · omega
    · have := hM v hv; omega
theorem coreG_eq {g g' : Group} (h : coreG g' = coreG g) : g'.fID = g.fID ∧ g'.fKind = g.fKind ∧ coresG g' = coresG g := by
  simpa [coreG, coresG] using h

theorem TabI.add {l : List (Int × Group)} {room : Int} (h : TabI l room) (hr : room ≤ 64) {g g' : Group} (h0 : addF l room g.fID g.fKind (coresG g) = 0) (hc : coreG g' = coreG g) : TabI (l ++ [(g.fID, g')]) room := by
  obtain ⟨e1, e2, e3⟩ := coreG_eq hc
  unfold addF at h0
  split at h0
  · rename_i hw; exact absurd h0 hw
  · rename_i hw
    have hw0 : wrongF g.fID g.fKind (coresG g) = 0 := by omega
    split at h0
    · cases h0
    · rename_i hl
      have hno : lookL l g.fID = none := by simpa using hl
      split at h0
      · cases h0
      · rename_i hwh
        have hwh' : wholeF l (coresG g) = true := by simpa using hwh
        split at h0
        · cases h0
        · rename_i hlen
          have hnk : ∀ p ∈ l, p.1 ≠ g.fID := fun p hp => lookL_none.1 hno p hp
          unfold wholeF at hwh'
          rw [List.all_eq_true] at hwh'
          have hin : ∀ n, (lookL l n).isSome = true → n ≠ g.fID := fun n hn e => by rw [e, hno] at hn; cases hn
          refine ⟨⟨by simp; omega, fun p hp => ?_⟩, ?_, fun p hp => ?_, fun p hp n hn => ?_, ?_, by simp; omega⟩
          · rcases List.mem_append.1 hp with hp | hp
            · exact h.ok.2 p hp
            · obtain rfl := List.mem_singleton.1 hp
              simp only [e1, e2]
              unfold coresG at e3
              rw [e3]
              exact hw0
          · rw [List.map_append, List.nodup_append]
            refine ⟨h.nodup, by simp, fun a ha b hb => ?_⟩
            obtain ⟨p, hp, rfl⟩ := List.mem_map.1 ha
            simp at hb
            rw [hb]
            exact hnk p hp
          · rcases List.mem_append.1 hp with hp | hp
            · exact h.ids p hp
            · obtain rfl := List.mem_singleton.1 hp
              exact e1.symm
          · rw [lookL_append]
            rcases List.mem_append.1 hp with hp | hp
            · have := h.whole p hp n hn
              cases hq : lookL l n with
              | none => rw [hq] at this; cases this
              | some y => rfl
            · obtain rfl := List.mem_singleton.1 hp
              rw [show coresG ((g.fID, g').2) = coresG g from e3] at hn
              have := hwh' n hn
              cases hq : lookL l n with
              | none => rw [hq] at this; cases this
              | some y => rfl
          · obtain ⟨r, hrk⟩ := h.rank
            obtain ⟨M, hM⟩ := max_bound r (leadsF (coresG g))
            refine ⟨fun n => if n = g.fID then M else r n, fun p hp n hn => ?_⟩
            rcases List.mem_append.1 hp with hp | hp
            · have h1 := h.whole p hp n hn
              simp only
              rw [if_neg (hin n h1), if_neg (hnk p hp)]
              exact hrk p hp n hn
            · obtain rfl := List.mem_singleton.1 hp
              rw [show coresG ((g.fID, g').2) = coresG g from e3] at hn
              simp only
              rw [if_neg (hin n (hwh' n hn)), if_pos trivial]
              exact hM n hn
theorem TabI.modify {l : List (Int × Group)} {room : Int} (h : TabI l room) {g g' : Group} (h0 : modF l g.fID g.fKind (coresG g) = 0) (hc : coreG g' = coreG g) : TabI (putL l g.fID g') room := by
  obtain ⟨e1, e2, e3⟩ := coreG_eq hc
  unfold modF at h0
  split at h0
  · rename_i hw; exact absurd h0 hw
  · rename_i hw
    have hw0 : wrongF g.fID g.fKind (coresG g) = 0 := by omega
    split at h0
    · cases h0
    · rename_i hl
      have his : (lookL l g.fID).isSome = true := by cases hq : (lookL l g.fID).isSome with | true => rfl | false => exact absurd hq hl
      split at h0
      · cases h0
      · rename_i hwh
        have hwh' : wholeF l (coresG g) = true := by simpa using hwh
        split at h0
        · cases h0
        · rename_i hcm
          unfold wholeF at hwh'
          rw [List.all_eq_true] at hwh'
          have hkeys := keys_put (y := g') his
          have hlook : ∀ n, (lookL l n).isSome = true → (lookL (putL l g.fID g') n).isSome = true := fun n hn => by
            rw [lookL_isSome, hkeys, ← lookL_isSome]; exact hn
          have hlen : (putL l g.fID g').length = l.length := by
            have := congrArg List.length hkeys
            simpa using this
          refine ⟨⟨by rw [hlen]; exact h.ok.1, fun p hp => ?_⟩, by rw [hkeys]; exact h.nodup, fun p hp => ?_, fun p hp n hn => ?_, ?_, by rw [hlen]; exact h.len⟩
          · rcases putL_mem_old his hp with ⟨hp, _⟩ | rfl
            · exact h.ok.2 p hp
            · simp only [e1, e2]
              unfold coresG at e3
              rw [e3]
              exact hw0
          · rcases putL_mem_old his hp with ⟨hp, _⟩ | rfl
            · exact h.ids p hp
            · exact e1.symm
          · rcases putL_mem_old his hp with ⟨hp, _⟩ | rfl
            · exact hlook n (h.whole p hp n hn)
            · rw [show coresG ((g.fID, g').2) = coresG g from e3] at hn
              exact hlook n (hwh' n hn)
          · obtain ⟨r, hrk⟩ := h.rank
            obtain ⟨M, hM⟩ := max_bound r (leadsF (coresG g))
            classical
            refine ⟨fun n => if Comes (nextF l) n g.fID then r n + M + 1 else r n, fun p hp n hn => ?_⟩
            rcases putL_mem_old his hp with ⟨hp, hne⟩ | rfl
            · have h1 := hrk p hp n hn
              have hst : Comes (nextF l) n g.fID → Comes (nextF l) p.1 g.fID := fun hcn => .step (by rw [next_of_mem h.nodup hp]; exact hn) hcn
              simp only
              by_cases hcn : Comes (nextF l) n g.fID
              · rw [if_pos hcn, if_pos (hst hcn)]; omega
              · rw [if_neg hcn]
                split <;> omega
            · rw [show coresG ((g.fID, g').2) = coresG g from e3] at hn
              have hncn : ¬ Comes (nextF l) n g.fID := fun hcn => hcm ⟨n, hn, hcn⟩
              have := hM n hn
              simp only
              rw [if_neg hncn, if_pos (.refl _)]
              omega
theorem TabI.delete {l : List (Int × Group)} {room : Int} (h : TabI l room) {id : Int} (h0 : delF l id = 0) : TabI (delL l id) room := by
  unfold delF at h0
  split at h0
  · cases h0
  · split at h0
    · cases h0
    · rename_i hled
      have hsub : (delL l id).Sublist l := List.filter_sublist
      have hlen : (delL l id).length ≤ l.length := hsub.length_le
      refine ⟨⟨Nat.le_trans hlen h.ok.1, fun p hp => h.ok.2 p (delL_mem hp).1⟩, (hsub.map _).nodup h.nodup, fun p hp => h.ids p (delL_mem hp).1, fun p hp n hn => ?_, ?_, by have := h.len; omega⟩
      · have hp1 := (delL_mem hp).1
        have h1 := h.whole p hp1 n hn
        rw [delL_look, if_neg]
        · exact h1
        · rintro rfl
          refine hled (List.any_eq_true.2 ⟨p, hp1, ?_⟩)
          unfold ledB
          exact List.contains_iff_mem.2 hn
      · obtain ⟨r, hrk⟩ := h.rank
        exact ⟨r, fun p hp => hrk p (delL_mem hp).1⟩

/-- One round: those that lead to none of the list fall away. -/
def roundG (L : List Group) : List Group := L.filter fun g => ledG g.fBuckets L
def roundsG : Nat → List Group → List Group
  | 0, L => L
  | n + 1, L => roundsG n (roundG L)
theorem ledG_iff {bs : List Bucket} {L : List Group} : ledG bs L = true ↔ ∃ n ∈ leadsF (bs.map coreB), ∃ d ∈ L, d.fID = n := by
  unfold ledG ledA leadsF leadsA
  simp only [List.any_eq_true, Bool.and_eq_true, decide_eq_true_eq, List.mem_flatMap, List.mem_map, List.mem_filter]
  constructor
  · rintro ⟨b, hb, a, ha, hk, d, hd, he⟩
    exact ⟨a.fValue, ⟨_, ⟨b, hb, rfl⟩, a, ⟨ha, hk⟩, rfl⟩, d, hd, he⟩
  · rintro ⟨n, ⟨c, ⟨b, hb, rfl⟩, a, ⟨ha, hk⟩, rfl⟩, d, hd, he⟩
    exact ⟨b, hb, a, ha, hk, d, hd, he⟩
theorem least_rank (f : Group → Nat) : ∀ (L : List Group), L ≠ [] → ∃ g ∈ L, ∀ d ∈ L, f g ≤ f d
  | [], h => absurd rfl h
  | [x], _ => ⟨x, by simp, by simp⟩
  | x :: y :: L, _ => by
    obtain ⟨g, hg, hm⟩ := least_rank f (y :: L) (by simp)
    by_cases h : f x ≤ f g
    · refine ⟨x, by simp, fun d hd => ?_⟩
      rcases List.mem_cons.1 hd with rfl | hd
      · exact Nat.le_refl _
      · exact Nat.le_trans h (hm d hd)
    · refine ⟨g, List.mem_cons_of_mem _ hg, fun d hd => ?_⟩
      rcases List.mem_cons.1 hd with rfl | hd
      · omega
      · exact hm d hd
/-- Rising numbers: each leads to lower ones alone. -/
def RankG (L : List Group) : Prop := ∃ r : Int → Nat, ∀ g ∈ L, ∀ n ∈ leadsF (coresG g), r n < r g.fID
theorem round_less {L : List Group} (h : RankG L) (hne : L ≠ []) : (roundG L).length < L.length := by
  obtain ⟨r, hr⟩ := h
  obtain ⟨g, hg, hm⟩ := least_rank (fun g => r g.fID) L hne
  have hf : ledG g.fBuckets L = false := by
    rw [Bool.eq_false_iff]
    intro ht
    obtain ⟨n, hn, d, hd, rfl⟩ := ledG_iff.1 ht
    have h1 := hr g hg d.fID hn
    have h2 := hm d hd
    omega
  unfold roundG
  refine Nat.lt_of_le_of_ne (List.length_filter_le _ _) fun e => ?_
  have := List.length_filter_eq_length_iff.1 e g hg
  rw [hf] at this
  cases this
theorem RankG.round {L : List Group} (h : RankG L) : RankG (roundG L) := by
  obtain ⟨r, hr⟩ := h
  exact ⟨r, fun g hg => hr g (List.mem_filter.1 hg).1⟩
theorem rounds_nil : ∀ (n : Nat) (L : List Group), RankG L → L.length ≤ n → roundsG n L = []
  | 0, L, _, h => show L = [] from List.eq_nil_of_length_eq_zero (by omega)
  | n + 1, L, hr, h => by
    rw [roundsG]
    refine rounds_nil n _ hr.round ?_
    by_cases hne : L = []
    · subst hne; simp [roundG]
    · have := round_less hr hne; omega
/-- What is listed. -/
theorem listed {l : List (Int × Group)} {room : Int} (h : TabI l room) {gs : List Group} (hg : gs.map coreG = listF l) : gs.length = l.length ∧ ∀ g ∈ gs, ∃ p ∈ l, coreG g = coreG p.2 ∧ p.1 = g.fID := by
  constructor
  · have := congrArg List.length hg
    simpa [listF, sortI_len] using this
  · intro g hgm
    have h1 : coreG g ∈ listF l := by rw [← hg]; exact List.mem_map_of_mem hgm
    unfold listF at h1
    obtain ⟨id, hid, he⟩ := List.mem_map.1 h1
    have hid2 : id ∈ l.map (·.1) := (List.mergeSort_perm _ _).mem_iff.1 hid
    obtain ⟨p, hp, rfl⟩ := List.mem_map.1 hid2
    have hg2 : getG l p.1 = p.2 := by unfold getG; rw [lookL_of_mem h.nodup hp]; rfl
    rw [hg2] at he
    exact ⟨p, hp, he.symm, by rw [(coreG_eq he).1.symm]; exact h.ids p hp⟩
theorem listed_rank {l : List (Int × Group)} {room : Int} (h : TabI l room) {gs : List Group} (hg : gs.map coreG = listF l) : RankG gs := by
  obtain ⟨r, hr⟩ := h.rank
  refine ⟨r, fun g hgm n hn => ?_⟩
  obtain ⟨p, hp, he, hid⟩ := (listed h hg).2 g hgm
  rw [(coreG_eq he).2.2] at hn
  rw [← hid]
  exact hr p hp n hn
theorem listed_there {l : List (Int × Group)} {room : Int} (h : TabI l room) {gs : List Group} (hg : gs.map coreG = listF l) {w : World} {g : Group} (hgm : g ∈ gs) (hok : okGroup w g) : ThereOk l g := by
  obtain ⟨p, hp, he, hid⟩ := (listed h hg).2 g hgm
  obtain ⟨e1, e2, e3⟩ := coreG_eq he
  have hw := h.ok.2 p hp
  have hw' : wrongF g.fID g.fKind (g.fBuckets.map coreB) = 0 := by
    unfold coresG at e3
    rw [e1, e2, e3]; exact hw
  refine ⟨lead_ok hw', fun b hb a ha => ?_⟩
  have hr := wrong_acts hw' (coreB b) (List.mem_map_of_mem hb) a ha
  have hoka := (hok.2.2.1.2 b hb).2.2.1.2 a ha
  refine ⟨(okV_of hoka).1, rightA_small hr, fun hk => ?_⟩
  refine h.whole p hp _ ?_
  rw [← e3]
  unfold leadsF leadsA
  exact List.mem_flatMap.2 ⟨coreB b, List.mem_map_of_mem hb, List.mem_map.2 ⟨a, List.mem_filter.2 ⟨ha, by simpa using hk⟩, rfl⟩⟩
end Go.Proofs.Ytfjngecgfmlnfaa
