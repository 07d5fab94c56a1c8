/- What the reference reaches (plain): rounds over the links find all that is connected, and nothing else. -/
import Derived.Test.YtggcmhjeflofmaaTopoQ
namespace Go.Proofs.Ytggcmhjeflofmaa
open Go.RowKit Go.Maps
set_option linter.unusedVariables false
set_option linter.unusedSimpArgs false

def onR (down : List Int) (i : Nat) (x : Link) (T : List Bool) : Bool := decide (0 < x.fB) && (!down.contains ((i : Int) + 1) && (T.getD x.fA.toNat false || T.getD x.fB.toNat false))
def markR (down : List Int) (i : Nat) (x : Link) (T : List Bool) : List Bool := if onR down i x T = true then (T.set x.fA.toNat true).set x.fB.toNat true else T
def sweepR (down : List Int) : Nat → List Link → List Bool → List Bool
  | _, [], T => T
  | i, x :: l, T => sweepR down (i + 1) l (markR down i x T)
def roundsR (down : List Int) (l : List Link) : Nat → List Bool → List Bool
  | 0, T => T
  | k + 1, T => roundsR down l k (sweepR down 0 l T)
def outT (T : List Bool) : Nat → List Int
  | 0 => []
  | k + 1 => outT T k ++ if T.getD (k + 1) false = true then [(k : Int) + 1] else []
def startR (m : Nat) (sw : Int) : List Bool := (List.replicate (m + 1) false).set sw.toNat true
def rReachF (l : List Link) (n : Int) (down : List Int) (sw : Int) : List Int :=
  if (decide (1 ≤ sw) && decide (sw ≤ n)) = true then outT (roundsR down l n.toNat (startR n.toNat sw)) n.toNat else []
/-- The links that may be: within m switches. -/
def LinksIn (m : Nat) (l : List Link) : Prop := ∀ x ∈ l, 1 ≤ x.fA ∧ x.fA ≤ m ∧ x.fB ≤ m
def EdgeL (l : List Link) (down : List Int) (i : Nat) (a b : Nat) : Prop :=
  ∃ j, ∃ hj : j < l.length, 0 < l[j].fB ∧ down.contains (((i + j : Nat) : Int) + 1) = false ∧ ((l[j].fA.toNat = a ∧ l[j].fB.toNat = b) ∨ (l[j].fB.toNat = a ∧ l[j].fA.toNat = b))
theorem markR_len {down : List Int} {i : Nat} {x : Link} {T : List Bool} : (markR down i x T).length = T.length := by
  unfold markR; split <;> simp
theorem sweepR_len {down : List Int} : ∀ (l : List Link) (i : Nat) (T : List Bool), (sweepR down i l T).length = T.length
  | [], _, _ => rfl
  | x :: l, i, T => by unfold sweepR; rw [sweepR_len l, markR_len]
theorem roundsR_len {down : List Int} {l : List Link} : ∀ (k : Nat) (T : List Bool), (roundsR down l k T).length = T.length
  | 0, _ => rfl
  | k + 1, T => by unfold roundsR; rw [roundsR_len k, sweepR_len]
theorem getD_set' {T : List Bool} {i k : Nat} : (T.set i true).getD k false = true → T.getD k false = true ∨ k = i := by
  intro h
  by_cases hk : i = k
  · exact .inr hk.symm
  · left
    simpa [List.getD_eq_getElem?_getD, List.getElem?_set, hk] using h
theorem getD_set_keep {T : List Bool} {i k : Nat} (h : T.getD k false = true) : (T.set i true).getD k false = true := by
  have hk : k < T.length := by
    rcases Nat.lt_or_ge k T.length with h' | h'
    · exact h'
    · simp [List.getD_eq_getElem?_getD, List.getElem?_eq_none h'] at h
  by_cases hik : i = k
  · subst hik; simp [List.getD_eq_getElem?_getD, hk]
  · simpa [List.getD_eq_getElem?_getD, List.getElem?_set, hik] using h
theorem getD_set_self {T : List Bool} {i : Nat} (h : i < T.length) : (T.set i true).getD i false = true := by
  simp [List.getD_eq_getElem?_getD, h]
/-- What the rounds mark has P, where P is closed. -/
theorem markR_sound {down : List Int} {P : Nat → Prop} {i : Nat} {x : Link} {T : List Bool} (hP : 0 < x.fB → down.contains ((i : Int) + 1) = false → (P x.fA.toNat ↔ P x.fB.toNat)) (h : ∀ k, T.getD k false = true → P k) :
    ∀ k, (markR down i x T).getD k false = true → P k := by
  intro k hk
  unfold markR at hk
  split at hk
  · rename_i hon
    unfold onR at hon
    simp only [Bool.and_eq_true, decide_eq_true_eq, Bool.not_eq_true', Bool.or_eq_true] at hon
    have hiff := hP hon.1 hon.2.1
    have hAB : P x.fA.toNat ∧ P x.fB.toNat := by
      rcases hon.2.2 with h1 | h1
      · exact ⟨h _ h1, hiff.1 (h _ h1)⟩
      · exact ⟨hiff.2 (h _ h1), h _ h1⟩
    rcases getD_set' hk with hk | rfl
    · rcases getD_set' hk with hk | rfl
      · exact h k hk
      · exact hAB.1
    · exact hAB.2
  · exact h k hk
theorem sweepR_sound {down : List Int} {P : Nat → Prop} : ∀ (l : List Link) (i : Nat) (T : List Bool), (∀ a b, EdgeL l down i a b → P a → P b) → (∀ k, T.getD k false = true → P k) → ∀ k, (sweepR down i l T).getD k false = true → P k
  | [], _, _, _, h => h
  | x :: l, i, T, hP, h => by
    unfold sweepR
    refine sweepR_sound l (i + 1) _ (fun a b ⟨j, hj, h1, h2, h3⟩ => hP a b ⟨j + 1, by simpa using hj, by simpa using h1, by rw [show i + (j + 1) = i + 1 + j by omega]; exact h2, by simpa using h3⟩) (markR_sound (fun h1 h2 => ?_) h)
    exact ⟨hP _ _ ⟨0, by simp, by simpa using h1, by simpa using h2, .inl ⟨rfl, rfl⟩⟩, hP _ _ ⟨0, by simp, by simpa using h1, by simpa using h2, .inr ⟨rfl, rfl⟩⟩⟩
theorem roundsR_sound {down : List Int} {l : List Link} {P : Nat → Prop} (hP : ∀ a b, EdgeL l down 0 a b → P a → P b) : ∀ (k : Nat) (T : List Bool), (∀ k, T.getD k false = true → P k) → ∀ j, (roundsR down l k T).getD j false = true → P j
  | 0, _, h => h
  | k + 1, T, h => by
    unfold roundsR
    exact roundsR_sound hP k _ (sweepR_sound l 0 T hP h)
theorem markR_keep {down : List Int} {i : Nat} {x : Link} {T : List Bool} {k : Nat} (h : T.getD k false = true) : (markR down i x T).getD k false = true := by
  unfold markR; split
  · exact getD_set_keep (getD_set_keep h)
  · exact h
theorem sweepR_keep {down : List Int} {k : Nat} : ∀ (l : List Link) (i : Nat) (T : List Bool), T.getD k false = true → (sweepR down i l T).getD k false = true
  | [], _, _, h => h
  | x :: l, i, T, h => by unfold sweepR; exact sweepR_keep l _ _ (markR_keep h)
theorem roundsR_keep {down : List Int} {l : List Link} {j : Nat} : ∀ (k : Nat) (T : List Bool), T.getD j false = true → (roundsR down l k T).getD j false = true
  | 0, _, h => h
  | k + 1, T, h => by unfold roundsR; exact roundsR_keep k _ (sweepR_keep l 0 T h)
theorem set_count {T : List Bool} {i : Nat} (hi : i < T.length) : T.set i true = T ∨ T.count true < (T.set i true).count true := by
  cases h : T[i] with
  | true => left; rw [← h]; exact List.set_getElem_self hi
  | false => right; rw [List.count_set hi]; simp [h]
theorem markR_count {down : List Int} {i : Nat} {x : Link} {T : List Bool} (hA : x.fA.toNat < T.length) (hB : x.fB.toNat < T.length) : markR down i x T = T ∨ T.count true < (markR down i x T).count true := by
  unfold markR; split
  · rcases set_count hA with h1 | h1
    · rw [h1]; exact set_count hB
    · rcases set_count (T := T.set x.fA.toNat true) (i := x.fB.toNat) (by simpa using hB) with h2 | h2
      · rw [h2]; exact .inr h1
      · exact .inr (by omega)
  · exact .inl rfl
theorem sweepR_count {down : List Int} {m : Nat} : ∀ (l : List Link) (i : Nat) (T : List Bool), LinksIn m l → T.length = m + 1 →
    (sweepR down i l T = T ∧ ∀ j (hj : j < l.length), markR down (i + j) l[j] T = T) ∨ T.count true < (sweepR down i l T).count true
  | [], _, _, _, _ => .inl ⟨rfl, fun j hj => by simp at hj⟩
  | x :: l, i, T, hl, hT => by
    have hx := hl x (List.mem_cons_self ..)
    have hl' : LinksIn m l := fun y hy => hl y (List.mem_cons_of_mem _ hy)
    unfold sweepR
    have h1 := markR_count (down := down) (i := i) (x := x) (T := T) (by omega) (by omega)
    have h2 := sweepR_count (down := down) l (i + 1) (markR down i x T) hl' (by rw [markR_len, hT])
    rcases h1 with h1 | h1
    · rw [h1] at h2 ⊢
      rcases h2 with ⟨h2, h3⟩ | h2
      · refine .inl ⟨h2, fun j hj => ?_⟩
        cases j with
        | zero => exact h1
        | succ j =>
          have := h3 j (by simpa using hj)
          rw [show i + (j + 1) = i + 1 + j by omega]
          simpa using this
      · exact .inr h2
    · rcases h2 with ⟨h2, _⟩ | h2
      · rw [h2]; exact .inr h1
      · exact .inr (by omega)
def ClosedT (l : List Link) (down : List Int) (T : List Bool) : Prop := ∀ a b, EdgeL l down 0 a b → T.getD a false = true → T.getD b false = true
theorem mark_closed {down : List Int} {i : Nat} {x : Link} {T : List Bool} (hA : x.fA.toNat < T.length) (hB : x.fB.toNat < T.length) (h : markR down i x T = T) (h0 : 0 < x.fB) (hd : down.contains ((i : Int) + 1) = false) (ho : T.getD x.fA.toNat false = true ∨ T.getD x.fB.toNat false = true) :
    T.getD x.fA.toNat false = true ∧ T.getD x.fB.toNat false = true := by
  unfold markR at h
  rw [if_pos (by unfold onR; simp only [hd, h0, decide_true, Bool.true_and, Bool.not_false, Bool.or_eq_true]; exact ho)] at h
  rw [← h]
  exact ⟨getD_set_keep (getD_set_self hA), getD_set_self (by simpa using hB)⟩
theorem sweep_closed {down : List Int} {l : List Link} {m : Nat} {T : List Bool} (hl : LinksIn m l) (hT : T.length = m + 1) (h : ∀ j (hj : j < l.length), markR down (0 + j) l[j] T = T) : ClosedT l down T := by
  rintro a b ⟨j, hj, h0, hd, he⟩ ha
  have hx := hl _ (List.getElem_mem hj)
  have hm := h j hj
  rcases he with ⟨rfl, rfl⟩ | ⟨rfl, rfl⟩
  · exact (mark_closed (by omega) (by omega) hm h0 hd (.inl ha)).2
  · exact (mark_closed (by omega) (by omega) hm h0 hd (.inr ha)).1
theorem rounds_fix {down : List Int} {l : List Link} {T : List Bool} (h : sweepR down 0 l T = T) : ∀ k, roundsR down l k T = T
  | 0 => rfl
  | k + 1 => by unfold roundsR; rw [h]; exact rounds_fix h k
theorem rounds_count {down : List Int} {l : List Link} {m : Nat} (hl : LinksIn m l) : ∀ (k : Nat) (T : List Bool), T.length = m + 1 → ClosedT l down (roundsR down l k T) ∨ T.count true + k ≤ (roundsR down l k T).count true
  | 0, T, _ => .inr (Nat.le_refl _)
  | k + 1, T, hT => by
    rcases sweepR_count (down := down) l 0 T hl hT with ⟨h1, h2⟩ | h1
    · left
      unfold roundsR
      rw [h1, rounds_fix h1]
      exact sweep_closed hl hT h2
    · unfold roundsR
      rcases rounds_count hl k (sweepR down 0 l T) (by rw [sweepR_len, hT]) with h2 | h2
      · exact .inl h2
      · exact .inr (by omega)
theorem getD_head {T : List Bool} (h : ∀ k, T.getD k false = true → 1 ≤ k) (hne : 0 < T.length) : T.count true < T.length := by
  cases T with
  | nil => simp at hne
  | cons x T =>
    have : x = false := by
      cases x
      · rfl
      · have := h 0 rfl; omega
    subst this
    have := List.count_le_length (a := true) (l := T)
    simp
    omega
theorem rounds_closed {down : List Int} {l : List Link} {m : Nat} (hl : LinksIn m l) {T : List Bool} (hT : T.length = m + 1) (h0 : ∀ k, T.getD k false = true → 1 ≤ k) (h1 : 1 ≤ T.count true) : ClosedT l down (roundsR down l m T) := by
  rcases rounds_count (down := down) hl m T hT with h | h
  · exact h
  · have hs := roundsR_sound (down := down) (l := l) (P := fun k => 1 ≤ k) (fun a b ⟨j, hj, h0, _, he⟩ _ => by
      have hx := hl _ (List.getElem_mem hj)
      rcases he with ⟨rfl, rfl⟩ | ⟨rfl, rfl⟩ <;> omega) m T h0
    have := getD_head hs (by rw [roundsR_len, hT]; omega)
    rw [roundsR_len, hT] at this
    omega
theorem outT_mem {T : List Bool} {x : Int} : ∀ {k : Nat}, x ∈ outT T k ↔ 1 ≤ x ∧ x ≤ (k : Int) ∧ T.getD x.toNat false = true
  | 0 => ⟨fun h => by simp [outT] at h, fun h => by omega⟩
  | k + 1 => by
    unfold outT
    rw [List.mem_append, outT_mem]
    constructor
    · rintro (h | h)
      · exact ⟨h.1, by omega, h.2.2⟩
      · split at h
        · rename_i hT
          obtain rfl := List.mem_singleton.1 h
          exact ⟨by omega, by omega, by rw [show ((k : Int) + 1).toNat = k + 1 by omega]; exact hT⟩
        · simp at h
    · rintro ⟨h1, h2, h3⟩
      by_cases hk : x ≤ (k : Int)
      · exact .inl ⟨h1, hk, h3⟩
      · right
        have hx : x = (k : Int) + 1 := by omega
        subst hx
        rw [show ((k : Int) + 1).toNat = k + 1 by omega] at h3
        rw [if_pos h3]
        exact List.mem_singleton.2 rfl
theorem outT_sorted {T : List Bool} : ∀ (k : Nat), (outT T k).Pairwise (· < ·)
  | 0 => List.Pairwise.nil
  | k + 1 => by
    unfold outT
    rw [List.pairwise_append]
    refine ⟨outT_sorted k, ?_, fun a ha b hb => ?_⟩
    · split <;> simp
    · have := (outT_mem.1 ha).2.1
      split at hb
      · obtain rfl := List.mem_singleton.1 hb; omega
      · simp at hb
theorem outT_ok (T : List Bool) (k : Nat) : (outT T k).Pairwise (· ≤ ·) ∧ (outT T k).Nodup :=
  ⟨(outT_sorted k).imp (fun h => Int.le_of_lt h), (outT_sorted k).imp (fun h => Int.ne_of_lt h)⟩
end Go.Proofs.Ytggcmhjeflofmaa
