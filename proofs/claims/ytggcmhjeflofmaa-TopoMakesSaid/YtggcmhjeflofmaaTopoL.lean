/- A topology by its links (plain): what the reference knows. -/
import Derived.Test.YtggcmhjeflofmaaTopoK
namespace Go.Proofs.Ytggcmhjeflofmaa
open Go.RowKit Go.Maps
set_option linter.unusedVariables false
set_option linter.unusedSimpArgs false

def matchL (x : Link) (p : Place) : Bool := (decide (x.fA = p.1) && decide (x.fPortA = p.2)) || (decide (x.fB = p.1) && (decide (0 < x.fB) && decide (x.fPortB = p.2)))
def destL (x : Link) (p : Place) : Place := if (decide (x.fA = p.1) && decide (x.fPortA = p.2)) = true then (x.fB, x.fPortB) else (x.fA, x.fPortA)
def peerO : List Link → Nat → Place → Option Hop
  | [], _, _ => none
  | x :: l, i, p => if matchL x p = true then some (destL x p, (i : Int) + 1) else peerO l (i + 1) p
def homeO : List Link → Int → Option Place
  | [], _ => none
  | x :: l, h => if (decide (x.fB < 0) && decide (x.fB = -h)) = true then some (x.fA, x.fPortA) else homeO l h
structure Rep (s : TopS) (l : List Link) : Prop where
  costs : s.costs = l.map (·.fCost)
  ends : ∀ p, lookL s.ends p = peerO l 0 p
  homes : ∀ h, lookL s.homes h = homeO l h
theorem peerO_append (x : Link) (p : Place) : ∀ (l : List Link) (i : Nat), peerO (l ++ [x]) i p = match peerO l i p with | some e => some e | none => if matchL x p = true then some (destL x p, ((i + l.length : Nat) : Int) + 1) else none
  | [], i => rfl
  | y :: l, i => by
    simp only [List.cons_append, peerO]
    split
    · rfl
    · rw [peerO_append x p l (i + 1)]
      simp only [List.length_cons]
      rw [show i + 1 + l.length = i + (l.length + 1) from by omega]
theorem homeO_append (x : Link) (h : Int) : ∀ (l : List Link), homeO (l ++ [x]) h = match homeO l h with | some e => some e | none => if (decide (x.fB < 0) && decide (x.fB = -h)) = true then some (x.fA, x.fPortA) else none
  | [] => rfl
  | y :: l => by
    simp only [List.cons_append, homeO]
    split
    · rfl
    · exact homeO_append x h l
theorem lookL_append {α β : Type} [DecidableEq α] (l l' : List (α × β)) (x : α) : lookL (l ++ l') x = match lookL l x with | some y => some y | none => lookL l' x := by
  unfold lookL
  rw [List.find?_append]
  cases l.find? (fun p => decide (p.1 = x)) <;> rfl
theorem lookL_one {α β : Type} [DecidableEq α] (y : α) (v : β) (l : List (α × β)) (x : α) : lookL ((y, v) :: l) x = if y = x then some v else lookL l x := by
  unfold lookL
  rw [List.find?_cons]
  by_cases h : y = x <;> simp [h]
theorem peerO_some {p : Place} : ∀ (l : List Link) (i : Nat), (peerO l i p).isSome = l.any (fun y => matchL y p)
  | [], _ => rfl
  | x :: l, i => by
    simp only [peerO, List.any_cons]
    split
    · rename_i h; rw [h]; rfl
    · rename_i h; rw [peerO_some l (i + 1)]; simp [h]
theorem homeO_some {h : Int} : ∀ (l : List Link), (homeO l h).isSome = l.any (fun y => decide (y.fB < 0) && decide (y.fB = -h))
  | [] => rfl
  | x :: l => by
    simp only [homeO, List.any_cons]
    split
    · rename_i h; rw [h]; rfl
    · rename_i h; rw [homeO_some l]; simp [h]
theorem rightL_facts {x : Link} {size : Int} (h : rightL x size = true) : 1 ≤ x.fA ∧ x.fA ≤ size ∧ 1 ≤ x.fPortA ∧ x.fPortA ≤ 16 ∧ x.fB ≠ 0 ∧ x.fB ≠ x.fA ∧ x.fB ≤ size ∨ x.fB < 0 ∧ 1 ≤ x.fA ∧ x.fA ≤ size ∧ 1 ≤ x.fPortA ∧ x.fPortA ≤ 16 := by
  unfold rightL at h
  simp only [Bool.and_eq_true, decide_eq_true_eq] at h
  obtain ⟨⟨h1, _⟩, h2⟩ := h
  split at h2
  · exact .inr ⟨by assumption, h1.1, h1.2.1, h1.2.2.1, h1.2.2.2⟩
  · simp only [decide_eq_true_eq] at h2; exact .inl ⟨h1.1, h1.2.1, h1.2.2.1, h1.2.2.2, h2.1, h2.2.2.1, h2.2.1⟩
theorem rightL_basic {x : Link} {size : Int} (h : rightL x size = true) : 1 ≤ x.fA ∧ x.fA ≤ size ∧ 1 ≤ x.fPortA ∧ x.fPortA ≤ 16 ∧ x.fB ≠ 0 ∧ x.fB ≠ x.fA := by
  rcases rightL_facts h with h | h <;> exact ⟨by omega, by omega, by omega, by omega, by omega, by omega⟩
theorem joinS_rep {s s' : TopS} {l : List Link} {x : Link} {size : Int} (h : Rep s l) (hr : rightL x size = true) (hj : joinS s x = some s') : Rep s' (l ++ [x]) := by
  have hb := rightL_basic hr
  have hlen : s.costs.length = l.length := by rw [h.costs]; simp
  unfold joinS at hj
  split at hj
  · cases hj
  · split at hj
    · rename_i hneg
      split at hj
      · cases hj
      · cases hj
        refine ⟨by simp [h.costs], fun p => ?_, fun n => ?_⟩
        · simp only
          rw [lookL_append, h.ends, peerO_append, lookL_one]
          cases peerO l 0 p with
          | some e => rfl
          | none =>
            obtain ⟨p1, p2⟩ := p
            simp only [matchL, destL, Prod.mk.injEq, show ¬ 0 < x.fB from by omega, decide_false, Bool.false_and, Bool.and_false, Bool.or_false, Bool.and_eq_true, decide_eq_true_eq, hlen, Nat.zero_add]
            by_cases h1 : x.fA = p1 ∧ x.fPortA = p2
            · simp [h1.1, h1.2]
            · rw [if_neg h1, if_neg h1]; rfl
        · simp only
          rw [lookL_append, h.homes, homeO_append, lookL_one]
          cases homeO l n with
          | some e => rfl
          | none =>
            simp only [Bool.and_eq_true, decide_eq_true_eq]
            by_cases h1 : -x.fB = n
            · rw [if_pos h1, if_pos ⟨hneg, by omega⟩]
            · rw [if_neg h1, if_neg (by omega)]; rfl
    · rename_i hneg
      split at hj
      · cases hj
      · cases hj
        refine ⟨by simp [h.costs], fun p => ?_, fun n => ?_⟩
        · simp only
          rw [lookL_append, h.ends, peerO_append, lookL_one, lookL_one]
          cases peerO l 0 p with
          | some e => rfl
          | none =>
            obtain ⟨p1, p2⟩ := p
            simp only [matchL, destL, Prod.mk.injEq, show 0 < x.fB from by omega, decide_true, Bool.true_and, Bool.and_eq_true, Bool.or_eq_true, decide_eq_true_eq, hlen, Nat.zero_add]
            by_cases h1 : x.fB = p1 ∧ x.fPortB = p2
            · have h2 : ¬ (x.fA = p1 ∧ x.fPortA = p2) := by omega
              rw [if_pos h1, if_pos (.inr h1), if_neg h2]
            · rw [if_neg h1]
              by_cases h2 : x.fA = p1 ∧ x.fPortA = p2
              · rw [if_pos h2, if_pos (.inl h2), if_pos h2]
              · rw [if_neg h2, if_neg (by rintro (h | h); exact h2 h; exact h1 h)]; rfl
        · simp only
          rw [h.homes, homeO_append]
          cases homeO l n with
          | some e => rfl
          | none => simp [show ¬ x.fB < 0 from hneg]
/-- What the reference asks of a link and of the links ahead of it. -/
def usesL (y : Link) (sw p : Int) : Bool := (decide (y.fA = sw) && decide (y.fPortA = p)) || (decide (y.fB = sw) && decide (y.fPortB = p))
def clashL (x y : Link) : Bool := (usesL y x.fA x.fPortA || (decide (0 < x.fB) && usesL y x.fB x.fPortB)) || (decide (x.fB < 0) && decide (y.fB = x.fB))
theorem any_or' {α : Type} (f g : α → Bool) : ∀ l : List α, l.any (fun y => f y || g y) = (l.any f || l.any g)
  | [] => rfl
  | x :: l => by
    simp only [List.any_cons, any_or' f g l]
    cases f x <;> cases g x <;> cases l.any f <;> cases l.any g <;> rfl
theorem uses_match {y : Link} {sw p : Int} (h : 0 < sw) : usesL y sw p = matchL y (sw, p) := by
  unfold usesL matchL
  by_cases h1 : y.fB = sw
  · simp [h1, h]
  · simp [h1]
theorem joinS_some {s : TopS} {l : List Link} {x : Link} {size : Int} (h : Rep s l) (hr : rightL x size = true) : (joinS s x).isSome = !l.any (clashL x) := by
  have hb := rightL_basic hr
  have e1 : (lookL s.ends (x.fA, x.fPortA)).isSome = l.any (fun y => usesL y x.fA x.fPortA) := by
    rw [h.ends, peerO_some]
    congr 1; funext y; exact (uses_match (by omega)).symm
  unfold joinS
  rw [e1]
  by_cases hneg : x.fB < 0
  · have e2 : (lookL s.homes (-x.fB)).isSome = l.any (fun y => decide (y.fB = x.fB)) := by
      rw [h.homes, homeO_some]
      congr 1; funext y
      by_cases hy : y.fB = x.fB
      · simp [hy, hneg]
      · simp [hy]
    have e3 : clashL x = fun y => usesL y x.fA x.fPortA || decide (y.fB = x.fB) := by
      funext y; unfold clashL; simp [hneg, show ¬ 0 < x.fB from by omega]
    rw [e2, e3, if_pos hneg, any_or']
    cases l.any (fun y => usesL y x.fA x.fPortA) <;> cases l.any (fun y => decide (y.fB = x.fB)) <;> rfl
  · have e2 : (lookL s.ends (x.fB, x.fPortB)).isSome = l.any (fun y => usesL y x.fB x.fPortB) := by
      rw [h.ends, peerO_some]
      congr 1; funext y; exact (uses_match (by omega)).symm
    have e3 : clashL x = fun y => usesL y x.fA x.fPortA || usesL y x.fB x.fPortB := by
      funext y; unfold clashL; simp [hneg, show 0 < x.fB from by omega]
    rw [e2, e3, if_neg hneg, any_or']
    cases l.any (fun y => usesL y x.fA x.fPortA) <;> cases l.any (fun y => usesL y x.fB x.fPortB) <;> rfl
def rAll (size : Int) : List Link → List Link → Bool
  | _, [] => true
  | pre, x :: l => rightL x size && (!pre.any (clashL x) && rAll size (pre ++ [x]) l)
def rNewF (size : Int) (l : List Link) : Bool := !badNew size l.length && rAll size [] l
theorem joinsF_rep {size : Int} : ∀ (l pre : List Link) (s : TopS), Rep s pre → (joinsF size s l).isSome = rAll size pre l ∧ ∀ s', joinsF size s l = some s' → Rep s' (pre ++ l)
  | [], pre, s, h => ⟨rfl, fun s' e => by cases e; simpa using h⟩
  | x :: l, pre, s, h => by
    unfold joinsF rAll
    by_cases hr : rightL x size = true
    · rw [if_pos hr, hr, ← joinS_some h hr]
      cases hj : joinS s x with
      | none => exact ⟨rfl, fun s' e => by cases e⟩
      | some s2 =>
        have := joinsF_rep (size := size) l (pre ++ [x]) s2 (joinS_rep h hr hj)
        simp only [List.append_assoc, List.singleton_append] at this
        exact ⟨by simpa using this.1, this.2⟩
    · rw [if_neg hr]
      exact ⟨by simp [hr], fun s' e => by cases e⟩
theorem newF_rep {size : Int} {l : List Link} : (newF size l).isSome = rNewF size l ∧ ∀ s, newF size l = some s → Rep s l := by
  have := joinsF_rep (size := size) l [] ⟨size, [], [], []⟩ ⟨rfl, fun p => rfl, fun h => rfl⟩
  unfold newF rNewF
  cases badNew size l.length
  · simpa using this
  · exact ⟨rfl, fun s e => by cases e⟩
end Go.Proofs.Ytggcmhjeflofmaa
