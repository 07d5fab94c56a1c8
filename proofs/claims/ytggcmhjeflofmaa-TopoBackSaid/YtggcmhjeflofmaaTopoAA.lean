/- How many ends there are (plain): two for each link. -/
import Derived.Test.YtggcmhjeflofmaaTopoX
namespace Go.Proofs.Ytggcmhjeflofmaa
open Go.RowKit Go.Maps
set_option linter.unusedVariables false
set_option linter.unusedSimpArgs false

def wtI (d : Int) : Int := if d < 0 then 2 else 1
def wlO : Option Hop → Int
  | none => 0
  | some e => wtI e.1.1
def cntP (s : TopS) (sw : Int) : List Int → Int
  | [] => 0
  | p :: ps => wtI (peerF s (sw, p)).1 + cntP s sw ps
def cntS (s : TopS) : Nat → Int
  | 0 => 0
  | k + 1 => cntS s k + cntP s ((k : Int) + 1) (portsF s ((k : Int) + 1))
def rowSum (f : Place → Int) (sw : Int) : Nat → Int
  | 0 => 0
  | k + 1 => rowSum f sw k + f (sw, (k : Int) + 1)
def gridSum (f : Place → Int) : Nat → Int
  | 0 => 0
  | k + 1 => gridSum f k + rowSum f ((k : Int) + 1) 16
theorem cntP_append (s : TopS) (sw : Int) : ∀ (l m : List Int), cntP s sw (l ++ m) = cntP s sw l + cntP s sw m
  | [], m => by simp [cntP]
  | x :: l, m => by simp only [List.cons_append, cntP, cntP_append s sw l m]; omega
theorem cntP_row (s : TopS) (sw : Int) : ∀ k : Nat, cntP s sw (portsTo s sw k) = rowSum (fun p => wlO (lookL s.ends p)) sw k
  | 0 => rfl
  | k + 1 => by
    unfold portsTo rowSum
    rw [cntP_append, cntP_row s sw k]
    congr 1
    unfold hasP
    cases h : lookL s.ends (sw, (k : Int) + 1) with
    | none => simp [cntP, wlO]
    | some e => simp [cntP, wlO, peerF, h]
theorem cntS_grid (s : TopS) : ∀ k : Nat, cntS s k = gridSum (fun p => wlO (lookL s.ends p)) k
  | 0 => rfl
  | k + 1 => by unfold cntS gridSum; rw [cntS_grid s k, portsF, cntP_row]
theorem rowSum_up {f g : Place → Int} {a b : Int} (h : ∀ p, p ≠ (a, b) → g p = f p) (hb : 1 ≤ b) (sw : Int) : ∀ k : Nat, rowSum g sw k = rowSum f sw k + if sw = a ∧ b ≤ (k : Int) then g (a, b) - f (a, b) else 0
  | 0 => by simp only [rowSum]; rw [if_neg (by omega)]; omega
  | k + 1 => by
    unfold rowSum
    rw [rowSum_up h hb sw k]
    by_cases e : (sw, (k : Int) + 1) = (a, b)
    · have e1 := (Prod.mk.inj e).1
      have e2 := (Prod.mk.inj e).2
      rw [e, if_neg (by omega), if_pos (by omega)]
      omega
    · rw [h _ e]
      have : (sw = a ∧ b ≤ (k : Int)) ↔ (sw = a ∧ b ≤ ((k + 1 : Nat) : Int)) := by
        constructor
        · rintro ⟨h1, h2⟩; exact ⟨h1, by omega⟩
        · rintro ⟨h1, h2⟩
          refine ⟨h1, ?_⟩
          have : (k : Int) + 1 ≠ b := fun e3 => e (by rw [h1, e3])
          omega
      simp only [this]
      omega
theorem gridSum_up {f g : Place → Int} {a b : Int} (h : ∀ p, p ≠ (a, b) → g p = f p) (ha : 1 ≤ a) (hb : 1 ≤ b) (hb2 : b ≤ 16) : ∀ k : Nat, gridSum g k = gridSum f k + if a ≤ (k : Int) then g (a, b) - f (a, b) else 0
  | 0 => by simp only [gridSum]; rw [if_neg (by omega)]; omega
  | k + 1 => by
    unfold gridSum
    rw [gridSum_up h ha hb hb2 k, rowSum_up h hb ((k : Int) + 1) 16]
    by_cases e : (k : Int) + 1 = a
    · rw [if_neg (by omega), if_pos ⟨e, by omega⟩, if_pos (by omega)]
      omega
    · rw [if_neg (c := (k : Int) + 1 = a ∧ b ≤ ((16 : Nat) : Int)) (by omega)]
      by_cases e2 : a ≤ (k : Int)
      · rw [if_pos e2, if_pos (by omega)]; omega
      · rw [if_neg e2, if_neg (by omega)]; omega
theorem look_up {l : List (Place × Hop)} {p : Place} {e : Hop} (hn : lookL l p = none) : (∀ q, q ≠ p → lookL (l ++ [(p, e)]) q = lookL l q) ∧ lookL (l ++ [(p, e)]) p = some e := by
  refine ⟨fun q hq => ?_, by rw [lookL_new hn, lookL_one, if_pos rfl]⟩
  rw [lookL_append]
  cases lookL l q with
  | some _ => rfl
  | none => rw [lookL_one, if_neg (Ne.symm hq)]; rfl
def gridS (s : TopS) (n : Nat) : Int := gridSum (fun p => wlO (lookL s.ends p)) n
theorem grid_add {l : List (Place × Hop)} {p : Place} {e : Hop} {n : Nat} (hn : lookL l p = none) (h1 : 1 ≤ p.1) (h2 : p.1 ≤ n) (h3 : 1 ≤ p.2) (h4 : p.2 ≤ 16) :
    gridSum (fun q => wlO (lookL (l ++ [(p, e)]) q)) n = gridSum (fun q => wlO (lookL l q)) n + wtI e.1.1 := by
  obtain ⟨a, b⟩ := p
  have hu := look_up (e := e) hn
  rw [gridSum_up (f := fun q => wlO (lookL l q)) (a := a) (b := b) (fun q hq => by rw [hu.1 q hq]) h1 h3 h4 n, if_pos h2, hu.2, hn]
  simp [wlO]
theorem joinS_grid {s s' : TopS} {x : Link} {n : Nat} (hr : rightL x (n : Int) = true) (hj : joinS s x = some s') (h : gridS s n = 2 * (s.costs.length : Int)) : gridS s' n = 2 * (s'.costs.length : Int) := by
  have hb := rightL_basic hr
  have hlen := joinS_len hj
  unfold gridS at h ⊢
  unfold joinS at hj
  split at hj
  · cases hj
  · rename_i hA
    have hA' : lookL s.ends (x.fA, x.fPortA) = none := by simpa using hA
    split at hj
    · rename_i hneg
      split at hj
      · cases hj
      · cases hj
        simp only at hlen ⊢
        rw [grid_add hA' (by simp only; omega) (by simp only; omega) (by simp only; omega) (by simp only; omega), h, hlen]
        simp only [wtI, hneg, if_true]
        omega
    · rename_i hneg
      have h2 := rightL_two hr hneg
      split at hj
      · cases hj
      · rename_i hB
        have hB' : lookL s.ends (x.fB, x.fPortB) = none := by simpa using hB
        cases hj
        simp only at hlen ⊢
        have e1 : s.ends ++ [((x.fB, x.fPortB), ((x.fA, x.fPortA), (s.costs.length : Int) + 1)), ((x.fA, x.fPortA), ((x.fB, x.fPortB), (s.costs.length : Int) + 1))] = (s.ends ++ [((x.fB, x.fPortB), ((x.fA, x.fPortA), (s.costs.length : Int) + 1))]) ++ [((x.fA, x.fPortA), ((x.fB, x.fPortB), (s.costs.length : Int) + 1))] := by simp
        have hA2 : lookL (s.ends ++ [((x.fB, x.fPortB), ((x.fA, x.fPortA), (s.costs.length : Int) + 1))]) (x.fA, x.fPortA) = none := by
          rw [(look_up hB').1 _ (by simp only [ne_eq, Prod.mk.injEq, not_and]; intro h; exact absurd h (by omega))]
          exact hA'
        rw [e1, grid_add hA2 (by simp only; omega) (by simp only; omega) (by simp only; omega) (by simp only; omega), grid_add hB' (by simp only; omega) (by simp only; omega) (by simp only; omega) (by simp only; omega), h, hlen]
        have hA0 : ¬ x.fA < 0 := by omega
        simp only [wtI, hneg, hA0, if_false]
        omega
theorem joinsF_grid {n : Nat} : ∀ (l : List Link) (s s' : TopS), gridS s n = 2 * (s.costs.length : Int) → joinsF (n : Int) s l = some s' → gridS s' n = 2 * (s'.costs.length : Int)
  | [], s, s', h, e => by cases e; exact h
  | x :: l, s, s', h, e => by
    unfold joinsF at e
    split at e
    · rename_i hr
      cases hj : joinS s x with
      | none => rw [hj] at e; cases e
      | some s2 =>
        rw [hj] at e
        exact joinsF_grid l s2 s' (joinS_grid hr hj h) e
    · cases e
theorem rowSum_zero (sw : Int) : ∀ k : Nat, rowSum (fun p => wlO (lookL ([] : List (Place × Hop)) p)) sw k = 0
  | 0 => rfl
  | k + 1 => by unfold rowSum; rw [rowSum_zero sw k]; rfl
theorem gridSum_zero : ∀ k : Nat, gridSum (fun p => wlO (lookL ([] : List (Place × Hop)) p)) k = 0
  | 0 => rfl
  | k + 1 => by unfold gridSum; rw [gridSum_zero k, rowSum_zero]; rfl
theorem newF_cnt {size : Int} {l : List Link} {s : TopS} (h : newF size l = some s) : cntS s size.toNat = 2 * (l.length : Int) := by
  have hr := newF_right h
  have hrep := newF_rep.2 s h
  have hc : s.costs.length = l.length := by rw [hrep.costs]; simp
  obtain ⟨n, rfl⟩ : ∃ n : Nat, size = n := ⟨size.toNat, by omega⟩
  rw [cntS_grid, ← hc]
  unfold newF at h
  split at h
  · cases h
  · exact joinsF_grid l _ s (by simp only [gridS]; rw [gridSum_zero]; rfl) h
theorem cntP_bound (s : TopS) (sw : Int) : ∀ l : List Int, 0 ≤ cntP s sw l ∧ cntP s sw l ≤ 2 * (l.length : Int)
  | [] => by simp [cntP]
  | x :: l => by
    have := cntP_bound s sw l
    simp only [cntP, List.length_cons]
    unfold wtI
    split <;> omega
theorem cntS_bound (s : TopS) : ∀ k : Nat, 0 ≤ cntS s k ∧ cntS s k ≤ 32 * (k : Int)
  | 0 => by simp [cntS]
  | k + 1 => by
    have h1 := cntS_bound s k
    have h2 := cntP_bound s ((k : Int) + 1) (portsF s ((k : Int) + 1))
    have h3 := portsTo_len s ((k : Int) + 1) 16
    rw [cntS]
    unfold portsF at *
    omega
theorem cntP_step {s : TopS} {sw : Int} {L : List Int} {i : Nat} (h : i < L.length) : cntP s sw (L.take (i + 1)) = cntP s sw (L.take i) + wtI (peerF s (sw, L[i])).1 := by
  rw [List.take_succ_eq_append_getElem h, cntP_append]
  simp [cntP]
/-- What a port that has a link leads to. -/
theorem port_facts {size : Int} {l : List Link} {s : TopS} (h : newF size l = some s) {sw p : Int} (hp : p ∈ portsF s sw) :
    1 ≤ (peerF s (sw, p)).2.2 ∧ (peerF s (sw, p)).2.2 ≤ (l.length : Int) ∧ -64 ≤ (peerF s (sw, p)).1 ∧ (peerF s (sw, p)).1 ≤ 32 ∧ 0 ≤ (peerF s (sw, p)).2.1 ∧ (peerF s (sw, p)).2.1 ≤ 16 ∧
    ((peerF s (sw, p)).1 < 0 → (peerF s (sw, p)).2.1 = 0 ∧ homeF s (-(peerF s (sw, p)).1) = (sw, p)) ∧
    (¬ (peerF s (sw, p)).1 < 0 → (peerF s (sw, p)).1 ≠ sw ∧ peerF s ((peerF s (sw, p)).1, (peerF s (sw, p)).2.1) = (sw, p, (peerF s (sw, p)).2.2)) := by
  have hsy := newF_sym h
  have hrep := newF_rep.2 s h
  have hr := newF_right h
  have hc : s.costs.length = l.length := by rw [hrep.costs]; simp
  have hhas : ∀ k : Nat, p ∈ portsTo s sw k → hasP s sw p = true := by
    intro k
    induction k with
    | zero => intro h; simp [portsTo] at h
    | succ k ih =>
      intro h
      unfold portsTo at h
      rcases List.mem_append.1 h with h | h
      · exact ih h
      · split at h
        · obtain rfl := List.mem_singleton.1 h; assumption
        · simp at h
  have hh := hhas 16 hp
  unfold hasP at hh
  cases hl : lookL s.ends (sw, p) with
  | none => rw [hl] at hh; cases hh
  | some e =>
    have hpe : peerF s (sw, p) = (e.1.1, e.1.2, e.2) := by unfold peerF; rw [hl]
    rw [hpe]
    have hn := hsy.num _ _ hl
    have hl2 := hl
    rw [hrep.ends] at hl2
    obtain ⟨j, hj, hm, rfl⟩ := peerO_at l 0 hl2
    have hx := hr.1 _ (List.getElem_mem hj)
    have hb := rightL_basic hx
    have hB : -64 ≤ l[j].fB ∧ l[j].fB ≤ 32 ∧ 0 ≤ l[j].fPortB ∧ l[j].fPortB ≤ 16 := by
      by_cases hneg : l[j].fB < 0
      · have := rightL_host hx hneg
        have h2 := rightL_wf hx (by omega)
        refine ⟨h2.2.2.2.2.2, by omega, by omega, by omega⟩
      · have := rightL_two hx hneg
        omega
    refine ⟨hn.1, by rw [← hc]; exact hn.2, ?_, ?_, ?_, ?_, fun hneg => ?_, fun hneg => ?_⟩
    · simp only [destL]; split <;> simp only <;> omega
    · simp only [destL]; split <;> simp only <;> omega
    · simp only [destL]; split <;> simp only <;> omega
    · simp only [destL]; split <;> simp only <;> omega
    · have := hsy.host _ _ hl hneg
      exact ⟨this.1, by unfold homeF; rw [this.2]⟩
    · have := hsy.back _ _ hl (by omega)
      exact ⟨this.2.2, by unfold peerF; rw [this.2.1]⟩
end Go.Proofs.Ytggcmhjeflofmaa
