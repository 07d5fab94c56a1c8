/- What leads where leads back (plain). -/
import Derived.Test.YtggcmhjeflofmaaTopoP
import Derived.Test.YtggcmhjeflofmaaTopoL
namespace Go.Proofs.Ytggcmhjeflofmaa
open Go.RowKit Go.Maps
set_option linter.unusedVariables false
set_option linter.unusedSimpArgs false

structure Sym (s : TopS) : Prop where
  num : ∀ p e, lookL s.ends p = some e → 1 ≤ e.2 ∧ e.2 ≤ (s.costs.length : Int)
  at_ : ∀ p e, lookL s.ends p = some e → 1 ≤ p.1 ∧ p.1 ≤ s.size ∧ 1 ≤ p.2 ∧ p.2 ≤ 16
  host : ∀ p e, lookL s.ends p = some e → e.1.1 < 0 → e.1.2 = 0 ∧ lookL s.homes (-e.1.1) = some p
  back : ∀ p e, lookL s.ends p = some e → 0 ≤ e.1.1 → 0 < e.1.1 ∧ lookL s.ends e.1 = some (p, e.2) ∧ e.1.1 ≠ p.1
theorem lookL_old {α β : Type} [DecidableEq α] {l l' : List (α × β)} {x : α} {y : β} (h : lookL l x = some y) : lookL (l ++ l') x = some y := by
  rw [lookL_append, h]
theorem lookL_new {α β : Type} [DecidableEq α] {l l' : List (α × β)} {x : α} (h : lookL l x = none) : lookL (l ++ l') x = lookL l' x := by
  rw [lookL_append, h]
theorem rightL_host {x : Link} {size : Int} (h : rightL x size = true) (hb : x.fB < 0) : x.fPortB = 0 := by
  unfold rightL at h
  rw [if_pos hb] at h
  simp only [Bool.and_eq_true, decide_eq_true_eq] at h
  exact h.2.2
theorem rightL_two {x : Link} {size : Int} (h : rightL x size = true) (hb : ¬ x.fB < 0) : 1 ≤ x.fB ∧ x.fB ≤ size ∧ 1 ≤ x.fPortB ∧ x.fPortB ≤ 16 := by
  unfold rightL at h
  rw [if_neg hb] at h
  simp only [Bool.and_eq_true, decide_eq_true_eq] at h
  obtain ⟨_, h1, h2, _, h3, h4⟩ := h
  exact ⟨by omega, h2, h3, h4⟩
theorem joinS_sym {s s' : TopS} {x : Link} {size : Int} (h : Sym s) (hsz : s.size = size) (hr : rightL x size = true) (hj : joinS s x = some s') : Sym s' := by
  have hb := rightL_basic hr
  unfold joinS at hj
  split at hj
  · cases hj
  · rename_i hA
    have hA' : lookL s.ends (x.fA, x.fPortA) = none := by simpa using hA
    split at hj
    · rename_i hneg
      have hp0 := rightL_host hr hneg
      split at hj
      · cases hj
      · rename_i hH
        have hH' : lookL s.homes (-x.fB) = none := by simpa using hH
        cases hj
        have key : ∀ p e, lookL (s.ends ++ [((x.fA, x.fPortA), (x.fB, x.fPortB), (s.costs.length : Int) + 1)]) p = some e → lookL s.ends p = some e ∨ (p = (x.fA, x.fPortA) ∧ e = ((x.fB, x.fPortB), (s.costs.length : Int) + 1)) := fun p e he => by
          cases hl : lookL s.ends p with
          | some e' => rw [lookL_old hl] at he; exact .inl he
          | none =>
            rw [lookL_new hl, lookL_one] at he
            split at he
            · rename_i h1; cases he; exact .inr ⟨h1.symm, rfl⟩
            · cases he
        refine ⟨fun p e he => ?_, fun p e he => ?_, fun p e he h0 => ?_, fun p e he h0 => ?_⟩
        · rcases key p e he with h1 | ⟨rfl, rfl⟩
          · have := h.num p e h1; simp; omega
          · simp; omega
        · rcases key p e he with h1 | ⟨rfl, rfl⟩
          · exact h.at_ p e h1
          · simp only; omega
        · rcases key p e he with h1 | ⟨rfl, rfl⟩
          · have := h.host p e h1 h0; exact ⟨this.1, lookL_old this.2⟩
          · exact ⟨hp0, by simp only; rw [lookL_new hH', lookL_one, if_pos rfl]⟩
        · rcases key p e he with h1 | ⟨rfl, rfl⟩
          · have := h.back p e h1 h0; exact ⟨this.1, lookL_old this.2.1, this.2.2⟩
          · simp only at h0; omega
    · rename_i hneg
      have h2 := rightL_two hr hneg
      split at hj
      · cases hj
      · rename_i hB
        have hB' : lookL s.ends (x.fB, x.fPortB) = none := by simpa using hB
        cases hj
        have hab : (x.fB, x.fPortB) ≠ (x.fA, x.fPortA) := fun e => hb.2.2.2.2.2 (Prod.mk.inj e).1
        have key : ∀ p e, lookL (s.ends ++ [((x.fB, x.fPortB), (x.fA, x.fPortA), (s.costs.length : Int) + 1), ((x.fA, x.fPortA), (x.fB, x.fPortB), (s.costs.length : Int) + 1)]) p = some e → lookL s.ends p = some e ∨ (p = (x.fA, x.fPortA) ∧ e = ((x.fB, x.fPortB), (s.costs.length : Int) + 1)) ∨ (p = (x.fB, x.fPortB) ∧ e = ((x.fA, x.fPortA), (s.costs.length : Int) + 1)) := fun p e he => by
          cases hl : lookL s.ends p with
          | some e' => rw [lookL_old hl] at he; exact .inl he
          | none =>
            rw [lookL_new hl, lookL_one, lookL_one] at he
            split at he
            · rename_i h1; cases he; exact .inr (.inr ⟨h1.symm, rfl⟩)
            · split at he
              · rename_i h1; cases he; exact .inr (.inl ⟨h1.symm, rfl⟩)
              · cases he
        refine ⟨fun p e he => ?_, fun p e he => ?_, fun p e he h0 => ?_, fun p e he h0 => ?_⟩
        · rcases key p e he with h1 | ⟨rfl, rfl⟩ | ⟨rfl, rfl⟩
          · have := h.num p e h1; simp; omega
          · simp; omega
          · simp; omega
        · rcases key p e he with h1 | ⟨rfl, rfl⟩ | ⟨rfl, rfl⟩
          · exact h.at_ p e h1
          · simp only; omega
          · simp only; omega
        · rcases key p e he with h1 | ⟨rfl, rfl⟩ | ⟨rfl, rfl⟩
          · exact h.host p e h1 h0
          · simp only at h0; omega
          · simp only at h0; omega
        · rcases key p e he with h1 | ⟨rfl, rfl⟩ | ⟨rfl, rfl⟩
          · have := h.back p e h1 h0; exact ⟨this.1, lookL_old this.2.1, this.2.2⟩
          · exact ⟨by simp only; omega, by simp only; rw [lookL_new hB', lookL_one, if_pos rfl], by simp only; omega⟩
          · exact ⟨by simp only; omega, by simp only; rw [lookL_new hA', lookL_one, if_neg hab, lookL_one, if_pos rfl], by simp only; omega⟩
theorem joinsF_sym {size : Int} : ∀ (l : List Link) (s s' : TopS), Sym s → s.size = size → joinsF size s l = some s' → Sym s'
  | [], s, s', h, _, e => by cases e; exact h
  | x :: l, s, s', h, hs, e => by
    unfold joinsF at e
    split at e
    · rename_i hr
      cases hj : joinS s x with
      | none => rw [hj] at e; cases e
      | some s2 =>
        rw [hj] at e
        have hs2 : s2.size = size := by
          unfold joinS at hj
          split at hj
          · cases hj
          · split at hj <;> split at hj <;> cases hj <;> exact hs
        exact joinsF_sym l s2 s' (joinS_sym h hs hr hj) hs2 e
    · cases e
theorem sym_nil (size : Int) : Sym ⟨size, [], [], []⟩ where
  num := fun p e he => by cases he
  at_ := fun p e he => by cases he
  host := fun p e he => by cases he
  back := fun p e he => by cases he
theorem newF_sym {size : Int} {l : List Link} {s : TopS} (h : newF size l = some s) : Sym s := by
  unfold newF at h
  split at h
  · cases h
  · exact joinsF_sym l _ s (sym_nil size) rfl h
/-- An edge goes both ways. -/
theorem edge_symm {s : TopS} {down : List Int} (h : Sym s) (a b : Int) (he : EdgeR s down a b) : EdgeR s down b a := by
  obtain ⟨p, hp, rfl, h0, hd⟩ := he
  unfold peerF at h0 hd ⊢
  cases hl : lookL s.ends (a, p) with
  | none => rw [hl] at h0; simp at h0
  | some e =>
    rw [hl] at h0 hd
    simp only at h0 hd ⊢
    have h1 := h.back _ _ hl (by omega)
    have h2 := h.at_ _ _ h1.2.1
    have h3 := h.at_ _ _ hl
    refine ⟨e.1.2, ?_, ?_, h3.1, ?_⟩
    · have : ∀ k : Nat, e.1.2 ≤ (k : Int) → e.1.2 ∈ portsTo s e.1.1 k := by
        intro k
        induction k with
        | zero => intro hk; omega
        | succ k ih =>
          intro hk
          unfold portsTo
          by_cases hkk : e.1.2 ≤ (k : Int)
          · exact List.mem_append_left _ (ih hkk)
          · have e1 : e.1.2 = (k : Int) + 1 := by omega
            apply List.mem_append_right
            have : hasP s e.1.1 ((k : Int) + 1) = true := by
              unfold hasP
              rw [← e1, h1.2.1]
              rfl
            rw [if_pos this, e1]
            exact List.mem_singleton.2 rfl
      exact this 16 (by omega)
    · unfold peerF; rw [h1.2.1]
    · unfold peerF; rw [h1.2.1]; exact hd
/-- Reach goes both ways. -/
theorem reach_both {s : TopS} {down : List Int} (hs : TopOk s) (h : Sym s) (a b : Int) : ((reachF s down a).contains b = (reachF s down b).contains a) ∧ ((reachF s down a).contains b = true → reachF s down a = reachF s down b) := by
  obtain ⟨a1, a2, a3, a4⟩ := reachF_spec (s := s) (down := down) (sw := a) hs
  obtain ⟨b1, b2, b3, b4⟩ := reachF_spec (s := s) (down := down) (sw := b) hs
  have hsy := edge_symm (down := down) h
  have hm : b ∈ reachF s down a → a ∈ reachF s down b := fun hx => by
    have := (a4 b).1 hx
    exact (b4 a).2 ⟨a3 b hx, this.2.symm hsy⟩
  have hm2 : a ∈ reachF s down b → b ∈ reachF s down a := fun hx => by
    have := (b4 a).1 hx
    exact (a4 b).2 ⟨b3 a hx, this.2.symm hsy⟩
  refine ⟨?_, fun hc => ?_⟩
  · rw [Bool.eq_iff_iff, List.contains_iff_mem, List.contains_iff_mem]
    exact ⟨hm, hm2⟩
  · have hb := List.contains_iff_mem.1 hc
    have hcn := ((a4 b).1 hb).2
    refine sorted_eq _ _ a1 a2 b1 b2 (fun x => ⟨fun hx => ?_, fun hx => ?_⟩)
    · exact (b4 x).2 ⟨a3 b hb, (hcn.symm hsy).trans ((a4 x).1 hx).2⟩
    · exact (a4 x).2 ⟨((a4 b).1 hb).1, hcn.trans ((b4 x).1 hx).2⟩
end Go.Proofs.Ytggcmhjeflofmaa
