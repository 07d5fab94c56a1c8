/- What the reference reaches is what the program reaches (plain). -/
import Derived.Test.YtggcmhjeflofmaaTopoV
namespace Go.Proofs.Ytggcmhjeflofmaa
open Go.RowKit Go.Maps
set_option linter.unusedVariables false
set_option linter.unusedSimpArgs false

/-- Each link's port leads to its other end. -/
def Lays (s : TopS) (l : List Link) : Prop := ∀ j (hj : j < l.length), lookL s.ends (l[j].fA, l[j].fPortA) = some ((l[j].fB, l[j].fPortB), (j : Int) + 1)
theorem joinS_lays {s s' : TopS} {l : List Link} {x : Link} {size : Int} (h : Lays s l) (hc : s.costs.length = l.length) (hr : rightL x size = true) (hj : joinS s x = some s') : Lays s' (l ++ [x]) ∧ s'.costs.length = (l ++ [x]).length := by
  have hb := rightL_basic hr
  have fin : ∀ s2 : TopS, (∀ p e, lookL s.ends p = some e → lookL s2.ends p = some e) → lookL s2.ends (x.fA, x.fPortA) = some ((x.fB, x.fPortB), (l.length : Int) + 1) → Lays s2 (l ++ [x]) := fun s2 h1 h2 j hj => by
    rw [List.getElem_append]
    split
    · rename_i hlt; exact h1 _ _ (h j hlt)
    · rename_i hlt
      have hj' : j < l.length + 1 := by simpa using hj
      have : j = l.length := by omega
      subst this
      simpa using h2
  have hlen := joinS_len hj
  refine ⟨?_, by rw [hlen, hc]; simp⟩
  unfold joinS at hj
  split at hj
  · cases hj
  · rename_i hA
    have hA' : lookL s.ends (x.fA, x.fPortA) = none := by simpa using hA
    split at hj
    · split at hj
      · cases hj
      · cases hj
        refine fin _ (fun p e he => lookL_old he) ?_
        simp only
        rw [lookL_new hA', lookL_one, if_pos rfl, hc]
    · split at hj
      · cases hj
      · cases hj
        refine fin _ (fun p e he => lookL_old he) ?_
        simp only
        rw [lookL_new hA', lookL_one, if_neg (by simp only [Prod.mk.injEq, not_and]; intro h; exact absurd h (by omega)), lookL_one, if_pos rfl, hc]
theorem joinsF_lays {size : Int} : ∀ (l pre : List Link) (s s' : TopS), Lays s pre → s.costs.length = pre.length → joinsF size s l = some s' → Lays s' (pre ++ l)
  | [], pre, s, s', h, _, e => by cases e; simpa using h
  | x :: l, pre, s, s', h, hc, e => by
    unfold joinsF at e
    split at e
    · rename_i hr
      cases hj : joinS s x with
      | none => rw [hj] at e; cases e
      | some s2 =>
        rw [hj] at e
        have h2 := joinS_lays h hc hr hj
        have := joinsF_lays l (pre ++ [x]) s2 s' h2.1 h2.2 e
        simpa using this
    · cases e
theorem newF_lays {size : Int} {l : List Link} {s : TopS} (h : newF size l = some s) : Lays s l := by
  unfold newF at h
  split at h
  · cases h
  · have := joinsF_lays l [] ⟨size, [], [], []⟩ s (fun j hj => by simp at hj) rfl h
    simpa using this
theorem rAll_right {size : Int} : ∀ (l pre : List Link), rAll size pre l = true → ∀ x ∈ l, rightL x size = true
  | [], _, _, x, hx => by cases hx
  | y :: l, pre, h, x, hx => by
    unfold rAll at h
    simp only [Bool.and_eq_true] at h
    rcases List.mem_cons.1 hx with rfl | hx
    · exact h.1
    · exact rAll_right l _ h.2.2 x hx
theorem newF_right {size : Int} {l : List Link} {s : TopS} (h : newF size l = some s) : (∀ x ∈ l, rightL x size = true) ∧ 1 ≤ size ∧ size ≤ 32 ∧ l.length ≤ 64 := by
  have h1 := newF_rep (size := size) (l := l)
  have h2 : rNewF size l = true := by rw [← h1.1, h]; rfl
  unfold rNewF badNew at h2
  simp at h2
  exact ⟨rAll_right l [] h2.2, by omega, by omega, by omega⟩
theorem peerO_at {p : Place} {e : Hop} : ∀ (l : List Link) (i : Nat), peerO l i p = some e → ∃ j, ∃ hj : j < l.length, matchL l[j] p = true ∧ e = (destL l[j] p, ((i + j : Nat) : Int) + 1)
  | [], _, h => by simp [peerO] at h
  | x :: l, i, h => by
    unfold peerO at h
    split at h
    · rename_i hm
      exact ⟨0, by simp, hm, by cases h; rfl⟩
    · obtain ⟨j, hj, h1, h2⟩ := peerO_at l (i + 1) h
      exact ⟨j + 1, by simpa using hj, by simpa using h1, by rw [h2, show i + 1 + j = i + (j + 1) by omega]; rfl⟩
theorem portsTo_has {s : TopS} {sw q : Int} (h1 : 1 ≤ q) (hq : hasP s sw q = true) : ∀ k : Nat, q ≤ (k : Int) → q ∈ portsTo s sw k
  | 0, hk => by omega
  | k + 1, hk => by
    unfold portsTo
    by_cases hkk : q ≤ (k : Int)
    · exact List.mem_append_left _ (portsTo_has h1 hq k hkk)
    · have e1 : q = (k : Int) + 1 := by omega
      apply List.mem_append_right
      rw [if_pos (by rw [← e1]; exact hq), e1]
      exact List.mem_singleton.2 rfl
theorem edge_link {s : TopS} {l : List Link} {down : List Int} {size : Int} (hr : Rep s l) (hl : ∀ x ∈ l, rightL x size = true) {a b : Int} (h : EdgeR s down a b) : EdgeL l down 0 a.toNat b.toNat := by
  obtain ⟨p, hp, hb, h0, hd⟩ := h
  unfold peerF at hb hd
  rw [hr.ends] at hb hd
  cases he : peerO l 0 (a, p) with
  | none => rw [he] at hb; simp at hb; omega
  | some e =>
    rw [he] at hb hd
    simp only at hb hd
    obtain ⟨j, hj, hm, rfl⟩ := peerO_at l 0 he
    have hx := rightL_basic (hl _ (List.getElem_mem hj))
    unfold matchL at hm
    unfold destL at hb
    simp only [Bool.or_eq_true, Bool.and_eq_true, decide_eq_true_eq] at hm hb
    by_cases h1 : l[j].fA = a ∧ l[j].fPortA = p
    · rw [if_pos h1] at hb
      simp only at hb
      exact ⟨j, hj, by omega, hd, .inl ⟨by rw [h1.1], by rw [hb]⟩⟩
    · rw [if_neg h1] at hb
      simp only at hb
      have h2 := hm.resolve_left h1
      exact ⟨j, hj, h2.2.1, hd, .inr ⟨by rw [h2.1], by rw [hb]⟩⟩
theorem link_edge {s : TopS} {l : List Link} {down : List Int} {size : Int} (hy : Lays s l) (hs : Sym s) (hl : ∀ x ∈ l, rightL x size = true) {a b : Nat} (h : EdgeL l down 0 a b) : EdgeR s down (a : Int) (b : Int) := by
  obtain ⟨j, hj, h0, hd, he⟩ := h
  have hx := rightL_basic (hl _ (List.getElem_mem hj))
  have hlk := hy j hj
  have hat := hs.at_ _ _ hlk
  simp only at hat
  have e1 : EdgeR s down l[j].fA l[j].fB := by
    refine ⟨l[j].fPortA, portsTo_has hat.2.2.1 (by unfold hasP; rw [hlk]; rfl) 16 (by omega), by unfold peerF; rw [hlk], h0, ?_⟩
    unfold peerF; rw [hlk]
    simpa using hd
  rcases he with ⟨rfl, rfl⟩ | ⟨rfl, rfl⟩
  · rw [Int.toNat_of_nonneg (by omega), Int.toNat_of_nonneg (by omega)]; exact e1
  · rw [Int.toNat_of_nonneg (by omega), Int.toNat_of_nonneg (by omega)]; exact edge_symm hs _ _ e1
theorem startR_on {m : Nat} {sw : Int} {k : Nat} (h : (startR m sw).getD k false = true) : k = sw.toNat := by
  rcases getD_set' h with h | h
  · simp [List.getD_eq_getElem?_getD, List.getElem?_replicate] at h
    split at h <;> simp at h
  · exact h
theorem reach_eq {size : Int} {l : List Link} {s : TopS} (h : newF size l = some s) (down : List Int) (sw : Int) : reachF s down sw = rReachF l size down sw := by
  have hok := (newF_ok h).1
  have hsz := (newF_ok h).2
  have hsy := newF_sym h
  have hrep := newF_rep.2 s h
  have hlay := newF_lays h
  obtain ⟨hl, hz1, hz2, _⟩ := newF_right h
  obtain ⟨a1, a2, a3, a4⟩ := reachF_spec (s := s) (down := down) (sw := sw) hok
  unfold rReachF
  by_cases hsw : 1 ≤ sw ∧ sw ≤ size
  · rw [if_pos (by simpa using hsw)]
    have hli : LinksIn size.toNat l := fun x hx => by
      have hb := rightL_basic (hl x hx)
      refine ⟨hb.1, by omega, ?_⟩
      rcases rightL_facts (hl x hx) with h | h <;> omega
    have hst : (startR size.toNat sw).length = size.toNat + 1 := by simp [startR]
    have hself : (startR size.toNat sw).getD sw.toNat false = true := getD_set_self (by simp; omega)
    have hcl := rounds_closed (down := down) hli hst (fun k hk => by have := startR_on hk; omega) (by
      have : (startR size.toNat sw)[sw.toNat]'(by omega) = true := by
        simpa [List.getD_eq_getElem?_getD, hst, show sw.toNat < size.toNat + 1 by omega] using hself
      have := List.count_pos_iff.2 (this ▸ List.getElem_mem (l := startR size.toNat sw) (by omega))
      exact this)
    refine sorted_eq _ _ a1 a2 (outT_ok _ _).1 (outT_ok _ _).2 fun x => ?_
    rw [a4, outT_mem]
    constructor
    · rintro ⟨_, hc⟩
      have hx := a3 x ((a4 x).2 ⟨by omega, hc⟩)
      refine ⟨hx.1, by omega, ?_⟩
      clear hx
      induction hc with
      | refl => exact roundsR_keep _ _ hself
      | step hc e ih => exact hcl _ _ (edge_link hrep hl e) ih
    · rintro ⟨h1, h2, h3⟩
      refine ⟨by omega, ?_⟩
      have := roundsR_sound (down := down) (l := l) (P := fun k => Conn (EdgeR s down) sw (k : Int)) (fun a b he ha => .step ha (link_edge hlay hsy hl he)) size.toNat (startR size.toNat sw) (fun k hk => by
        rw [startR_on hk, Int.toNat_of_nonneg (by omega)]; exact .refl) x.toNat h3
      rw [Int.toNat_of_nonneg (by omega)] at this
      exact this
  · rw [if_neg (by simpa using hsw)]
    cases hr : reachF s down sw with
    | nil => rfl
    | cons x r =>
      have := (a4 x).1 (by rw [hr]; exact List.mem_cons_self ..)
      omega
end Go.Proofs.Ytggcmhjeflofmaa
