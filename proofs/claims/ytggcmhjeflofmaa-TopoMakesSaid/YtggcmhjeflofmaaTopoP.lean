/- What can be reached (plain): the search finds all that is connected, and nothing else. -/
import Derived.Test.YtggcmhjeflofmaaTopoK
namespace Go.Proofs.Ytggcmhjeflofmaa
open Go.RowKit Go.Maps
set_option linter.unusedVariables false
set_option linter.unusedSimpArgs false

def EdgeR (s : TopS) (down : List Int) (a b : Int) : Prop := ∃ p, p ∈ portsF s a ∧ (peerF s (a, p)).1 = b ∧ 0 < b ∧ down.contains (peerF s (a, p)).2.2 = false
inductive Conn (E : Int → Int → Prop) (a : Int) : Int → Prop
  | refl : Conn E a a
  | step {b c : Int} : Conn E a b → E b c → Conn E a c
theorem Conn.trans {E : Int → Int → Prop} {a b c : Int} (h1 : Conn E a b) (h2 : Conn E b c) : Conn E a c := by
  induction h2 with
  | refl => exact h1
  | step _ e ih => exact .step ih e
theorem Conn.symm {E : Int → Int → Prop} (hE : ∀ a b, E a b → E b a) {a b : Int} (h : Conn E a b) : Conn E b a := by
  induction h with
  | refl => exact .refl
  | step _ e ih => exact (Conn.step .refl (hE _ _ e)).trans ih
theorem stepR_mem {s : TopS} {down : List Int} {cur p : Int} {out : List Int} {x : Int} (h : x ∈ out) : x ∈ stepR s down cur p out := by
  unfold stepR; split
  · exact List.mem_append_left _ h
  · exact h
theorem innerR_mem {s : TopS} {down : List Int} {cur x : Int} : ∀ (ps : List Int) (out : List Int), x ∈ out → x ∈ innerR s down cur ps out
  | [], _, h => h
  | p :: ps, out, h => innerR_mem ps _ (stepR_mem h)
theorem stepR_ok {s : TopS} {down : List Int} {cur p : Int} {out : List Int} (hs : TopOk s) (h : OutOk s out) : OutOk s (stepR s down cur p out) := by
  unfold stepR mayR
  split
  · rename_i hm
    simp only [Bool.and_eq_true, decide_eq_true_eq, Bool.not_eq_true'] at hm
    exact h.app (by omega) (hs.peer _) hm.2.2
  · exact h
theorem innerR_ok {s : TopS} {down : List Int} {cur : Int} (hs : TopOk s) : ∀ (ps : List Int) (out : List Int), OutOk s out → OutOk s (innerR s down cur ps out)
  | [], _, h => h
  | p :: ps, out, h => innerR_ok hs ps _ (stepR_ok hs h)
theorem innerR_pre {s : TopS} {down : List Int} {cur : Int} : ∀ (ps : List Int) (out : List Int), ∃ l, innerR s down cur ps out = out ++ l
  | [], out => ⟨[], by simp [innerR]⟩
  | p :: ps, out => by
    obtain ⟨l, hl⟩ := innerR_pre (s := s) (down := down) (cur := cur) ps (stepR s down cur p out)
    unfold innerR
    rw [hl]
    unfold stepR
    split
    · exact ⟨_, by rw [List.append_assoc]⟩
    · exact ⟨l, rfl⟩
theorem innerR_edge {s : TopS} {down : List Int} {cur p : Int} : ∀ (ps : List Int) (out : List Int), p ∈ ps → 0 < (peerF s (cur, p)).1 → down.contains (peerF s (cur, p)).2.2 = false → (peerF s (cur, p)).1 ∈ innerR s down cur ps out
  | [], _, h, _, _ => by cases h
  | q :: ps, out, h, h1, h2 => by
    unfold innerR
    rcases List.mem_cons.1 h with rfl | h
    · apply innerR_mem
      unfold stepR mayR
      split
      · simp
      · rename_i hm
        simp only [Bool.and_eq_true, decide_eq_true_eq, Bool.not_eq_true', not_and, Bool.not_eq_false] at hm
        have := hm h1 h2
        simpa using this
    · exact innerR_edge ps _ h h1 h2
theorem innerR_sound {s : TopS} {down : List Int} {cur x : Int} : ∀ (ps : List Int) (out : List Int), x ∈ innerR s down cur ps out → x ∈ out ∨ ∃ p, p ∈ ps ∧ (peerF s (cur, p)).1 = x ∧ 0 < x ∧ down.contains (peerF s (cur, p)).2.2 = false
  | [], _, h => .inl h
  | q :: ps, out, h => by
    unfold innerR at h
    rcases innerR_sound ps _ h with h | ⟨p, hp, h⟩
    · unfold stepR mayR at h
      split at h
      · rename_i hm
        simp only [Bool.and_eq_true, decide_eq_true_eq, Bool.not_eq_true'] at hm
        rcases List.mem_append.1 h with h | h
        · exact .inl h
        · obtain rfl := List.mem_singleton.1 h
          exact .inr ⟨q, List.mem_cons_self .., rfl, hm.1, hm.2.1⟩
      · exact .inl h
    · exact .inr ⟨p, List.mem_cons_of_mem _ hp, h⟩
theorem outer_spec {s : TopS} {down : List Int} {sw : Int} (hs : TopOk s) : ∀ (f i : Nat) (out : List Int), OutOk s out → i ≤ out.length → 33 ≤ f + i →
    (∀ j (hj : j < i) (hl : j < out.length) b, EdgeR s down out[j] b → b ∈ out) → (∀ x ∈ out, Conn (EdgeR s down) sw x) →
    OutOk s (outerR s down f i out) ∧ (∀ x ∈ out, x ∈ outerR s down f i out) ∧ (∀ a ∈ outerR s down f i out, ∀ b, EdgeR s down a b → b ∈ outerR s down f i out) ∧ ∀ x ∈ outerR s down f i out, Conn (EdgeR s down) sw x
  | 0, i, out, h1, h2, h3, _, _ => by have := h1.len hs; omega
  | f + 1, i, out, h1, h2, h3, h4, h5 => by
    by_cases hlt : i < out.length
    · rw [outer_some hlt]
      obtain ⟨l, hl⟩ := innerR_pre (s := s) (down := down) (cur := out[i]) (portsF s out[i]) out
      have hok := innerR_ok (down := down) (cur := out[i]) hs (portsF s out[i]) out h1
      have hedge : ∀ b, EdgeR s down out[i] b → b ∈ innerR s down out[i] (portsF s out[i]) out := fun b hb => by
        obtain ⟨p, hp, rfl, h0, hd⟩ := hb
        exact innerR_edge _ _ hp h0 hd
      have hsound : ∀ x ∈ innerR s down out[i] (portsF s out[i]) out, Conn (EdgeR s down) sw x := fun x hx => by
        rcases innerR_sound _ _ hx with hx | ⟨p, hp, he⟩
        · exact h5 x hx
        · exact .step (h5 _ (List.getElem_mem hlt)) ⟨p, hp, he⟩
      generalize innerR s down out[i] (portsF s out[i]) out = o2 at *
      subst hl
      have := outer_spec (down := down) (sw := sw) hs f (i + 1) (out ++ l) hok (by rw [List.length_append]; omega) (by omega)
        (fun j hj hjl b hb => by
          have hjo : j < out.length := by omega
          rw [List.getElem_append_left hjo] at hb
          rcases Nat.lt_or_ge j i with h | h
          · exact List.mem_append_left _ (h4 j h hjo b hb)
          · obtain rfl : j = i := by omega
            exact hedge b hb) hsound
      exact ⟨this.1, fun x hx => this.2.1 x (List.mem_append_left _ hx), this.2.2⟩
    · rw [outer_none hlt]
      have hi : i = out.length := by omega
      refine ⟨h1, fun x hx => hx, fun a ha b hb => ?_, h5⟩
      obtain ⟨j, hj, rfl⟩ := List.getElem_of_mem ha
      exact h4 j (by omega) hj b hb
theorem conn_closed {E : Int → Int → Prop} {a : Int} {r : List Int} (ha : a ∈ r) (hc : ∀ x ∈ r, ∀ y, E x y → y ∈ r) : ∀ x, Conn E a x → x ∈ r := by
  intro x h
  induction h with
  | refl => exact ha
  | step _ e ih => exact hc _ ih _ e
theorem reachF_spec {s : TopS} {down : List Int} {sw : Int} (hs : TopOk s) : (reachF s down sw).Pairwise (· ≤ ·) ∧ (reachF s down sw).Nodup ∧ (∀ x ∈ reachF s down sw, 1 ≤ x ∧ x ≤ s.size) ∧ ∀ x, x ∈ reachF s down sw ↔ (1 ≤ sw ∧ sw ≤ s.size) ∧ Conn (EdgeR s down) sw x := by
  unfold reachF
  split
  · rename_i h
    simp only [Bool.or_eq_true, decide_eq_true_eq] at h
    exact ⟨List.Pairwise.nil, List.nodup_nil, by simp, fun x => ⟨fun hx => by simp at hx, fun hx => by omega⟩⟩
  · rename_i h
    simp only [Bool.or_eq_true, decide_eq_true_eq, not_or] at h
    have h0 : OutOk s [sw] := ⟨by simp, fun x hx => by obtain rfl := List.mem_singleton.1 hx; omega⟩
    have hsp := outer_spec (down := down) (sw := sw) hs 40 0 [sw] h0 (Nat.zero_le _) (by omega) (fun j hj => by omega) (fun x hx => by obtain rfl := List.mem_singleton.1 hx; exact .refl)
    generalize outerR s down 40 0 [sw] = r at *
    have hp : (sortI r).Perm r := List.mergeSort_perm ..
    refine ⟨?_, hp.symm.nodup hsp.1.1, fun x hx => hsp.1.2 x (hp.mem_iff.1 hx), fun x => ⟨fun hx => ⟨by omega, hsp.2.2.2 x (hp.mem_iff.1 hx)⟩, fun hx => hp.mem_iff.2 (conn_closed (hsp.2.1 sw (by simp)) hsp.2.2.1 x hx.2)⟩⟩
    have := List.pairwise_mergeSort (le := fun x y : Int => decide (x ≤ y)) (fun a b c h1 h2 => by simp at *; omega) (fun a b => by simp; omega) r
    exact this.imp (fun h => by simpa using h)
theorem sorted_eq : ∀ (l1 l2 : List Int), l1.Pairwise (· ≤ ·) → l1.Nodup → l2.Pairwise (· ≤ ·) → l2.Nodup → (∀ x, x ∈ l1 ↔ x ∈ l2) → l1 = l2
  | [], [], _, _, _, _, _ => rfl
  | [], y :: l2, _, _, _, _, h => by have := (h y).2 (List.mem_cons_self ..); cases this
  | x :: l1, [], _, _, _, _, h => by have := (h x).1 (List.mem_cons_self ..); cases this
  | x :: l1, y :: l2, p1, n1, p2, n2, h => by
    rw [List.pairwise_cons] at p1 p2
    rw [List.nodup_cons] at n1 n2
    have e : x = y := by
      have h1 := (h x).1 (List.mem_cons_self ..)
      have h2 := (h y).2 (List.mem_cons_self ..)
      rcases List.mem_cons.1 h1 with h1 | h1
      · exact h1
      · rcases List.mem_cons.1 h2 with h2 | h2
        · exact h2.symm
        · have := p1.1 y h2
          have := p2.1 x h1
          omega
    subst e
    congr 1
    refine sorted_eq l1 l2 p1.2 n1.2 p2.2 n2.2 (fun z => ⟨fun hz => ?_, fun hz => ?_⟩)
    · rcases List.mem_cons.1 ((h z).1 (List.mem_cons_of_mem _ hz)) with rfl | h'
      · exact absurd hz n1.1
      · exact h'
    · rcases List.mem_cons.1 ((h z).2 (List.mem_cons_of_mem _ hz)) with rfl | h'
      · exact absurd hz n2.1
      · exact h'
end Go.Proofs.Ytggcmhjeflofmaa
