/- A topology in memory: what can be reached (plain), Reach. -/
import Derived.Test.YtggcmhjeflofmaaTopoH
namespace Go.Proofs.Ytggcmhjeflofmaa
open Go.RowKit Go.Maps
set_option linter.unusedVariables false
set_option linter.unusedSimpArgs false

def mayR (s : TopS) (down : List Int) (cur p : Int) (out : List Int) : Bool := decide (0 < (peerF s (cur, p)).1) && (!down.contains (peerF s (cur, p)).2.2 && !out.contains (peerF s (cur, p)).1)
def stepR (s : TopS) (down : List Int) (cur p : Int) (out : List Int) : List Int := if mayR s down cur p out = true then out ++ [(peerF s (cur, p)).1] else out
def innerR (s : TopS) (down : List Int) (cur : Int) : List Int → List Int → List Int
  | [], out => out
  | p :: ps, out => innerR s down cur ps (stepR s down cur p out)
def outerR (s : TopS) (down : List Int) : Nat → Nat → List Int → List Int
  | 0, _, out => out
  | f + 1, i, out => match out[i]? with
    | none => out
    | some cur => outerR s down f (i + 1) (innerR s down cur (portsF s cur) out)
def reachF (s : TopS) (down : List Int) (sw : Int) : List Int := if (decide (sw < 1) || decide (s.size < sw)) = true then [] else sortI (outerR s down 40 0 [sw])
def TopOk (s : TopS) : Prop := 0 ≤ s.size ∧ s.size ≤ 32 ∧ ∀ p ∈ s.ends, p.2.1.1 ≤ s.size
theorem lookL_mem {α β : Type} [DecidableEq α] {l : List (α × β)} {x : α} {y : β} (h : lookL l x = some y) : (x, y) ∈ l := by
  unfold lookL at h
  cases hf : l.find? (fun p => decide (p.1 = x)) with
  | none => rw [hf] at h; cases h
  | some q =>
    rw [hf] at h
    cases h
    have h1 := List.find?_some hf
    have h2 := List.mem_of_find?_eq_some hf
    obtain rfl : q.1 = x := by simpa using h1
    exact h2
theorem TopOk.peer {s : TopS} (h : TopOk s) (p : Place) : (peerF s p).1 ≤ s.size := by
  unfold peerF
  cases hl : lookL s.ends p with
  | none => exact h.1
  | some e => exact h.2.2 _ (lookL_mem hl)
theorem nodup_len : ∀ (n : Nat) (l : List Int), l.Nodup → (∀ x ∈ l, 1 ≤ x ∧ x ≤ (n : Int)) → l.length ≤ n
  | 0, l, _, h => by
    cases l with
    | nil => simp
    | cons x l => have := h x (List.mem_cons_self ..); omega
  | n + 1, l, hn, h => by
    by_cases hm : ((n : Int) + 1) ∈ l
    · have h1 := nodup_len n (l.erase ((n : Int) + 1)) (hn.erase _) (fun x hx => by
        have h2 := (List.Nodup.mem_erase_iff hn).1 hx
        have := h x h2.2
        have := h2.1
        omega)
      rw [List.length_erase_of_mem hm] at h1
      omega
    · have h1 := nodup_len n l hn (fun x hx => by
        have := h x hx
        have : x ≠ (n : Int) + 1 := fun e => hm (e ▸ hx)
        omega)
      omega
def OutOk (s : TopS) (out : List Int) : Prop := out.Nodup ∧ ∀ x ∈ out, 1 ≤ x ∧ x ≤ s.size
theorem OutOk.len {s : TopS} {out : List Int} (h : OutOk s out) (hs : TopOk s) : out.length ≤ 32 := by
  have := nodup_len s.size.toNat out h.1 (fun x hx => by have := h.2 x hx; omega)
  have := hs.2.1
  omega
theorem OutOk.app {s : TopS} {out : List Int} {x : Int} (h : OutOk s out) (h1 : 1 ≤ x) (h2 : x ≤ s.size) (h3 : out.contains x = false) : OutOk s (out ++ [x]) := by
  refine ⟨?_, fun y hy => ?_⟩
  · rw [List.nodup_append]
    refine ⟨h.1, by simp, fun a ha b hb => ?_⟩
    obtain rfl := List.mem_singleton.1 hb
    rintro rfl
    simp [ha] at h3
  · rcases List.mem_append.1 hy with hy | hy
    · exact h.2 y hy
    · obtain rfl := List.mem_singleton.1 hy; exact ⟨h1, h2⟩
theorem portsTo_mem {s : TopS} {sw : Int} {x : Int} : ∀ {k : Nat}, x ∈ portsTo s sw k → 1 ≤ x ∧ x ≤ (k : Int)
  | 0, h => by simp [portsTo] at h
  | k + 1, h => by
    unfold portsTo at h
    rcases List.mem_append.1 h with h | h
    · have := portsTo_mem h; omega
    · split at h
      · obtain rfl := List.mem_singleton.1 h; omega
      · simp at h
theorem own_slice {w : World} {B : Nat} {v : Value} {xs : List Int} (h : OwnL w B 3 1 encI v xs) (hne : 0 < xs.length) : ∃ g cap, v = .slice (some ⟨g, 0, none⟩) xs.length cap ∧ ∀ i (hi : i < xs.length), w.cell? ⟨g, i, none⟩ = some (.int .i64 xs[i]) := by
  obtain ⟨b, off, cap, rfl, _, _, _, hc⟩ := (ReadL.of_own h encI_len).cells hne
  obtain ⟨g, cap', hv, _, _⟩ := World.ownsRow.form h hne
  cases hv
  exact ⟨b, cap, rfl, fun i hi => by have := hc i 0 (.int .i64 xs[i]) hi (by simp [encI]); simpa using this⟩
end Go.Proofs.Ytggcmhjeflofmaa
