/- A topology in memory: what New makes is sound; the chapter's examples. -/
import Derived.Test.YtggcmhjeflofmaaTopoJ
namespace Go.Proofs.Ytggcmhjeflofmaa
open Go.RowKit Go.Maps
set_option linter.unusedVariables false
set_option linter.unusedSimpArgs false

theorem rightL_le {x : Link} {size : Int} (h : rightL x size = true) (hs : 0 ≤ size) : x.fA ≤ size ∧ x.fB ≤ size := by
  unfold rightL at h
  simp only [Bool.and_eq_true, decide_eq_true_eq] at h
  obtain ⟨⟨h1, _⟩, h2⟩ := h
  split at h2
  · exact ⟨h1.2.1, by omega⟩
  · simp only [decide_eq_true_eq] at h2; exact ⟨h1.2.1, h2.2.1⟩
theorem joinS_ok {s s' : TopS} {x : Link} (h : joinS s x = some s') (ha : x.fA ≤ s.size) (hb : x.fB ≤ s.size) (hok : ∀ p ∈ s.ends, p.2.1.1 ≤ s.size) : s'.size = s.size ∧ ∀ p ∈ s'.ends, p.2.1.1 ≤ s.size := by
  unfold joinS at h
  split at h
  · cases h
  · split at h
    · split at h
      · cases h
      · cases h
        refine ⟨rfl, fun p hp => ?_⟩
        rcases List.mem_append.1 hp with hp | hp
        · exact hok p hp
        · obtain rfl := List.mem_singleton.1 hp; exact hb
    · split at h
      · cases h
      · cases h
        refine ⟨rfl, fun p hp => ?_⟩
        rcases List.mem_append.1 hp with hp | hp
        · exact hok p hp
        · rcases List.mem_cons.1 hp with rfl | hp
          · exact ha
          · obtain rfl := List.mem_singleton.1 hp; exact hb
theorem joinsF_ok {size : Int} (hs : 0 ≤ size) : ∀ (l : List Link) (s s' : TopS), joinsF size s l = some s' → s.size = size → (∀ p ∈ s.ends, p.2.1.1 ≤ size) → s'.size = size ∧ ∀ p ∈ s'.ends, p.2.1.1 ≤ size
  | [], s, s', h, h1, h2 => by cases h; exact ⟨h1, h2⟩
  | x :: l, s, s', h, h1, h2 => by
    unfold joinsF at h
    split at h
    · rename_i hr
      cases hj : joinS s x with
      | none => rw [hj] at h; cases h
      | some s2 =>
        rw [hj] at h
        have hle := rightL_le hr hs
        have := joinS_ok hj (by rw [h1]; exact hle.1) (by rw [h1]; exact hle.2) (by rw [h1]; exact h2)
        rw [h1] at this
        exact joinsF_ok hs l s2 s' h this.1 this.2
    · cases h
theorem newF_ok {size : Int} {l : List Link} {s : TopS} (h : newF size l = some s) : TopOk s ∧ s.size = size := by
  unfold newF at h
  split at h
  · cases h
  · rename_i hb
    simp only [badNew, Bool.or_eq_true, decide_eq_true_eq, not_or] at hb
    have := joinsF_ok (by omega) l _ s h rfl (by simp)
    exact ⟨⟨by omega, by omega, by rw [this.1]; exact this.2⟩, this.1⟩
def exS : TopS := ⟨2, [((2, 4), ((1, 3), 1)), ((1, 3), ((2, 4), 1))], [], [0]⟩
theorem exS_new : newF 2 [⟨1, 3, 2, 4, 0⟩] = some exS := by kernel_rfl
theorem exS_peer : peerF exS (1, 3) = (2, 4, 1) := by kernel_rfl
theorem exS_reach : reachF exS [1] 1 = [1] := by
  have h : outerR exS [1] 40 0 [1] = [1] := by kernel_rfl
  unfold reachF
  rw [h]
  simp [sortI, exS]
theorem link_new (w : World) (x : Link) : ReadL (w.alloc (.cells (encLink x).toArray 52)) 5 encLink (.slice (some ⟨w.heap.size, 0, none⟩) 1 1) [x] :=
  ReadL.of_own (B := w.heap.size) (e := 52) ⟨rfl, .inr ⟨w.heap.size, 1, _, rfl, Nat.le_refl _, BlkAt.new w _ _, Nat.le_refl _, by simp [maxLen], rfl, rfl⟩⟩ encLink_len

set_option maxRecDepth 100000 in
set_option maxHeartbeats 4000000 in
theorem awake_any (w : World) : Calls Try.prog 10 #[] w fun e w' => e = .returned (.bool true) ∧ Below w.heap.size w w' := by
  go_enter Try.func10, Try.ntmps10
  go_wp2_with fail
  refine (New_any _ 2 _ [⟨1, 3, 2, 4, 0⟩] (link_new w ⟨1, 3, 2, 4, 0⟩)).mono ?_
  rintro e w2 ⟨hb2, hr⟩
  rw [exS_new] at hr
  rcases hr with ⟨h0, _⟩ | ⟨s, tb, eb, hb, cv, hs, rfl, hT⟩
  · cases h0
  cases hs
  have HB2 := Lib.hid (((Below.refl w.heap.size w).alloc (Nat.le_refl _) _).trans (hb2.mono (by simp)))
  have HT := Lib.hid hT
  clear hb2 hT
  go_wp2_with fail
  refine (Peer_any w2 _ tb eb hb cv exS HT.out 1 3 (wfI_of (by decide) (by decide)) (wfI_of (by decide) (by decide))).mono ?_
  rintro e w3 ⟨rfl, hb3⟩
  rw [exS_peer]
  have HB3 := Lib.hid (HB2.out.trans (hb3.mono HB2.out.size))
  have HT3 := Lib.hid (HT.out.below hb3 (Nat.le_refl _))
  clear hb3 HB2 HT
  go_wp2_with fail
  refine (Reach_any _ _ tb eb hb cv exS (HT3.out.below ((Below.refl w3.heap.size w3).alloc (Nat.le_refl _) _) (Nat.le_refl _)) (newF_ok exS_new).1 1 _ [1] (ReadL.of_own (own_new w3 1) encI_len)).mono ?_
  rintro e w4 ⟨v, rfl, hown, hb4⟩
  rw [exS_reach] at hown
  obtain ⟨g, cap, rfl, hc⟩ := own_slice hown (by decide)
  have c0 := hc 0 (by decide)
  have HB4 := Lib.hid (HB3.out.trans ((((Below.refl w3.heap.size w3).alloc (Nat.le_refl _) _).trans (hb4.mono (by simp))).mono HB3.out.size))
  clear hb4 hown hc HB3 HT3
  go_wp2_with fail
  go_ret
  exact ⟨rfl, HB4.out⟩
end Go.Proofs.Ytggcmhjeflofmaa
