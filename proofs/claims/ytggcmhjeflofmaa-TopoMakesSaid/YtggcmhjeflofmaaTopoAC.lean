/- The reference of topologies: Ports, Hosts; what they answer is what the program answers. -/
import Derived.Test.YtggcmhjeflofmaaTopoAB
namespace Go.Proofs.Ytggcmhjeflofmaa
open Go.RowKit Go.Maps
set_option linter.unusedVariables false
set_option linter.unusedSimpArgs false

/-- The numbers up to k that a test takes. -/
def pickTo (f : Int → Bool) : Nat → List Int
  | 0 => []
  | k + 1 => pickTo f k ++ if f ((k : Int) + 1) = true then [(k : Int) + 1] else []
theorem pickTo_len (f : Int → Bool) : ∀ k : Nat, (pickTo f k).length ≤ k
  | 0 => Nat.le_refl _
  | k + 1 => by
    have := pickTo_len f k
    unfold pickTo
    rw [List.length_append]
    split <;> simp <;> omega
theorem pickTo_mem {f : Int → Bool} {x : Int} : ∀ {k : Nat}, x ∈ pickTo f k ↔ 1 ≤ x ∧ x ≤ (k : Int) ∧ f x = true
  | 0 => ⟨fun h => by simp [pickTo] at h, fun h => by omega⟩
  | k + 1 => by
    unfold pickTo
    rw [List.mem_append, pickTo_mem]
    constructor
    · rintro (h | h)
      · exact ⟨h.1, by omega, h.2.2⟩
      · split at h
        · rename_i hT
          obtain rfl := List.mem_singleton.1 h
          exact ⟨by omega, by omega, hT⟩
        · simp at h
    · rintro ⟨h1, h2, h3⟩
      by_cases hk : x ≤ (k : Int)
      · exact .inl ⟨h1, hk, h3⟩
      · right
        have hx : x = (k : Int) + 1 := by omega
        subst hx
        rw [if_pos h3]
        exact List.mem_singleton.2 rfl
theorem pickTo_sorted {f : Int → Bool} : ∀ (k : Nat), (pickTo f k).Pairwise (· < ·)
  | 0 => List.Pairwise.nil
  | k + 1 => by
    unfold pickTo
    rw [List.pairwise_append]
    refine ⟨pickTo_sorted k, ?_, fun a ha b hb => ?_⟩
    · split <;> simp
    · have := (pickTo_mem.1 ha).2.1
      split at hb
      · obtain rfl := List.mem_singleton.1 hb; omega
      · simp at hb
def hasPortL (l : List Link) (sw p : Int) : Bool := decide (0 < (rPeerF l (sw, p)).2.2)
theorem peerO_num {p : Place} {e : Hop} : ∀ (l : List Link) (i : Nat), peerO l i p = some e → 0 < e.2
  | [], _, h => by simp [peerO] at h
  | x :: l, i, h => by
    unfold peerO at h
    split at h
    · cases h; simp only; omega
    · exact peerO_num l (i + 1) h
theorem hasPortL_eq {s : TopS} {l : List Link} (h : Rep s l) (sw p : Int) : hasPortL l sw p = hasP s sw p := by
  unfold hasPortL hasP rPeerF
  rw [h.ends]
  cases he : peerO l 0 (sw, p) with
  | none => rfl
  | some e => have := peerO_num l 0 he; simp [hopO, this]
theorem ports_eq {s : TopS} {l : List Link} (h : Rep s l) (sw : Int) : ∀ k : Nat, portsTo s sw k = pickTo (hasPortL l sw) k
  | 0 => rfl
  | k + 1 => by unfold portsTo pickTo; rw [ports_eq h sw k, hasPortL_eq h]
def hasHomeL (l : List Link) (h : Int) : Bool := decide (0 < (rHomeF l h).1)
theorem homeO_at {h : Int} {p : Place} : ∀ (l : List Link), homeO l h = some p → ∃ x ∈ l, x.fB < 0 ∧ x.fB = -h ∧ p = (x.fA, x.fPortA)
  | [], e => by simp [homeO] at e
  | x :: l, e => by
    unfold homeO at e
    split at e
    · rename_i hc
      simp only [Bool.and_eq_true, decide_eq_true_eq] at hc
      exact ⟨x, List.mem_cons_self .., hc.1, hc.2, by cases e; rfl⟩
    · obtain ⟨y, hy, h1⟩ := homeO_at l e
      exact ⟨y, List.mem_cons_of_mem _ hy, h1⟩
theorem lookL_isSome {α β : Type} [DecidableEq α] {l : List (α × β)} {x : α} : (lookL l x).isSome = true ↔ x ∈ l.map (·.1) := by
  unfold lookL
  rw [Option.isSome_map, List.find?_isSome]
  simp [List.mem_map]
theorem joinS_homes {s s' : TopS} {x : Link} (hj : joinS s x = some s') (h : (s.homes.map (·.1)).Nodup) : (s'.homes.map (·.1)).Nodup := by
  unfold joinS at hj
  split at hj
  · cases hj
  · split at hj
    · split at hj
      · cases hj
      · rename_i hH
        cases hj
        simp only [List.map_append, List.map_cons, List.map_nil]
        rw [List.nodup_append]
        refine ⟨h, List.nodup_cons.2 ⟨by simp, List.nodup_nil⟩, fun a ha b hb => ?_⟩
        obtain rfl := List.mem_singleton.1 hb
        rintro rfl
        exact hH (lookL_isSome.2 ha)
    · split at hj
      · cases hj
      · cases hj; exact h
theorem joinsF_homes {size : Int} : ∀ (l : List Link) (s s' : TopS), (s.homes.map (·.1)).Nodup → joinsF size s l = some s' → (s'.homes.map (·.1)).Nodup
  | [], s, s', h, e => by cases e; exact h
  | x :: l, s, s', h, e => by
    unfold joinsF at e
    split at e
    · cases hj : joinS s x with
      | none => rw [hj] at e; cases e
      | some s2 =>
        rw [hj] at e
        exact joinsF_homes l s2 s' (joinS_homes hj h) e
    · cases e
theorem newF_homes {size : Int} {l : List Link} {s : TopS} (h : newF size l = some s) : (s.homes.map (·.1)).Nodup := by
  unfold newF at h
  split at h
  · cases h
  · exact joinsF_homes l _ s (by simp) h
theorem homes_in {size : Int} {l : List Link} {s : TopS} (h : newF size l = some s) {x : Int} : x ∈ s.homes.map (·.1) ↔ 1 ≤ x ∧ x ≤ 64 ∧ hasHomeL l x = true := by
  have hrep := newF_rep.2 s h
  have hr := newF_right h
  rw [← lookL_isSome, hrep.homes]
  unfold hasHomeL rHomeF
  constructor
  · intro hs
    cases ho : homeO l x with
    | none => rw [ho] at hs; cases hs
    | some p =>
      obtain ⟨y, hy, h1, h2, rfl⟩ := homeO_at l ho
      have hb := rightL_wf (hr.1 y hy) (by omega)
      have hb2 := rightL_basic (hr.1 y hy)
      refine ⟨by omega, by omega, ?_⟩
      rw [if_pos (by omega)]
      simp only [Option.getD_some, decide_eq_true_eq]
      omega
  · rintro ⟨h1, _, h3⟩
    rw [if_pos (by omega)] at h3
    cases ho : homeO l x with
    | none => rw [ho] at h3; simp at h3
    | some p => rfl
theorem hosts_len {size : Int} {l : List Link} {s : TopS} (h : newF size l = some s) : s.homes.length ≤ 64 := by
  have := nodup_len 64 _ (newF_homes h) (fun x hx => by
    have := (homes_in h).1 hx
    exact ⟨this.1, this.2.1⟩)
  simpa using this
theorem hosts_eq {size : Int} {l : List Link} {s : TopS} (h : newF size l = some s) : hostsF s = pickTo (hasHomeL l) 64 := by
  have hp : (hostsF s).Perm (s.homes.map (·.1)) := List.mergeSort_perm ..
  refine sorted_eq _ _ ?_ (hp.symm.nodup (newF_homes h)) ((pickTo_sorted 64).imp (fun h => Int.le_of_lt h)) ((pickTo_sorted 64).imp (fun h => Int.ne_of_lt h)) fun x => ?_
  · have := List.pairwise_mergeSort (le := fun x y : Int => decide (x ≤ y)) (fun a b c h1 h2 => by simp at *; omega) (fun a b => by simp; omega) (s.homes.map (·.1))
    exact this.imp (fun h => by simpa using h)
  · rw [hp.mem_iff, homes_in h, pickTo_mem]
    constructor
    · rintro ⟨h1, h2, h3⟩; exact ⟨h1, by omega, h3⟩
    · rintro ⟨h1, h2, h3⟩; exact ⟨h1, by omega, h3⟩

set_option maxRecDepth 100000 in
set_option maxHeartbeats 8000000 in
theorem rPorts_any (w : World) (rb : Nat) (lv : Value) (n : Int) (l : List Link) (h : RefW w rb lv n l) (hl : l.length ≤ 64) (sw : Int) :
    Calls Try.prog 25 #[ptr rb, .int .i64 sw] w fun e w' => ∃ v C, w.heap.size ≤ C ∧ e = .returned v ∧ OwnL w' C 3 1 encI v (pickTo (hasPortL l sw) 16) ∧ Below w.heap.size w w' := by
  have HT := Lib.hid h
  have HL := Lib.hid hl
  clear h hl
  go_enter Try.func25, Try.ntmps25
  go_wp2_with fail
  go_loopw [5, 6] (fun ov iv wr => ∃ k : Nat, k ≤ 16 ∧ iv = .int .i64 ((k : Int) + 1) ∧ Hid (Below w.heap.size w wr) ∧ Hid (OwnL wr w.heap.size 3 1 encI ov (pickTo (hasPortL l sw) k))) (fun _ iv _ => (17 - intOf iv).toNat)
  case atStart => exact ⟨0, by omega, rfl, Lib.hid (Below.refl _ _), Lib.hid (OwnL.nil _ _ _ _ _)⟩
  case round =>
    obtain ⟨k, hk, rfl, HB, Hown⟩ := hrel
    by_cases hlt : k < 16
    · have d2 : decide ((k : Int) + 1 ≤ 16) = true := decide_eq_true (by omega)
      have HP : Hid (pickTo (hasPortL l sw) (k + 1) = pickTo (hasPortL l sw) k ++ if hasPortL l sw ((k : Int) + 1) = true then [(k : Int) + 1] else []) := Lib.hid rfl
      have hlen := pickTo_len (hasPortL l sw) k
      have HC := Lib.hid (rPeer_any wr rb lv n l (HT.out.below HB.out (Nat.le_refl _)) HL.out sw ((k : Int) + 1))
      have HH : Hid (decide (0 < (rPeerF l (sw, (k : Int) + 1)).2.2) = hasPortL l sw ((k : Int) + 1)) := Lib.hid rfl
      generalize pickTo (hasPortL l sw) k = L at *
      generalize hasPortL l sw ((k : Int) + 1) = F at *
      generalize rPeerF l (sw, (k : Int) + 1) = R at *
      obtain ⟨r1, r2, r3⟩ := R
      simp only at HC HH
      have hh := HH.out
      clear HH
      go_wp2_with fail
      refine HC.out.mono ?_
      rintro e w2 ⟨rfl, hb2⟩
      have HB2 := Lib.hid (HB.out.trans (hb2.mono HB.out.size))
      have Hown2 := Lib.hid (Hown.out.belowAll hb2)
      clear hb2 HB Hown HC
      cases F with
      | true =>
        rw [if_pos rfl] at HP
        go_wp2_with (at_builtin; go_must (refine app_one Hown2.out ((k : Int) + 1) Try.underlying23 intInfo rfl (by decide) encI_len encI_one rfl rfl rfl rfl ?c1 ?c2 ?c3 ?_))
        case c1 => omega
        case c2 => omega
        case c3 => exact HB2.out.size
        intro v' w6 hown1 hgrow _
        have HB6 := Lib.hid (below_grown HB2.out hgrow HB2.out.size Hown2.out)
        have HOwn1 : Hid (OwnL w6 w.heap.size 3 1 encI v' (pickTo (hasPortL l sw) (k + 1))) := Lib.hid (by rw [HP.out]; exact hown1)
        clear hown1 hgrow Hown2 HB2
        go_wp2_with fail
        go_roundw
        case rel => exact ⟨k + 1, by omega, by go_num, HB6, HOwn1⟩
        case measure => simp [intOf]; omega
      | false =>
        rw [if_neg (by simp), List.append_nil] at HP
        have HOwn1 : Hid (OwnL w2 w.heap.size 3 1 encI u5 (pickTo (hasPortL l sw) (k + 1))) := Lib.hid (by rw [HP.out]; exact Hown2.out)
        clear Hown2
        go_wp2_with fail
        go_roundw
        case rel => exact ⟨k + 1, by omega, by go_num, HB2, HOwn1⟩
        case measure => simp [intOf]; omega
    · have d2 : decide ((k : Int) + 1 ≤ 16) = false := decide_eq_false (by omega)
      obtain rfl : k = 16 := by omega
      go_wp2_with fail
      go_ret
      exact ⟨_, w.heap.size, Nat.le_refl _, rfl, Hown.out, HB.out⟩
set_option maxRecDepth 100000 in
set_option maxHeartbeats 8000000 in
theorem rHosts_any (w : World) (rb : Nat) (lv : Value) (n : Int) (l : List Link) (h : RefW w rb lv n l) (hl : l.length ≤ 64) :
    Calls Try.prog 27 #[ptr rb] w fun e w' => ∃ v C, w.heap.size ≤ C ∧ e = .returned v ∧ OwnL w' C 3 1 encI v (pickTo (hasHomeL l) 64) ∧ Below w.heap.size w w' := by
  have HT := Lib.hid h
  have HL := Lib.hid hl
  clear h hl
  go_enter Try.func27, Try.ntmps27
  go_wp2_with fail
  go_loopw [3, 4] (fun ov iv wr => ∃ k : Nat, k ≤ 64 ∧ iv = .int .i64 ((k : Int) + 1) ∧ Hid (Below w.heap.size w wr) ∧ Hid (OwnL wr w.heap.size 3 1 encI ov (pickTo (hasHomeL l) k))) (fun _ iv _ => (65 - intOf iv).toNat)
  case atStart => exact ⟨0, by omega, rfl, Lib.hid (Below.refl _ _), Lib.hid (OwnL.nil _ _ _ _ _)⟩
  case round =>
    obtain ⟨k, hk, rfl, HB, Hown⟩ := hrel
    by_cases hlt : k < 64
    · have d2 : decide ((k : Int) + 1 ≤ 64) = true := decide_eq_true (by omega)
      have HP : Hid (pickTo (hasHomeL l) (k + 1) = pickTo (hasHomeL l) k ++ if hasHomeL l ((k : Int) + 1) = true then [(k : Int) + 1] else []) := Lib.hid rfl
      have hlen := pickTo_len (hasHomeL l) k
      have HC := Lib.hid (rHome_any wr rb lv n l (HT.out.below HB.out (Nat.le_refl _)) HL.out ((k : Int) + 1) (wfI_of (by omega) (by omega)))
      have HH : Hid (decide (0 < (rHomeF l ((k : Int) + 1)).1) = hasHomeL l ((k : Int) + 1)) := Lib.hid rfl
      generalize pickTo (hasHomeL l) k = L at *
      generalize hasHomeL l ((k : Int) + 1) = F at *
      generalize rHomeF l ((k : Int) + 1) = R at *
      obtain ⟨r1, r2⟩ := R
      simp only at HC HH
      have hh := HH.out
      clear HH
      go_wp2_with fail
      refine HC.out.mono ?_
      rintro e w2 ⟨rfl, hb2⟩
      have HB2 := Lib.hid (HB.out.trans (hb2.mono HB.out.size))
      have Hown2 := Lib.hid (Hown.out.belowAll hb2)
      clear hb2 HB Hown HC
      cases F with
      | true =>
        rw [if_pos rfl] at HP
        go_wp2_with (at_builtin; go_must (refine app_one Hown2.out ((k : Int) + 1) Try.underlying23 intInfo rfl (by decide) encI_len encI_one rfl rfl rfl rfl ?c1 ?c2 ?c3 ?_))
        case c1 => omega
        case c2 => omega
        case c3 => exact HB2.out.size
        intro v' w6 hown1 hgrow _
        have HB6 := Lib.hid (below_grown HB2.out hgrow HB2.out.size Hown2.out)
        have HOwn1 : Hid (OwnL w6 w.heap.size 3 1 encI v' (pickTo (hasHomeL l) (k + 1))) := Lib.hid (by rw [HP.out]; exact hown1)
        clear hown1 hgrow Hown2 HB2
        go_wp2_with fail
        go_roundw
        case rel => exact ⟨k + 1, by omega, by go_num, HB6, HOwn1⟩
        case measure => simp [intOf]; omega
      | false =>
        rw [if_neg (by simp), List.append_nil] at HP
        have HOwn1 : Hid (OwnL w2 w.heap.size 3 1 encI u3 (pickTo (hasHomeL l) (k + 1))) := Lib.hid (by rw [HP.out]; exact Hown2.out)
        clear Hown2
        go_wp2_with fail
        go_roundw
        case rel => exact ⟨k + 1, by omega, by go_num, HB2, HOwn1⟩
        case measure => simp [intOf]; omega
    · have d2 : decide ((k : Int) + 1 ≤ 64) = false := decide_eq_false (by omega)
      obtain rfl : k = 64 := by omega
      go_wp2_with fail
      go_ret
      exact ⟨_, w.heap.size, Nat.le_refl _, rfl, Hown.out, HB.out⟩
end Go.Proofs.Ytggcmhjeflofmaa
