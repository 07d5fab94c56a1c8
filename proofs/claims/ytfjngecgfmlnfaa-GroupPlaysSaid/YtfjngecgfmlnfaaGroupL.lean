/- slices.IndexFunc and slices.ContainsFunc at actions and at ints, whatever the predicate (printed by gen/groupl.py). -/
import Derived.Test.YtfjngecgfmlnfaaGroupG
namespace Go.Proofs.Ytfjngecgfmlnfaa
open Go.RowKit
set_option linter.unusedVariables false
set_option linter.unusedSimpArgs false

def PredI (g : Nat) (lb : Array Value) (p : Int → Bool) (C : World → Prop) (ok : Int → Prop) : Prop :=
  ∀ (W : World) (x : Int), C W → ok x → Calls Try.prog g (#[.int .i64 x] ++ lb) W fun e w' => e = .returned (.bool (p x)) ∧ Below W.heap.size W w'
theorem idxF_any {α : Type} (p : α → Bool) (l : List α) : decide (0 ≤ idxF p l) = l.any p := by
  unfold idxF
  rw [Bool.eq_iff_iff]
  cases h : l.findIdx? p with
  | none =>
    have := List.findIdx?_eq_none_iff.1 h
    simp only [List.any_eq_true, decide_eq_true_eq]
    constructor
    · intro h; omega
    · rintro ⟨x, hx, hp⟩
      have := this x hx
      rw [hp] at this; cases this
  | some i =>
    obtain ⟨hi, hp, _⟩ := List.findIdx?_eq_some_iff_getElem.1 h
    simp only [List.any_eq_true, decide_eq_true_eq]
    exact ⟨fun _ => ⟨_, List.getElem_mem hi, hp⟩, fun _ => by omega⟩

set_option maxRecDepth 100000 in
set_option maxHeartbeats 4000000 in
theorem indexFuncA (w : World) (v : Value) (l : List Action) (g : Nat) (lb : Array Value) (p : Action → Bool) (C : World → Prop) (ok : Action → Prop) (hp : PredC g lb encAction p C ok) (hs : Stays C) (hC : C w)
    (eg : ∀ args w, (callFunc g args).run Try.prog w = .ok (.enter g args) w) (h : ReadL w 3 encAction v l) (hok : ∀ x ∈ l, ok x) :
    Calls Try.prog 64 #[v, .func (.func g) #[] lb] w fun e w' => e = .returned (.int .i64 (idxF p l)) ∧ Below w.heap.size w w' := by
  obtain ⟨a, cap, rfl, hcap, hmax, hc⟩ := h
  unfold maxLen at hmax
  have HC := Lib.hid hc
  have HP := Lib.hid hp
  have HK := Lib.hid hC
  have HS := Lib.hid hs
  have HOk := Lib.hid hok
  have HR : Hid (∀ k (hk : k < l.length), p l[k] = true → (∀ j (hj : j < l.length), j < k → p l[j] = false) → idxF p l = k) := Lib.hid (idxF_hit p l)
  have HN : Hid ((∀ j (hj : j < l.length), p l[j] = false) → idxF p l = -1) := Lib.hid (idxF_none p l)
  generalize idxF p l = R at *
  clear hc hp hC hs hok
  go_enter Try.func64, Try.ntmps64
  go_wp2_with fail
  go_loopw [8] (fun iv wr => ∃ k : Nat, k ≤ l.length ∧ iv = .int .i64 k ∧ Hid (C wr) ∧ Hid (Below w.heap.size w wr) ∧ Hid (∀ j (hj : j < l.length), j < k → p l[j] = false)) (fun iv _ => l.length - (intOf iv).toNat)
  case atStart => exact ⟨0, Nat.zero_le _, rfl, HK, Lib.hid (Below.refl _ _), Lib.hid (fun j hj hk => absurd hk (Nat.not_lt_zero _))⟩
  case round =>
    obtain ⟨k, hk, rfl, HK, HB, hq⟩ := hrel
    by_cases hlt : k < l.length
    · have d2 : decide (k < l.length) = true := by simpa using hlt
      rcases HC.out with hnil | ⟨b, off, rfl, hblt, hcell⟩
      · rw [hnil] at hlt; simp at hlt
      have r1 := range_of hcell HB.out hblt k hlt
      have HCall := Lib.hid (HP.out wr l[k] HK.out (HOk.out _ (List.getElem_mem hlt)))
      have HR2 := Lib.hid (fun h => HR.out k hlt h hq.out)
      have HQ2 : Hid (p l[k] = false → ∀ j (hj : j < l.length), j < k + 1 → p l[j] = false) := Lib.hid (fun h j hj hjk => if e : j = k then (by subst e; exact h) else hq.out j hj (by omega))
      clear hcell HC hq HP HOk
      generalize l[k] = x at *
      go_wp2_with (first
        | (refine wpList_load_mid rfl 58 _ rfl _ _ rfl _ _ r1 Try.underlying58 rfl (by kernel_rfl) ?_)
        | (go_at_fn g; refine HCall.out.mono ?_; rintro e w' ⟨rfl, hb'⟩)
        | fail)
      · have hpx : p x = true := by assumption
        go_ret
        exact ⟨by rw [HR2.out hpx]; rfl, HB.out.trans (hb'.mono HB.out.size)⟩
      · have hpx : p x = false := by assumption
        go_roundw
        case rel => exact ⟨k + 1, by omega, by go_num, Lib.hid (HS.out _ _ HK.out hb'), Lib.hid (HB.out.trans (hb'.mono HB.out.size)), Lib.hid (HQ2.out hpx)⟩
        case measure => simp [intOf]; omega
    · have d2 : decide (k < l.length) = false := by simpa using hlt
      have e := HN.out (fun j hj => hq.out j hj (by omega))
      subst e
      go_wp2_with fail
      go_ret
      exact ⟨rfl, HB.out⟩

set_option maxRecDepth 100000 in
set_option maxHeartbeats 4000000 in
theorem indexFuncI (w : World) (v : Value) (l : List Int) (g : Nat) (lb : Array Value) (p : Int → Bool) (C : World → Prop) (ok : Int → Prop) (hp : PredI g lb p C ok) (hs : Stays C) (hC : C w)
    (eg : ∀ args w, (callFunc g args).run Try.prog w = .ok (.enter g args) w) (h : ReadL w 1 encI v l) (hok : ∀ x ∈ l, ok x) :
    Calls Try.prog 67 #[v, .func (.func g) #[] lb] w fun e w' => e = .returned (.int .i64 (idxF p l)) ∧ Below w.heap.size w w' := by
  obtain ⟨a, cap, rfl, hcap, hmax, hc⟩ := h
  unfold maxLen at hmax
  have HC := Lib.hid hc
  have HP := Lib.hid hp
  have HK := Lib.hid hC
  have HS := Lib.hid hs
  have HOk := Lib.hid hok
  have HR : Hid (∀ k (hk : k < l.length), p l[k] = true → (∀ j (hj : j < l.length), j < k → p l[j] = false) → idxF p l = k) := Lib.hid (idxF_hit p l)
  have HN : Hid ((∀ j (hj : j < l.length), p l[j] = false) → idxF p l = -1) := Lib.hid (idxF_none p l)
  generalize idxF p l = R at *
  clear hc hp hC hs hok
  go_enter Try.func67, Try.ntmps67
  go_wp2_with fail
  go_loopw [8] (fun iv wr => ∃ k : Nat, k ≤ l.length ∧ iv = .int .i64 k ∧ Hid (C wr) ∧ Hid (Below w.heap.size w wr) ∧ Hid (∀ j (hj : j < l.length), j < k → p l[j] = false)) (fun iv _ => l.length - (intOf iv).toNat)
  case atStart => exact ⟨0, Nat.zero_le _, rfl, HK, Lib.hid (Below.refl _ _), Lib.hid (fun j hj hk => absurd hk (Nat.not_lt_zero _))⟩
  case round =>
    obtain ⟨k, hk, rfl, HK, HB, hq⟩ := hrel
    by_cases hlt : k < l.length
    · have d2 : decide (k < l.length) = true := by simpa using hlt
      rcases HC.out with hnil | ⟨b, off, rfl, hblt, hcell⟩
      · rw [hnil] at hlt; simp at hlt
      have r1 := (HB.out.cell (p := ⟨b, off + k, none⟩) hblt).trans (by simpa using hcell k 0 _ hlt rfl)
      have HCall := Lib.hid (HP.out wr l[k] HK.out (HOk.out _ (List.getElem_mem hlt)))
      have HR2 := Lib.hid (fun h => HR.out k hlt h hq.out)
      have HQ2 : Hid (p l[k] = false → ∀ j (hj : j < l.length), j < k + 1 → p l[j] = false) := Lib.hid (fun h j hj hjk => if e : j = k then (by subst e; exact h) else hq.out j hj (by omega))
      clear hcell HC hq HP HOk
      generalize l[k] = x at *
      go_wp2_with (first
        | (go_at_fn g; refine HCall.out.mono ?_; rintro e w' ⟨rfl, hb'⟩)
        | fail)
      · have hpx : p x = true := by assumption
        go_ret
        exact ⟨by rw [HR2.out hpx]; rfl, HB.out.trans (hb'.mono HB.out.size)⟩
      · have hpx : p x = false := by assumption
        go_roundw
        case rel => exact ⟨k + 1, by omega, by go_num, Lib.hid (HS.out _ _ HK.out hb'), Lib.hid (HB.out.trans (hb'.mono HB.out.size)), Lib.hid (HQ2.out hpx)⟩
        case measure => simp [intOf]; omega
    · have d2 : decide (k < l.length) = false := by simpa using hlt
      have e := HN.out (fun j hj => hq.out j hj (by omega))
      subst e
      go_wp2_with fail
      go_ret
      exact ⟨rfl, HB.out⟩

set_option maxRecDepth 100000 in
set_option maxHeartbeats 4000000 in
theorem containsFuncA (w : World) (v : Value) (l : List Action) (g : Nat) (lb : Array Value) (p : Action → Bool) (C : World → Prop) (ok : Action → Prop) (hp : PredC g lb encAction p C ok) (hs : Stays C) (hC : C w)
    (eg : ∀ args w, (callFunc g args).run Try.prog w = .ok (.enter g args) w) (h : ReadL w 3 encAction v l) (hok : ∀ x ∈ l, ok x) :
    Calls Try.prog 52 #[v, .func (.func g) #[] lb] w fun e w' => e = .returned (.bool (l.any p)) ∧ Below w.heap.size w w' := by
  have H := Lib.hid (indexFuncA w v l g lb p C ok hp hs hC eg h hok)
  have HA : Hid (decide (0 ≤ idxF p l) = l.any p) := Lib.hid (idxF_any p l)
  generalize idxF p l = R at *
  generalize l.any p = T at *
  clear h hok hp hs hC
  go_enter Try.func52, Try.ntmps52
  go_wp2_with fail
  refine H.out.mono ?_
  rintro x w' ⟨rfl, hb⟩
  have HB := Lib.hid hb
  clear hb
  go_wp2_with fail
  go_ret
  refine ⟨?_, HB.out⟩
  rw [← HA.out]
  rfl

set_option maxRecDepth 100000 in
set_option maxHeartbeats 4000000 in
theorem containsFuncI (w : World) (v : Value) (l : List Int) (g : Nat) (lb : Array Value) (p : Int → Bool) (C : World → Prop) (ok : Int → Prop) (hp : PredI g lb p C ok) (hs : Stays C) (hC : C w)
    (eg : ∀ args w, (callFunc g args).run Try.prog w = .ok (.enter g args) w) (h : ReadL w 1 encI v l) (hok : ∀ x ∈ l, ok x) :
    Calls Try.prog 55 #[v, .func (.func g) #[] lb] w fun e w' => e = .returned (.bool (l.any p)) ∧ Below w.heap.size w w' := by
  have H := Lib.hid (indexFuncI w v l g lb p C ok hp hs hC eg h hok)
  have HA : Hid (decide (0 ≤ idxF p l) = l.any p) := Lib.hid (idxF_any p l)
  generalize idxF p l = R at *
  generalize l.any p = T at *
  clear h hok hp hs hC
  go_enter Try.func55, Try.ntmps55
  go_wp2_with fail
  refine H.out.mono ?_
  rintro x w' ⟨rfl, hb⟩
  have HB := Lib.hid hb
  clear hb
  go_wp2_with fail
  go_ret
  refine ⟨?_, HB.out⟩
  rw [← HA.out]
  rfl
end Go.Proofs.Ytfjngecgfmlnfaa
