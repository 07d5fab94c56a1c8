/- slices.IndexFunc and slices.DeleteFunc at buckets, whatever the predicate. -/
import Derived.Test.YtfjngecgfmlnfaaGroupF
import Derived.Test.YtfjngecgfmlnfaaSetsAt
import Derived.Shelf.GgClosure.Gives
namespace Go.Proofs.Ytfjngecgfmlnfaa
open Go.RowKit
set_option linter.unusedVariables false
set_option linter.unusedSimpArgs false

/-- The first place at which p holds; below nought: there is none. -/
def idxF {α : Type} (p : α → Bool) (l : List α) : Int := match l.findIdx? p with
  | some i => (i : Int)
  | none => -1
theorem idxF_hit {α : Type} (p : α → Bool) (l : List α) (k : Nat) (hk : k < l.length) (h : p l[k] = true) (hb : ∀ j (hj : j < l.length), j < k → p l[j] = false) : idxF p l = k := by
  have : l.findIdx? p = some k := by
    rw [List.findIdx?_eq_some_iff_getElem]
    exact ⟨hk, h, fun j hj => by rw [hb j (by omega) hj]; simp⟩
  unfold idxF; rw [this]
theorem idxF_none {α : Type} (p : α → Bool) (l : List α) (hb : ∀ j (hj : j < l.length), p l[j] = false) : idxF p l = -1 := by
  have : l.findIdx? p = none := by
    rw [List.findIdx?_eq_none_iff]
    intro x hx
    obtain ⟨j, hj, rfl⟩ := List.getElem_of_mem hx
    simp [hb j hj]
  unfold idxF; rw [this]
/-- What is asked of a predicate: in each world of a class it tells p. -/
def PredC (g : Nat) (lb : Array Value) {α : Type} (enc : α → List Value) (p : α → Bool) (C : World → Prop) (ok : α → Prop) : Prop :=
  ∀ (W : World) (x : α), C W → ok x → Calls Try.prog g (#[.agg (enc x).toArray] ++ lb) W fun e w' => e = .returned (.bool (p x)) ∧ Below W.heap.size W w'
def Stays (C : World → Prop) : Prop := ∀ W W' : World, C W → Below W.heap.size W W' → C W'

set_option maxRecDepth 100000 in
set_option maxHeartbeats 4000000 in
theorem indexFuncB (w : World) (v : Value) (l : List Bucket) (g : Nat) (lb : Array Value) (p : Bucket → Bool) (C : World → Prop) (ok : Bucket → Prop) (hp : PredC g lb encBucket p C ok) (hs : Stays C) (hC : C w)
    (eg : ∀ args w, (callFunc g args).run Try.prog w = .ok (.enter g args) w) (h : ReadL w 3 encBucket v l) (hok : ∀ x ∈ l, ok x) :
    Calls Try.prog 32 #[v, .func (.func g) #[] lb] w fun e w' => e = .returned (.int .i64 (idxF p l)) ∧ Below w.heap.size w w' := by
  obtain ⟨a, cap, rfl, hcap, hmax, hc⟩ := h
  unfold maxLen at hmax
  have HC := Lib.hid hc
  have HP := Lib.hid hp
  have HK := Lib.hid hC
  have HS := Lib.hid hs
  have HOk := Lib.hid hok
  have HR : Hid (∀ k (hk : k < l.length), p l[k] = true → (∀ j (hj : j < l.length), j < k → p l[j] = false) → idxF p l = k) := Lib.hid (idxF_hit p l)
  have HN : Hid ((∀ j (hj : j < l.length), p l[j] = false) → idxF p l = -1) := Lib.hid (idxF_none p l)
  generalize idxF p l = R at *
  clear hc hp hC hs hok
  go_enter Try.func32, Try.ntmps32
  go_wp2_with fail
  go_loopw [8] (fun iv wr => ∃ k : Nat, k ≤ l.length ∧ iv = .int .i64 k ∧ Hid (C wr) ∧ Hid (Below w.heap.size w wr) ∧ Hid (∀ j (hj : j < l.length), j < k → p l[j] = false)) (fun iv _ => l.length - (intOf iv).toNat)
  case atStart => exact ⟨0, Nat.zero_le _, rfl, HK, Lib.hid (Below.refl _ _), Lib.hid (fun j hj hk => absurd hk (Nat.not_lt_zero _))⟩
  case round =>
    obtain ⟨k, hk, rfl, HK, HB, hq⟩ := hrel
    by_cases hlt : k < l.length
    · have d2 : decide (k < l.length) = true := by simpa using hlt
      rcases HC.out with hnil | ⟨b, off, rfl, hblt, hcell⟩
      · rw [hnil] at hlt; simp at hlt
      have r1 := range_of hcell HB.out hblt k hlt
      have HCall := Lib.hid (HP.out wr l[k] HK.out (HOk.out _ (List.getElem_mem hlt)))
      have HR2 := Lib.hid (fun h => HR.out k hlt h hq.out)
      have HQ2 : Hid (p l[k] = false → ∀ j (hj : j < l.length), j < k + 1 → p l[j] = false) := Lib.hid (fun h j hj hjk => if e : j = k then (by subst e; exact h) else hq.out j hj (by omega))
      clear hcell HC hq HP HOk
      generalize l[k] = x at *
      go_wp2_with (first
        | (refine wpList_load_mid rfl 30 _ rfl _ _ rfl _ _ r1 Try.underlying30 rfl (by kernel_rfl) ?_)
        | (go_at_fn g; refine HCall.out.mono ?_; rintro e w' ⟨rfl, hb'⟩)
        | fail)
      · have hpx : p x = true := by assumption
        go_ret
        exact ⟨by rw [HR2.out hpx]; rfl, HB.out.trans (hb'.mono HB.out.size)⟩
      · have hpx : p x = false := by assumption
        go_roundw
        case rel => exact ⟨k + 1, by omega, by go_num, Lib.hid (HS.out _ _ HK.out hb'), Lib.hid (HB.out.trans (hb'.mono HB.out.size)), Lib.hid (HQ2.out hpx)⟩
        case measure => simp [intOf]; omega
    · have d2 : decide (k < l.length) = false := by simpa using hlt
      have e := HN.out (fun j hj => hq.out j hj (by omega))
      subst e
      go_wp2_with fail
      go_ret
      exact ⟨rfl, HB.out⟩
end Go.Proofs.Ytfjngecgfmlnfaa
