/- TopoFew: a topology of the first links of one that may be may be, too. -/
import Derived.Test.YtggcmhjeflofmaaTopoK
namespace Go.Proofs.Ytggcmhjeflofmaa
open Go.RowKit Go.Maps
set_option linter.unusedVariables false
set_option linter.unusedSimpArgs false

theorem joinsF_take {size : Int} : ∀ (l : List Link) (m : Nat) (s s' : TopS), joinsF size s l = some s' → ∃ t, joinsF size s (l.take m) = some t
  | [], m, s, s', h => ⟨s, by cases m <;> rfl⟩
  | x :: l, 0, s, s', h => ⟨s, rfl⟩
  | x :: l, m + 1, s, s', h => by
    unfold joinsF at h
    split at h
    · rename_i hr
      cases hj : joinS s x with
      | none => rw [hj] at h; cases h
      | some s2 =>
        rw [hj] at h
        obtain ⟨t, ht⟩ := joinsF_take l m s2 s' h
        refine ⟨t, ?_⟩
        rw [List.take_succ_cons]
        unfold joinsF
        rw [if_pos hr, hj]
        exact ht
    · cases h
theorem newF_take {size : Int} {l : List Link} {s : TopS} (m : Nat) (h : newF size l = some s) : ∃ t, newF size (l.take m) = some t ∧ t.size = size := by
  have h0 := h
  unfold newF at h
  split at h
  · cases h
  · rename_i hb
    obtain ⟨t, ht⟩ := joinsF_take l m _ s h
    have : newF size (l.take m) = some t := by
      unfold newF
      rw [if_neg ?_]
      · exact ht
      · simp only [badNew, Bool.or_eq_true, decide_eq_true_eq, not_or, List.length_take] at hb ⊢
        omega
    exact ⟨t, this, (newF_ok this).2⟩

theorem ReadL.pre {α : Type} {w : World} {size : Nat} {enc : α → List Value} {a : Option Addr} {n cap : Nat} {xs : List α} (h : ReadL w size enc (.slice a n cap) xs) (k : Nat) (hk : k ≤ xs.length) : ReadL w size enc (.slice a k cap) (xs.take k) := by
  obtain ⟨a0, cap0, hv, h1, h2, h3⟩ := h
  obtain ⟨rfl, rfl, rfl⟩ : a = a0 ∧ n = xs.length ∧ cap = cap0 := by simpa using hv
  refine ⟨a, cap, by rw [List.length_take, Nat.min_eq_left hk], by simp; omega, h2, ?_⟩
  rcases h3 with rfl | ⟨b, off, rfl, hb, hc⟩
  · exact .inl (by simp)
  · refine .inr ⟨b, off, rfl, hb, fun j m u hj hu => ?_⟩
    simp only [List.length_take] at hj
    simp only [List.getElem_take] at hu
    exact hc j m u (by omega) hu

set_option maxRecDepth 100000 in
set_option maxHeartbeats 8000000 in
theorem TopoFew_walk (w : World) (n : Int) (wn : (Lit.int .i64 n).wf = true) (v : Value) (l : List Link) (hv : ReadL w 5 encLink v l) (okl : ∀ x ∈ l, okLink w x) (m : Int) (wm : (Lit.int .i64 m).wf = true) :
    Calls Try.prog 5 #[.int .i64 n, v, .int .i64 m] w fun x w' => x = .returned (.bool true) ∧ Below w.heap.size w w' := by
  have HV := Lib.hid hv
  obtain ⟨a, cap, rfl, hcap, hmax⟩ := hv.slice
  clear hv okl wn wm
  unfold maxLen at hmax
  by_cases hx : (100 : Int) < l.length
  · have t1 : decide ((100 : Int) < (l.length : Int)) = true := decide_eq_true hx
    go_enter Try.func5, Try.ntmps5
    go_wp2_with fail
    refine (awake_any _).mono ?_
    rintro e w8 ⟨rfl, hb⟩
    have HB := Lib.hid hb
    clear hb
    go_wp2_with fail
    go_ret
    exact ⟨rfl, HB.out⟩
  have t1 : decide ((100 : Int) < (l.length : Int)) = false := decide_eq_false hx
  by_cases hm0 : m < 0
  · have t2 : decide (m < 0) = true := decide_eq_true hm0
    go_enter Try.func5, Try.ntmps5
    go_wp2_with fail
    refine (awake_any _).mono ?_
    rintro e w8 ⟨rfl, hb⟩
    have HB := Lib.hid hb
    clear hb
    go_wp2_with fail
    go_ret
    exact ⟨rfl, HB.out⟩
  have t2 : decide (m < 0) = false := decide_eq_false hm0
  by_cases hm1 : (l.length : Int) < m
  · have t3 : decide ((l.length : Int) < m) = true := decide_eq_true hm1
    go_enter Try.func5, Try.ntmps5
    go_wp2_with fail
    refine (awake_any _).mono ?_
    rintro e w8 ⟨rfl, hb⟩
    have HB := Lib.hid hb
    clear hb
    go_wp2_with fail
    go_ret
    exact ⟨rfl, HB.out⟩
  have t3 : decide ((l.length : Int) < m) = false := decide_eq_false hm1
  obtain ⟨k, rfl⟩ : ∃ k : Nat, m = k := ⟨m.toNat, by omega⟩
  have hk : k ≤ l.length := by omega
  have HP : Hid (∀ s, newF n l = some s → ∃ t, newF n (l.take k) = some t ∧ t.size = n) := Lib.hid (fun s h => newF_take k h)
  clear hm0 hm1 hx
  go_enter Try.func5, Try.ntmps5
  go_wp2_with fail
  refine (New_any w n _ l HV.out).mono ?_
  rintro e w1 ⟨hb1, hr1⟩
  have HB := Lib.hid hb1
  have HV1 := Lib.hid (HV.out.below hb1 (Nat.le_refl _))
  clear hb1 t1 t2 t3 HV
  have HN : Hid _ := Lib.hid (New_any w1 n _ _ (HV1.out.pre k hk))
  have HT1 : Hid (newF n (l.take k) = newF n (l.take k)) := Lib.hid rfl
  generalize newF n (l.take k) = T at *
  rcases hr1 with ⟨h0, rfl⟩ | ⟨s, tb, eb, hb, cv, h0, rfl, hT⟩
  · clear HP h0
    go_wp2_with fail
    refine HN.out.mono ?_
    rintro e w2 ⟨hb2, hr2⟩
    have HB2 := Lib.hid (HB.out.trans (hb2.mono HB.out.size))
    clear hb2 HN HT1 HB
    rcases hr2 with ⟨h0, rfl⟩ | ⟨s2, tb2, eb2, hb2', cv2, h0, rfl, hT2⟩
    · clear h0
      go_wp2_with fail
      refine (awake_any _).mono ?_
      rintro e w8 ⟨rfl, hb⟩
      replace HB2 := Lib.hid (HB2.out.trans (hb.mono HB2.out.size))
      clear hb
      go_wp2_with fail
      go_ret
      exact ⟨rfl, HB2.out⟩
    · clear h0 hT2
      go_wp2_with fail
      refine (awake_any _).mono ?_
      rintro e w8 ⟨rfl, hb⟩
      replace HB2 := Lib.hid (HB2.out.trans (hb.mono HB2.out.size))
      clear hb
      go_wp2_with fail
      go_ret
      exact ⟨rfl, HB2.out⟩
  · obtain ⟨t, hT1, hsz⟩ := HP.out s h0
    have HSz := Lib.hid hsz
    clear HP h0 hT hsz
    go_wp2_with fail
    refine HN.out.mono ?_
    rintro e w2 ⟨hb2, hr2⟩
    have HB2 := Lib.hid (HB.out.trans (hb2.mono HB.out.size))
    clear hb2 HN HT1 HB
    rcases hr2 with ⟨h0, rfl⟩ | ⟨s2, tb2, eb2, hb2', cv2, h0, rfl, hT2⟩
    · rw [hT1] at h0; cases h0
    · rw [hT1] at h0
      cases h0
      have HT2 := Lib.hid hT2
      clear hT2 hT1
      go_wp2_with fail
      refine (Size_any w2 _ tb2 eb2 hb2' cv2 t HT2.out).mono ?_
      rintro e w3 ⟨rfl, hb3⟩
      rw [HSz.out]
      replace HB2 := Lib.hid (HB2.out.trans (hb3.mono HB2.out.size))
      clear hb3 HT2 HSz
      go_wp2_with fail
      refine (awake_any _).mono ?_
      rintro e w8 ⟨rfl, hb⟩
      replace HB2 := Lib.hid (HB2.out.trans (hb.mono HB2.out.size))
      clear hb
      go_wp2_with fail
      go_ret
      exact ⟨rfl, HB2.out⟩
end Go.Proofs.Ytggcmhjeflofmaa
