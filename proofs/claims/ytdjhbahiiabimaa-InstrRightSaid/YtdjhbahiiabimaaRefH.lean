/- droverref06.Encode. -/
import Derived.Test.YtdjhbahiiabimaaRefG
namespace Go.Proofs.Ytdjhbahiiabimaa
open Go.RowKit
set_option linter.unusedVariables false
set_option linter.unusedSimpArgs false

theorem any_take_false {α : Type} {p : α → Bool} {l : List α} (h : ∀ (k : Nat) (hk : k < l.length), p l[k] = false) : l.any p = false := by
  rw [List.any_eq_false]
  intro x hx
  obtain ⟨i, hi, rfl⟩ := List.mem_iff_getElem.1 hx
  simp [h i hi]
theorem any_at {α : Type} {p : α → Bool} {l : List α} {k : Nat} (hk : k < l.length) (h : p l[k] = true) : l.any p = true := by
  rw [List.any_eq_true]
  exact ⟨_, List.getElem_mem hk, h⟩
set_option maxRecDepth 100000 in
set_option maxHeartbeats 8000000 in
theorem r6Encode_any (w : World) (v : Value) (l : List Action) (h : ReadL w 3 encAction v l) (hok : ∀ x ∈ l, okV x) (hlen : l.length ≤ 1000000) :
    Calls Try.prog 18 #[v] w fun e w' => e = .returned (.tuple #[.string (str (actEnc l).1), .int .i64 (actEnc l).2]) ∧ Below w.heap.size w w' := by
  have HRd := Lib.hid h
  obtain ⟨a, cap, rfl, hcap, hmax⟩ := h.slice
  unfold maxLen at hmax
  have HOk := Lib.hid hok
  have HE1 : Hid (l.any (fun a => !rightX a) = true → actEnc l = ([], 22)) := Lib.hid actEnc_bad
  have HE2 : Hid (l.any (fun a => !rightX a) = false → (32 : Int) < l.length → actEnc l = ([], 44)) := Lib.hid actEnc_big
  have HE3 : Hid (l.any (fun a => !rightX a) = false → (l.length : Int) ≤ 32 → actEnc l = (encAs l, 0)) := Lib.hid (fun h1 h2 => actEnc_ok h1 (by omega))
  generalize actEnc l = R at *
  obtain ⟨R1, R2⟩ := R
  simp only
  clear h hok
  have K0 := Lib.hid (Below.refl w.heap.size w)
  go_enter Try.func18, Try.ntmps18
  go_wp2_with fail
  go_loopw [4] (fun iv wr => ∃ k : Nat, k ≤ l.length ∧ iv = .int .i64 k ∧ Hid (∀ (i : Nat) (hi : i < l.length), i < k → rightX l[i] = true) ∧ Hid (Below w.heap.size w wr)) (fun iv _ => l.length - (intOf iv).toNat)
  case atStart => exact ⟨0, Nat.zero_le _, rfl, Lib.hid (fun i hi h0 => absurd h0 (Nat.not_lt_zero _)), K0⟩
  case round =>
    obtain ⟨k, hk, rfl, HG, HB⟩ := hrel
    clear K0
    by_cases hlt : k < l.length
    · have d2 : decide (k < l.length) = true := by simpa using hlt
      obtain ⟨a0, cap0, hv0, hc1, hc2, hc3⟩ := HRd.out
      obtain ⟨rfl, rfl⟩ : a = a0 ∧ cap = cap0 := by simpa using hv0
      rcases hc3 with hnil | ⟨b, off, rfl, hblt, hcell⟩
      · rw [hnil] at hlt; simp at hlt
      have r1 := range_of hcell HB.out hblt k hlt
      have hx := HOk.out _ (List.getElem_mem hlt)
      have HX : Hid (rightX l[k] = true → ∀ (i : Nat) (hi : i < l.length), i < k + 1 → rightX l[i] = true) := Lib.hid (fun hr i hi h1 => by
        by_cases e : i = k
        · subst e; exact hr
        · exact HG.out i hi (by omega))
      have HY : Hid (rightX l[k] = false → l.any (fun a => !rightX a) = true) := Lib.hid (fun hr => any_at hlt (by simp [hr]))
      clear hv0 hc1 hc2 hcell HG
      generalize l[k] = x at *
      have HRt : Hid (∀ W : World, _) := Lib.hid (fun W => rright_any W x.fKind x.fField x.fValue hx.1 hx.2)
      have hR : rightX x = rightA x.fKind x.fField x.fValue := rfl
      rw [hR] at HX HY
      clear hR
      obtain ⟨x1, x2, x3⟩ := x
      simp only [encAction] at r1
      simp only at HRt HX HY
      generalize rightA x1 x2 x3 = T at *
      clear hx
      go_wp2_with (first
        | (refine wpList_load_mid rfl 67 _ rfl _ _ rfl _ _ r1 Try.underlying67 rfl (by kernel_rfl) ?_)
        | fail)
      refine (HRt.out _).mono ?_
      rintro e w3 ⟨rfl, hb⟩
      have HB1 := Lib.hid (HB.out.trans (hb.mono HB.out.size))
      clear hb HRt HB r1
      cases T
      · obtain ⟨rfl, rfl⟩ := Prod.mk.inj (HE1.out (HY.out rfl))
        clear HE1 HE2 HE3 HX HY
        go_wp2_with fail
        go_ret2
        exact ⟨rfl, HB1.out⟩
      · clear HY
        go_wp2_with fail
        go_roundw
        case rel => exact ⟨k + 1, by omega, by go_num, Lib.hid (HX.out trivial), HB1⟩
        case measure => simp [intOf]; omega
    · have d2 : decide (k < l.length) = false := by simpa using hlt
      obtain rfl : k = l.length := by omega
      have HA : Hid (l.any (fun a => !rightX a) = false) := Lib.hid (any_take_false (fun i hi => by simp [HG.out i hi hi]))
      by_cases h32 : (32 : Int) < l.length
      · have t1 : decide ((32 : Int) < (l.length : Int)) = true := decide_eq_true h32
        obtain ⟨rfl, rfl⟩ := Prod.mk.inj (HE2.out HA.out h32)
        clear HE1 HE2 HE3 HG h32
        go_wp2_with fail
        go_ret2
        exact ⟨rfl, HB.out⟩
      have t1 : decide ((32 : Int) < (l.length : Int)) = false := decide_eq_false h32
      obtain ⟨rfl, rfl⟩ := Prod.mk.inj (HE3.out HA.out (by omega))
      have HLe : Hid (l.length ≤ 32) := Lib.hid (by omega)
      clear HE1 HE2 HE3 h32 HA
      go_wp2_with fail
      go_loopw [6, 5] (fun iv sv wr => ∃ k : Nat, k ≤ l.length ∧ iv = .int .i64 k ∧ sv = .string (str (encAs (l.take k))) ∧ Hid (Below w.heap.size w wr)) (fun iv _ _ => l.length - (intOf iv).toNat)
      case atStart => exact ⟨0, Nat.zero_le _, rfl, rfl, HB⟩
      case round =>
        obtain ⟨k, hk, rfl, rfl, HB⟩ := hrel
        by_cases hlt : k < l.length
        · have d3 : decide (k < l.length) = true := by simpa using hlt
          obtain ⟨a0, cap0, hv0, hc1, hc2, hc3⟩ := HRd.out
          obtain ⟨rfl, rfl⟩ : a = a0 ∧ cap = cap0 := by simpa using hv0
          rcases hc3 with hnil | ⟨b, off, rfl, hblt, hcell⟩
          · rw [hnil] at hlt; simp at hlt
          have r1 := range_of hcell HB.out hblt k hlt
          have hx := HOk.out _ (List.getElem_mem hlt)
          have hrx := HG.out k hlt hlt
          have HT := Lib.hid (encAs_take hlt)
          have HLn : Hid ((encAs (l.take k)).length ≤ 1000) := Lib.hid (by
            have h1 := encAs_len (l.take k) (fun y hy => by
              obtain ⟨i, hi, rfl⟩ := List.mem_iff_getElem.1 (List.mem_of_mem_take hy)
              exact HG.out i hi hi)
            have h2 := HLe.out
            rw [List.length_take] at h1
            omega)
          clear hv0 hc1 hc2 hcell
          generalize l[k] = x at *
          have HLd : Hid (∀ W : World, _) := Lib.hid (fun W => r6bytes_any W x.fKind x.fField x.fValue hrx hx.1)
          have HXl := Lib.hid (laidX_len x hrx)
          have HTx : Hid (encAs (l.take (k + 1)) = encAs (l.take k) ++ laidA x.fKind x.fField x.fValue) := HT
          have HXl' : Hid ((laidA x.fKind x.fField x.fValue).length ≤ 16) := HXl
          clear HT HXl
          obtain ⟨x1, x2, x3⟩ := x
          simp only [encAction] at r1
          simp only at HLd HTx HXl'
          clear hx hrx
          have hl1 := HLn.out
          have hl2 := HXl'.out
          generalize laidA x1 x2 x3 = Y at *
          generalize encAs (l.take k) = X at *
          clear HLn HXl'
          go_wp2_with (first
            | (refine wpList_load_mid rfl 67 _ rfl _ _ rfl _ _ r1 Try.underlying67 rfl (by kernel_rfl) ?_)
            | fail)
          refine (HLd.out _).mono ?_
          rintro e w3 ⟨rfl, hb⟩
          have HB1 := Lib.hid (HB.out.trans (hb.mono HB.out.size))
          clear hb HLd HB r1
          go_wp2_with fail
          go_roundw
          case rel => exact ⟨k + 1, by omega, by go_num, by rw [HTx.out], HB1⟩
          case measure => simp [intOf]; omega
        · have d3 : decide (k < l.length) = false := by simpa using hlt
          obtain rfl : k = l.length := by omega
          rw [List.take_length]
          go_wp2_with fail
          go_ret2
          exact ⟨rfl, HB.out⟩
end Go.Proofs.Ytdjhbahiiabimaa
