/- What a match takes: the plain law of MatchSound. -/
import Derived.Test.YtaaadbmhcfjooaaMatchL
import Derived.Test.YtaaadbmhcfjooaaMatchI
import Derived.Test.YtaaadbmhcfjooaaMatchJ
namespace Go.Proofs.Ytaaadbmhcfjooaa
open Go.RowKit
set_option linter.unusedVariables false

theorem andN {a b : Int} (ha : U64 a) (hb : U64 b) : bits .and .u64 a b = ((a.toNat &&& b.toNat : Nat) : Int) := by
  obtain ⟨h1, h2⟩ := ha
  obtain ⟨h3, h4⟩ := hb
  exact u64_and a b h1 (by omega) h3 (by omega)
theorem and_U64 {a b : Int} (ha : U64 a) (hb : U64 b) : U64 (bits .and .u64 a b) := by
  rw [andN ha hb]
  have : a.toNat &&& b.toNat ≤ a.toNat := Nat.and_le_left
  obtain ⟨h1, h2⟩ := ha
  exact ⟨by omega, by omega⟩
theorem xorN {a b : Int} (ha : U64 a) (hb : U64 b) : bits .xor .u64 a b = ((a.toNat ^^^ b.toNat : Nat) : Int) := by
  obtain ⟨h1, h2⟩ := ha
  obtain ⟨h3, h4⟩ := hb
  exact u64_xor a b h1 (by omega) h3 (by omega)
theorem xor_U64 {a b : Int} (ha : U64 a) (hb : U64 b) : U64 (bits .xor .u64 a b) := by
  rw [xorN ha hb]
  have h := Nat.xor_lt_two_pow (n := 64) (x := a.toNat) (y := b.toNat) (by have := ha.2; have := ha.1; omega) (by have := hb.2; have := hb.1; omega)
  exact ⟨by omega, by omega⟩
theorem getF_U64 {s : Seen} {f : Int} (h0 : 0 ≤ s.fMeta) (h1 : s.fMeta < 18446744073709551616) : U64 (getF s f).1 := by
  unfold getF
  split
  · have hr := rawF_range s f h0 h1
    have hp : (0 : Int) < (maskF f : Int) := by unfold maskF; exact_mod_cast Nat.two_pow_pos _
    have h2 := Int.emod_nonneg (rawF s f) (Int.ne_of_gt hp)
    have h3 : rawF s f % (maskF f : Int) ≤ rawF s f := by
      obtain ⟨n, hn⟩ := Int.eq_ofNat_of_zero_le hr.1
      rw [hn, ← Int.natCast_emod]
      have := Nat.mod_le n (maskF f)
      omega
    exact ⟨h2, by show rawF s f % (maskF f : Int) ≤ _; omega⟩
  · exact ⟨by decide, by decide⟩
theorem takT_iff (s : Seen) (t : Test) : takT s t = true ↔ (getF s t.fField).2 = 0 ∧ bits .and .u64 (getF s t.fField).1 t.fMask = t.fValue := by
  unfold takT
  rw [Bool.and_eq_true, beq_iff_eq, beq_iff_eq]
theorem cov_tak {s : Seen} {t u : Test} (h0 : 0 ≤ s.fMeta) (h1 : s.fMeta < 18446744073709551616) (ht : okT t) (hu : okT u) (hc : covT t u = true) (hk : takT s u = true) : takT s t = true := by
  rw [takT_iff] at *
  unfold covT at hc
  rw [Bool.and_eq_true, Bool.and_eq_true, beq_iff_eq, beq_iff_eq, beq_iff_eq] at hc
  obtain ⟨⟨c1, c2⟩, c3⟩ := hc
  obtain ⟨k1, k2⟩ := hk
  rw [c1] at k1 k2
  refine ⟨k1, ?_⟩
  have hg := getF_U64 (f := t.fField) h0 h1
  generalize (getF s t.fField).1 = g at *
  have c2' := (andNot_iff ht.2 hu.2).1 c2
  rw [andN ht.2 hu.2] at c2'
  rw [andN hg hu.2] at k2
  rw [andN hu.1 ht.2] at c3
  rw [andN hg ht.2]
  have e1 : t.fMask.toNat &&& u.fMask.toNat = t.fMask.toNat := by omega
  have e2 : g.toNat &&& u.fMask.toNat = u.fValue.toNat := by have := hu.1.1; omega
  have e3 : g.toNat &&& t.fMask.toNat = u.fValue.toNat &&& t.fMask.toNat := by
    rw [← e2, Nat.and_assoc, Nat.and_comm u.fMask.toNat, e1]
  rw [e3]
  exact c3
theorem tak_clash {s : Seen} {t u : Test} (h0 : 0 ≤ s.fMeta) (h1 : s.fMeta < 18446744073709551616) (ht : okT t) (hu : okT u) (kt : takT s t = true) (ku : takT s u = true) : clash t u = false := by
  rw [takT_iff] at kt ku
  unfold clash
  by_cases hf : t.fField = u.fField
  · have hg := getF_U64 (f := t.fField) h0 h1
    rw [← hf] at ku
    obtain ⟨_, k2⟩ := kt
    obtain ⟨_, j2⟩ := ku
    generalize (getF s t.fField).1 = g at *
    have hx := xor_U64 ht.1 hu.1
    have hxa := and_U64 hx ht.2
    have e : bits .and .u64 (bits .and .u64 (bits .xor .u64 t.fValue u.fValue) t.fMask) u.fMask = 0 := by
      rw [andN hxa hu.2, andN hx ht.2, xorN ht.1 hu.1, ← k2, ← j2, andN hg ht.2, andN hg hu.2]
      simp only [Int.toNat_natCast]
      have : ((g.toNat &&& t.fMask.toNat ^^^ g.toNat &&& u.fMask.toNat) &&& t.fMask.toNat) &&& u.fMask.toNat = 0 := by
        apply Nat.eq_of_testBit_eq
        intro i
        simp only [Nat.testBit_and, Nat.testBit_xor, Nat.zero_testBit]
        cases g.toNat.testBit i <;> cases t.fMask.toNat.testBit i <;> cases u.fMask.toNat.testBit i <;> rfl
      rw [this]
      rfl
    rw [e]
    simp
  · have : (t.fField == u.fField) = false := by simpa using hf
    rw [this]; rfl
theorem takesF_iff (l : List Test) (s : Seen) : takesF l s = true ↔ ∀ t ∈ l, takT s t = true := by
  unfold takesF
  rw [Bool.not_eq_true', List.any_eq_false]
  constructor
  · intro h t ht
    have := h t ht
    cases hq : takT s t
    · rw [hq] at this; exact absurd rfl this
    · rfl
  · intro h t ht
    rw [h t ht]
    decide
theorem cover_sound {a b : List Test} {s : Seen} (h0 : 0 ≤ s.fMeta) (h1 : s.fMeta < 18446744073709551616) (oka : ∀ t ∈ a, okT t) (okb : ∀ t ∈ b, okT t) (hc : coverF a b = true) (hb : takesF b s = true) : takesF a s = true := by
  rw [takesF_iff] at *
  intro t ht
  unfold coverF at hc
  rw [Bool.not_eq_true', List.any_eq_false] at hc
  have hq : b.any (covT t) = true := by
    have := hc t ht
    cases hq : b.any (covT t)
    · rw [hq] at this; exact absurd rfl this
    · rfl
  rw [List.any_eq_true] at hq
  obtain ⟨u, hu, hcu⟩ := hq
  exact cov_tak h0 h1 (oka t ht) (okb u hu) hcu (hb u hu)
theorem meet_sound {a b : List Test} {s : Seen} (h0 : 0 ≤ s.fMeta) (h1 : s.fMeta < 18446744073709551616) (oka : ∀ t ∈ a, okT t) (okb : ∀ t ∈ b, okT t) (ha : takesF a s = true) (hb : takesF b s = true) : meetF a b = true := by
  rw [takesF_iff] at *
  exact meetF_all (fun k hk i hi => tak_clash h0 h1 (oka _ (List.getElem_mem hk)) (okb _ (List.getElem_mem hi)) (ha _ (List.getElem_mem hk)) (hb _ (List.getElem_mem hi)))
theorem same_self (a : List Test) : sameF a a = true := sameF_all rfl (fun i h1 h2 => (eqT_iff _ _).2 rfl)
theorem cover_nil (b : List Test) : coverF [] b = true := rfl
theorem takes_nil (s : Seen) : takesF [] s = true := rfl
theorem meet_nil (a : List Test) : meetF a [] = true := by unfold meetF; simp
end Go.Proofs.Ytaaadbmhcfjooaa
