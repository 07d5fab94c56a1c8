/- field.Get, droverref04's functions and Plain. -/
import Derived.Test.YtaaadbmhcfjooaaField
import Derived.BigQuiet
namespace Go.Proofs.Ytaaadbmhcfjooaa
open Go.RowKit
set_option linter.unusedVariables false

/-- A packet in a switch that lies in a box: its cells. -/
theorem seen_cells {W : World} {g : Nat} {t : TypeId} {i0 n0 p0 p1 p2 p3 p4 p5 p6 p7 p8 p9 : Int} {p10 : ByteArray} (h : BlkAt W g t #[.int .i64 i0, .int .u64 n0, .int .u64 p0, .int .u64 p1, .int .i64 p2, .int .i64 p3, .int .u32 p4, .int .u32 p5, .int .i64 p6, .int .i64 p7, .int .i64 p8, .int .i64 p9, .string p10]) :
    W.cell? ⟨g, 0, none⟩ = some (.int .i64 i0) ∧ W.cell? ⟨g, 1, none⟩ = some (.int .u64 n0) ∧ W.cell? ⟨g, 2, none⟩ = some (.int .u64 p0) ∧ W.cell? ⟨g, 3, none⟩ = some (.int .u64 p1) ∧ W.cell? ⟨g, 4, none⟩ = some (.int .i64 p2) ∧ W.cell? ⟨g, 5, none⟩ = some (.int .i64 p3) ∧ W.cell? ⟨g, 6, none⟩ = some (.int .u32 p4) ∧ W.cell? ⟨g, 7, none⟩ = some (.int .u32 p5) ∧ W.cell? ⟨g, 8, none⟩ = some (.int .i64 p6) ∧ W.cell? ⟨g, 9, none⟩ = some (.int .i64 p7) ∧ W.cell? ⟨g, 10, none⟩ = some (.int .i64 p8) ∧ W.cell? ⟨g, 11, none⟩ = some (.int .i64 p9) ∧ W.cell? ⟨g, 12, none⟩ = some (.string p10) :=
  ⟨h.cell 0 _ rfl, h.cell 1 _ rfl, h.cell 2 _ rfl, h.cell 3 _ rfl, h.cell 4 _ rfl, h.cell 5 _ rfl, h.cell 6 _ rfl, h.cell 7 _ rfl, h.cell 8 _ rfl, h.cell 9 _ rfl, h.cell 10 _ rfl, h.cell 11 _ rfl, h.cell 12 _ rfl⟩
set_option maxHeartbeats 2000000 in
theorem Get_any (w : World) (s : Seen) (f : Int) (h0 : 0 ≤ s.fMeta) (h1 : s.fMeta < 18446744073709551616) :
    Calls Try.prog 45 #[valSeen s, .int .i64 f] w fun x w' => x = .returned (.tuple #[.int .u64 (getF s f).1, .int .i64 (getF s f).2]) ∧ Below w.heap.size w w' := by
  have HH := Lib.hid (fun W => has_any W s f)
  have HR := Lib.hid (fun W => raw_any W s f)
  have HG := Lib.hid (fun W => greatest_any W f)
  have hb := and_great s f h0 h1
  have hA := Lib.hid (fun (o : Obj) => (Below.refl w.heap.size w).alloc (Nat.le_refl _) o)
  clear h0 h1
  cases hh : hasF s f with
  | false =>
    have e : getF s f = (0, 20) := by unfold getF; rw [hh]; rfl
    rw [e]
    rw [hh] at HH
    clear hb e hh
    obtain ⟨i0, n0, p⟩ := s
    obtain ⟨p0, p1, p2, p3, p4, p5, p6, p7, p8, p9, p10⟩ := p
    go_enter Try.func45, Try.ntmps45
    go_wp2_with fail
    refine (HH.out _).mono ?_
    rintro e w1 ⟨rfl, b1⟩
    go_wp2
    go_ret2
    exact ⟨rfl, (hA.out _).trans (b1.mono (by simp))⟩
  | true =>
    have e : getF s f = (rawF s f % (maskF f : Int), 0) := by unfold getF; rw [hh]; rfl
    rw [e, ← hb]
    rw [hh] at HH
    clear hb e hh
    generalize hrr : rawF s f = rr at *
    generalize greatF f = gg at *
    clear hrr
    obtain ⟨i0, n0, p⟩ := s
    obtain ⟨p0, p1, p2, p3, p4, p5, p6, p7, p8, p9, p10⟩ := p
    go_enter Try.func45, Try.ntmps45
    go_wp2_with fail
    refine (HH.out _).mono ?_
    rintro e w1 ⟨rfl, b1⟩
    have hs := (BlkAt.new w 37 #[.int .i64 i0, .int .u64 n0, .int .u64 p0, .int .u64 p1, .int .i64 p2, .int .i64 p3, .int .u32 p4, .int .u32 p5, .int .i64 p6, .int .i64 p7, .int .i64 p8, .int .i64 p9, .string p10]).below b1 (by simp)
    obtain ⟨c0, c1, c2, c3, c4, c5, c6, c7, c8, c9, c10, c11, c12⟩ := seen_cells hs
    clear hs
    go_wp2_with fail
    refine (HR.out _).mono ?_
    rintro e w2 ⟨rfl, b2⟩
    go_wp2_with fail
    refine (HG.out _).mono ?_
    rintro e w3 ⟨rfl, rfl⟩
    go_wp2
    go_ret2
    have k1 := (hA.out _).trans (b1.mono (by simp))
    exact ⟨rfl, k1.trans (b2.mono k1.size)⟩

set_option maxHeartbeats 2000000 in
theorem rWidth_any (w : World) (f : Int) : Calls Try.prog 29 #[.int .i64 f] w fun x w' => x = .returned (.int .i64 (widthF f)) ∧ Below w.heap.size w w' := by
  have hA := Lib.hid (fun (o : Obj) => (Below.refl w.heap.size w).alloc (Nat.le_refl _) o)
  rcases fcases f with rfl | rfl | rfl | rfl | rfl | rfl | rfl | rfl | rfl | ⟨h1, h2, h3, h4, h5, h6, h7, h8, h9, h⟩
  case inr.inr.inr.inr.inr.inr.inr.inr.inr =>
    rw [widthF_none h]
    have hc : (∃ x : Unit, decide (f < 1) = true) ∨ (∃ x : Unit, decide (f < 1) = false ∧ decide (9 < f) = true) := by
      by_cases h1 : f < 1
      · exact .inl ⟨(), by simpa using h1⟩
      · exact .inr ⟨(), by simpa using h1, by simp; omega⟩
    clear h h1 h2 h3 h4 h5 h6 h7 h8 h9
    rcases hc with ⟨_, h1⟩ | ⟨_, h1, h2⟩
    all_goals
      go_enter Try.func29, Try.ntmps29
      go_wp2
      go_ret
      exact ⟨rfl, Below.refl _ _⟩
  all_goals
    go_enter Try.func29, Try.ntmps29
    go_wp2
    go_ret
    exact ⟨rfl, hA.out _⟩

set_option maxRecDepth 100000 in
set_option maxHeartbeats 4000000 in
theorem rHas_any (w : World) (s : Seen) (f : Int) : Calls Try.prog 60 #[valSeen s, .int .i64 f] w fun x w' => x = .returned (.bool (hasF s f)) ∧ Below w.heap.size w w' := by
  obtain ⟨i0, n0, p⟩ := s
  obtain ⟨p0, p1, p2, p3, p4, p5, p6, p7, p8, p9, p10⟩ := p
  have hA := Lib.hid (fun (o : Obj) => (Below.refl w.heap.size w).alloc (Nat.le_refl _) o)
  rcases fcases f with rfl | rfl | rfl | rfl | rfl | rfl | rfl | rfl | rfl | ⟨h1, h2, h3, h4, h5, h6, h7, h8, h9, h⟩
  case inr.inr.inr.inr.inr.inr.inr.inr.inr =>
    rw [hasF_none h]
    have hc : (∃ x : Unit, decide (f < 1) = true) ∨ (∃ x : Unit, decide (f < 1) = false ∧ decide (9 < f) = true) := by
      by_cases h1 : f < 1
      · exact .inl ⟨(), by simpa using h1⟩
      · exact .inr ⟨(), by simpa using h1, by simp; omega⟩
    clear h h1 h2 h3 h4 h5 h6 h7 h8 h9
    rcases hc with ⟨_, h1⟩ | ⟨_, h1, h2⟩
    all_goals
      go_enter Try.func60, Try.ntmps60
      go_wp2
      go_ret
      exact ⟨rfl, hA.out _⟩
  case inl | inr.inl | inr.inr.inl | inr.inr.inr.inl =>
    all_goals
      go_enter Try.func60, Try.ntmps60
      go_wp2
      go_ret
      exact ⟨rfl, hA.out _⟩
  case inr.inr.inr.inr.inl | inr.inr.inr.inr.inr.inl | inr.inr.inr.inr.inr.inr.inl =>
    all_goals
      by_cases ht : p3 = 2048
      · subst ht
        go_enter Try.func60, Try.ntmps60
        go_wp2
        go_ret
        exact ⟨rfl, hA.out _⟩
      · have ht1 : (p3 == 2048) = false := beq_eq_false_iff_ne.mpr ht
        have hfin : hasF ⟨i0, n0, p0, p1, p2, p3, p4, p5, p6, p7, p8, p9, p10⟩ 5 = false ∧ hasF ⟨i0, n0, p0, p1, p2, p3, p4, p5, p6, p7, p8, p9, p10⟩ 6 = false ∧ hasF ⟨i0, n0, p0, p1, p2, p3, p4, p5, p6, p7, p8, p9, p10⟩ 7 = false := by simp [hasF, ht1]
        simp only [hfin.1, hfin.2]
        clear hfin ht
        go_enter Try.func60, Try.ntmps60
        go_wp2
        go_ret
        exact ⟨rfl, hA.out _⟩
  all_goals
    by_cases ht : p3 = 2048
    · subst ht
      by_cases hp : p7 = 6
      · subst hp
        go_enter Try.func60, Try.ntmps60
        go_wp2
        go_ret
        exact ⟨rfl, hA.out _⟩
      · have hp1 : (p7 == 6) = false := beq_eq_false_iff_ne.mpr hp
        by_cases hq : p7 = 17
        · subst hq
          go_enter Try.func60, Try.ntmps60
          go_wp2
          go_ret
          exact ⟨rfl, hA.out _⟩
        · have hp2 : (p7 == 17) = false := beq_eq_false_iff_ne.mpr hq
          have hfin : hasF ⟨i0, n0, p0, p1, p2, 2048, p4, p5, p6, p7, p8, p9, p10⟩ 8 = false ∧ hasF ⟨i0, n0, p0, p1, p2, 2048, p4, p5, p6, p7, p8, p9, p10⟩ 9 = false := by simp [hasF, hp1, hp2]
          simp only [hfin.1, hfin.2]
          clear hfin hp hq
          go_enter Try.func60, Try.ntmps60
          go_wp2
          go_ret
          exact ⟨rfl, hA.out _⟩
    · have ht1 : (p3 == 2048) = false := beq_eq_false_iff_ne.mpr ht
      have hfin : hasF ⟨i0, n0, p0, p1, p2, p3, p4, p5, p6, p7, p8, p9, p10⟩ 8 = false ∧ hasF ⟨i0, n0, p0, p1, p2, p3, p4, p5, p6, p7, p8, p9, p10⟩ 9 = false := by simp [hasF, ht1]
      simp only [hfin.1, hfin.2]
      clear hfin ht
      go_enter Try.func60, Try.ntmps60
      go_wp2
      go_ret
      exact ⟨rfl, hA.out _⟩

theorem and_low (k : Nat) (hk : k ≤ 64) (v : Int) (h0 : 0 ≤ v) (h1 : v < 18446744073709551616) : bits .and .u64 v (2 ^ k - 1) = v % 2 ^ k :=
  bits_mask .u64 64 (by decide) (fun n a b => by simp [IntKind.wrap, IntKind.bits, IntKind.signed]; omega) k hk v h0 (by simpa using h1)
theorem rlow_any (w : World) (v : Int) (f : Int) (hf : 1 ≤ f ∧ f ≤ 9) (h0 : 0 ≤ v) (h1 : v < 18446744073709551616) :
    Calls Try.prog 61 #[.int .u64 v, .int .i64 (widthF f)] w fun x w' => x = .returned (.int .u64 (v % (maskF f : Int))) ∧ w = w' := by
  have hc : (∃ x : Unit, widthF f = 64 ∧ v % (maskF f : Int) = v) ∨ (∃ x : Unit, widthF f = 32 ∧ v % (maskF f : Int) = bits .and .u64 v 4294967295) ∨ (∃ x : Unit, widthF f = 16 ∧ v % (maskF f : Int) = bits .and .u64 v 65535) ∨
      (∃ x : Unit, widthF f = 13 ∧ v % (maskF f : Int) = bits .and .u64 v 8191) ∨ (∃ x : Unit, widthF f = 8 ∧ v % (maskF f : Int) = bits .and .u64 v 255) := by
    have e : ∀ k : Nat, widthF f = (k : Int) → v % (maskF f : Int) = v % 2 ^ k := by intro k hk; unfold maskF; rw [hk]; simp
    rcases fcases f with rfl | rfl | rfl | rfl | rfl | rfl | rfl | rfl | rfl | ⟨_, _, _, _, _, _, _, _, _, h⟩
    · exact .inr (.inl ⟨(), rfl, (e 32 rfl).trans (and_low 32 (by decide) v h0 h1).symm⟩)
    · exact .inl ⟨(), rfl, (e 64 rfl).trans (Int.emod_eq_of_lt h0 (by simpa using h1))⟩
    · exact .inr (.inr (.inr (.inl ⟨(), rfl, (e 13 rfl).trans (and_low 13 (by decide) v h0 h1).symm⟩)))
    · exact .inr (.inr (.inl ⟨(), rfl, (e 16 rfl).trans (and_low 16 (by decide) v h0 h1).symm⟩))
    · exact .inr (.inl ⟨(), rfl, (e 32 rfl).trans (and_low 32 (by decide) v h0 h1).symm⟩)
    · exact .inr (.inl ⟨(), rfl, (e 32 rfl).trans (and_low 32 (by decide) v h0 h1).symm⟩)
    · exact .inr (.inr (.inr (.inr ⟨(), rfl, (e 8 rfl).trans (and_low 8 (by decide) v h0 h1).symm⟩)))
    · exact .inr (.inr (.inl ⟨(), rfl, (e 16 rfl).trans (and_low 16 (by decide) v h0 h1).symm⟩))
    · exact .inr (.inr (.inl ⟨(), rfl, (e 16 rfl).trans (and_low 16 (by decide) v h0 h1).symm⟩))
    · omega
  clear hf h0 h1
  rcases hc with ⟨_, e1, e2⟩ | ⟨_, e1, e2⟩ | ⟨_, e1, e2⟩ | ⟨_, e1, e2⟩ | ⟨_, e1, e2⟩
  all_goals
    rw [e1, e2]
    clear e1 e2
    go_enter Try.func61, Try.ntmps61
    go_wp2
    go_ret
    exact ⟨rfl, rfl⟩
end Go.Proofs.Ytaaadbmhcfjooaa
