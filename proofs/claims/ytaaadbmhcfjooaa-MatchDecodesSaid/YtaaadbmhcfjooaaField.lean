/- The walks of package field: each function's answer as a plain function. -/
import Derived.Test.YtaaadbmhcfjooaaTSeen
import Derived.Laws.BitsLemmas
namespace Go.Proofs.Ytaaadbmhcfjooaa
open Go.RowKit
set_option linter.unusedVariables false

theorem fcases (f : Int) : f = 1 ∨ f = 2 ∨ f = 3 ∨ f = 4 ∨ f = 5 ∨ f = 6 ∨ f = 7 ∨ f = 8 ∨ f = 9 ∨
    ((f == 1) = false ∧ (f == 2) = false ∧ (f == 3) = false ∧ (f == 4) = false ∧ (f == 5) = false ∧ (f == 6) = false ∧ (f == 7) = false ∧ (f == 8) = false ∧ (f == 9) = false ∧ (f < 1 ∨ 9 < f)) := by
  by_cases h : 1 ≤ f ∧ f ≤ 9
  · omega
  · iterate 9 right
    refine ⟨?_, ?_, ?_, ?_, ?_, ?_, ?_, ?_, ?_, by omega⟩ <;> exact beq_eq_false_iff_ne.mpr (by omega)

def widthF (f : Int) : Int := if f = 1 then 32 else if f = 2 then 64 else if f = 3 then 13 else if f = 4 then 16 else if f = 5 then 32 else if f = 6 then 32 else if f = 7 then 8 else if f = 8 then 16 else if f = 9 then 16 else 0
theorem widthF_none {f : Int} (h : f < 1 ∨ 9 < f) : widthF f = 0 := by
  unfold widthF
  rw [if_neg (by omega), if_neg (by omega), if_neg (by omega), if_neg (by omega), if_neg (by omega), if_neg (by omega), if_neg (by omega), if_neg (by omega), if_neg (by omega)]

set_option maxHeartbeats 2000000 in
theorem Width_any (w : World) (f : Int) : Calls Try.prog 26 #[.int .i64 f] w fun x w' => x = .returned (.int .i64 (widthF f)) ∧ w = w' := by
  rcases fcases f with rfl | rfl | rfl | rfl | rfl | rfl | rfl | rfl | rfl | ⟨h1, h2, h3, h4, h5, h6, h7, h8, h9, h⟩
  case inr.inr.inr.inr.inr.inr.inr.inr.inr =>
    rw [widthF_none h]
    clear h
    go_enter Try.func26, Try.ntmps26
    go_wp2
    go_ret
    exact ⟨rfl, rfl⟩
  all_goals
    go_enter Try.func26, Try.ntmps26
    go_wp2
    go_ret
    exact ⟨rfl, rfl⟩

/-- Is there a field? -/
def hasF (s : Seen) (f : Int) : Bool :=
  if f = 1 ∨ f = 2 ∨ f = 3 ∨ f = 4 then true else if f = 5 ∨ f = 6 ∨ f = 7 then s.fP.fType == 2048 else if f = 8 ∨ f = 9 then s.fP.fType == 2048 && (s.fP.fProto == 6 || s.fP.fProto == 17) else false
theorem hasF_none {s : Seen} {f : Int} (h : f < 1 ∨ 9 < f) : hasF s f = false := by
  unfold hasF
  rw [if_neg (by omega), if_neg (by omega), if_neg (by omega)]

set_option maxRecDepth 100000 in
set_option maxHeartbeats 4000000 in
theorem has_any (w : World) (s : Seen) (f : Int) : Calls Try.prog 57 #[valSeen s, .int .i64 f] w fun x w' => x = .returned (.bool (hasF s f)) ∧ Below w.heap.size w w' := by
  obtain ⟨i0, n0, p⟩ := s
  obtain ⟨p0, p1, p2, p3, p4, p5, p6, p7, p8, p9, p10⟩ := p
  have hA := Lib.hid (fun (o : Obj) => (Below.refl w.heap.size w).alloc (Nat.le_refl _) o)
  rcases fcases f with rfl | rfl | rfl | rfl | rfl | rfl | rfl | rfl | rfl | ⟨h1, h2, h3, h4, h5, h6, h7, h8, h9, h⟩
  case inr.inr.inr.inr.inr.inr.inr.inr.inr =>
    rw [hasF_none h]
    clear h
    go_enter Try.func57, Try.ntmps57
    go_wp2
    go_ret
    exact ⟨rfl, hA.out _⟩
  case inr.inr.inr.inr.inr.inr.inr.inr.inl | inr.inr.inr.inr.inr.inr.inr.inl =>
    by_cases ht : p3 = 2048
    · subst ht
      by_cases hp : p7 = 6
      · subst hp
        go_enter Try.func57, Try.ntmps57
        go_wp2
        go_ret
        exact ⟨rfl, hA.out _⟩
      · have hp1 : (p7 == 6) = false := beq_eq_false_iff_ne.mpr hp
        by_cases hq : p7 = 17
        · subst hq
          go_enter Try.func57, Try.ntmps57
          go_wp2
          go_ret
          exact ⟨rfl, hA.out _⟩
        · have hp2 : (p7 == 17) = false := beq_eq_false_iff_ne.mpr hq
          have hfin : hasF ⟨i0, n0, p0, p1, p2, 2048, p4, p5, p6, p7, p8, p9, p10⟩ 8 = false ∧ hasF ⟨i0, n0, p0, p1, p2, 2048, p4, p5, p6, p7, p8, p9, p10⟩ 9 = false := by simp [hasF, hp1, hp2]
          simp only [hfin.1, hfin.2]
          clear hfin hp hq
          go_enter Try.func57, Try.ntmps57
          go_wp2
          go_ret
          exact ⟨rfl, hA.out _⟩
    · have ht1 : (p3 == 2048) = false := beq_eq_false_iff_ne.mpr ht
      have hfin : hasF ⟨i0, n0, p0, p1, p2, p3, p4, p5, p6, p7, p8, p9, p10⟩ 8 = false ∧ hasF ⟨i0, n0, p0, p1, p2, p3, p4, p5, p6, p7, p8, p9, p10⟩ 9 = false := by simp [hasF, ht1]
      simp only [hfin.1, hfin.2]
      clear hfin ht
      go_enter Try.func57, Try.ntmps57
      go_wp2
      go_ret
      exact ⟨rfl, hA.out _⟩
  all_goals
    go_enter Try.func57, Try.ntmps57
    go_wp2
    go_ret
    exact ⟨rfl, hA.out _⟩

/-- What stands where a field stands. -/
def rawF (s : Seen) (f : Int) : Int :=
  if f = 1 then IntKind.u64.wrap s.fIn else if f = 2 then s.fMeta else if f = 3 then IntKind.u64.wrap s.fP.fVlan else if f = 4 then IntKind.u64.wrap s.fP.fType else
  if f = 5 then IntKind.u64.wrap s.fP.fSrc else if f = 6 then IntKind.u64.wrap s.fP.fDst else if f = 7 then IntKind.u64.wrap s.fP.fProto else if f = 8 then IntKind.u64.wrap s.fP.fSport else IntKind.u64.wrap s.fP.fDport

set_option maxRecDepth 100000 in
set_option maxHeartbeats 4000000 in
theorem raw_any (w : World) (s : Seen) (f : Int) : Calls Try.prog 58 #[valSeen s, .int .i64 f] w fun x w' => x = .returned (.int .u64 (rawF s f)) ∧ Below w.heap.size w w' := by
  obtain ⟨i0, n0, p⟩ := s
  obtain ⟨p0, p1, p2, p3, p4, p5, p6, p7, p8, p9, p10⟩ := p
  have hA := Lib.hid (fun (o : Obj) => (Below.refl w.heap.size w).alloc (Nat.le_refl _) o)
  rcases fcases f with rfl | rfl | rfl | rfl | rfl | rfl | rfl | rfl | rfl | ⟨h1, h2, h3, h4, h5, h6, h7, h8, h9, h⟩
  case inr.inr.inr.inr.inr.inr.inr.inr.inr =>
    have hfin : rawF ⟨i0, n0, p0, p1, p2, p3, p4, p5, p6, p7, p8, p9, p10⟩ f = IntKind.u64.wrap p9 := by
      unfold rawF
      rw [if_neg (by omega), if_neg (by omega), if_neg (by omega), if_neg (by omega), if_neg (by omega), if_neg (by omega), if_neg (by omega), if_neg (by omega)]
    rw [hfin]
    clear h hfin
    go_enter Try.func58, Try.ntmps58
    go_wp2
    go_ret
    exact ⟨rfl, hA.out _⟩
  all_goals
    go_enter Try.func58, Try.ntmps58
    go_wp2
    go_ret
    exact ⟨rfl, hA.out _⟩

/-- The greatest number of a field (that is one). -/
def greatF (f : Int) : Int := 2 ^ (widthF f).toNat - 1
theorem widthF_1 : widthF 1 = 32 := rfl
theorem widthF_2 : widthF 2 = 64 := rfl
theorem widthF_3 : widthF 3 = 13 := rfl
theorem widthF_4 : widthF 4 = 16 := rfl
theorem widthF_5 : widthF 5 = 32 := rfl
theorem widthF_6 : widthF 6 = 32 := rfl
theorem widthF_7 : widthF 7 = 8 := rfl
theorem widthF_8 : widthF 8 = 16 := rfl
theorem widthF_9 : widthF 9 = 16 := rfl
set_option maxHeartbeats 4000000 in
theorem greatest_any (w : World) (f : Int) : Calls Try.prog 59 #[.int .i64 f] w fun x w' => x = .returned (.int .u64 (greatF f)) ∧ w = w' := by
  have H := Lib.hid (Width_any w f)
  rcases fcases f with rfl | rfl | rfl | rfl | rfl | rfl | rfl | rfl | rfl | ⟨h1, h2, h3, h4, h5, h6, h7, h8, h9, h⟩
  case inr.inr.inr.inr.inr.inr.inr.inr.inr =>
    rw [widthF_none h] at H
    have hg : greatF f = 0 := by unfold greatF; rw [widthF_none h]; rfl
    rw [hg]
    clear h hg
    go_enter Try.func59, Try.ntmps59
    go_wp2_with fail
    refine H.out.mono ?_
    rintro e w' ⟨rfl, rfl⟩
    go_wp2
    go_ret
    exact ⟨rfl, rfl⟩
  all_goals
    try rw [widthF_1] at H
    try rw [widthF_2] at H
    try rw [widthF_3] at H
    try rw [widthF_4] at H
    try rw [widthF_5] at H
    try rw [widthF_6] at H
    try rw [widthF_7] at H
    try rw [widthF_8] at H
    try rw [widthF_9] at H
    go_enter Try.func59, Try.ntmps59
    go_wp2_with fail
    refine H.out.mono ?_
    rintro e w' ⟨rfl, rfl⟩
    go_wp2
    go_ret
    exact ⟨rfl, rfl⟩

def maskF (f : Int) : Nat := 2 ^ (widthF f).toNat
/-- What a packet has in a field, and the error. -/
def getF (s : Seen) (f : Int) : Int × Int := if hasF s f then (rawF s f % (maskF f : Int), 0) else (0, 20)
theorem u64_wrap_range (n : Int) : 0 ≤ IntKind.u64.wrap n ∧ IntKind.u64.wrap n < 18446744073709551616 := by
  have : IntKind.u64.wrap n = n % 18446744073709551616 := by simp [IntKind.wrap, IntKind.bits, IntKind.signed]
  omega
theorem rawF_range (s : Seen) (f : Int) (h0 : 0 ≤ s.fMeta) (h1 : s.fMeta < 18446744073709551616) : 0 ≤ rawF s f ∧ rawF s f < 18446744073709551616 := by
  unfold rawF
  repeat' split
  all_goals first | exact u64_wrap_range _ | exact ⟨h0, h1⟩
theorem widthF_le (f : Int) : 0 ≤ widthF f ∧ widthF f ≤ 64 := by
  unfold widthF
  repeat' split
  all_goals decide
theorem and_great (s : Seen) (f : Int) (h0 : 0 ≤ s.fMeta) (h1 : s.fMeta < 18446744073709551616) : bits .and .u64 (rawF s f) (greatF f) = rawF s f % (maskF f : Int) := by
  obtain ⟨r0, r1⟩ := rawF_range s f h0 h1
  obtain ⟨k0, k1⟩ := widthF_le f
  have := bits_mask .u64 64 (by decide) (fun n a b => by simp [IntKind.wrap, IntKind.bits, IntKind.signed]; omega) (widthF f).toNat (by omega) (rawF s f) r0 (by simpa using r1)
  unfold greatF maskF
  rw [this]
  simp

end Go.Proofs.Ytaaadbmhcfjooaa
