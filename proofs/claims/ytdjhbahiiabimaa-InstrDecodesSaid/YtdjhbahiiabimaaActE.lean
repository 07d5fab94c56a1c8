/- What bytes seem to be: act.seems (printed by gen/acte.py). -/
import Derived.Test.YtdjhbahiiabimaaActE0
namespace Go.Proofs.Ytdjhbahiiabimaa
open Go.RowKit
set_option linter.unusedVariables false
set_option linter.unusedSimpArgs false

theorem max2i {P : Program} (w : World) (ts : Array TypeId) (t : TypeId) (x : Int) : (Builtin.max_ ts t #[.int .i64 x, .int .i64 1]).run P w = .ok (.int .i64 (max x 1)) w := by
  have : (if x < 1 then (1 : Int) else x) = max x 1 := by split <;> omega
  rw [← this]
  simp [Builtin.max_, Builtin.max2]
/-- What bytes seem to be. -/
def seemsA (s : ByteArray) : Action :=
  if numR 2 (s, 0) = 0 then ⟨1, 0, numR 4 (numS 2 (numS 2 (s, 0)))⟩
  else if numR 2 (s, 0) = 22 then ⟨2, 0, numR 4 (numS 2 (numS 2 (s, 0)))⟩
  else if numR 2 (s, 0) = 17 then ⟨3, 0, 0⟩
  else if numR 2 (s, 0) = 18 then ⟨4, 0, 0⟩
  else if numR 2 (s, 0) = 25 then ⟨5, namedA (numR 1 (numS 2 (numS 2 (numS 2 (s, 0))))), numR (max (codeF (namedA (numR 1 (numS 2 (numS 2 (numS 2 (s, 0))))))).2 1) (numS 1 (numS 1 (numS 2 (numS 2 (numS 2 (s, 0))))))⟩
  else ⟨0, 0, 0⟩
set_option maxRecDepth 100000 in
set_option maxHeartbeats 8000000 in
theorem seems_any (w : World) (s : ByteArray) (hs : s.size ≤ 140737488351232) :
    Calls Try.prog 56 #[.string s] w fun x w' => x = .returned (.agg (encAction (seemsA s)).toArray) ∧ Below w.heap.size w w' := by
  have HZ := Lib.hid (fun (W : World) l (h : KR w.heap.size w l W) => RK.read h s hs)
  have HS : Hid (seemsA s = seemsA s) := Lib.hid rfl
  conv at HS => arg 1; rhs; unfold seemsA
  generalize seemsA s = R at *
  obtain ⟨R1, R2, R3⟩ := R
  simp only [encAction]
  go_enter Try.func56, Try.ntmps56
  go_upto_region 1 with fail
  refine one_box_wp ?_
  intro W hb1 hbel hsz
  have K : Hid (KR w.heap.size w [(w.heap.size, 67, #[.int .i64 0, .int .i64 0, .int .u64 0])] W) := Lib.hid ((KR.start hbel hbel.size).add hb1)
  clear hb1 hbel hsz
  go_wp2_with fail
  refine (HZ.out _ _ K.out).mono ?_
  rintro x w1 ⟨g, rfl, hg, r0⟩
  have R := Lib.hid r0
  clear r0 K HZ hg
  go_wp2_with fail
  refine (R.out.num 2).mono ?_
  rintro x wr ⟨rfl, r'⟩
  replace R := Lib.hid r'
  clear r'
  generalize hk : numR 2 (s, 0) = k at *
  go_wp2_with fail
  refine (R.out.num 2).mono ?_
  rintro x wr ⟨rfl, r'⟩
  replace R := Lib.hid r'
  clear r'
  generalize numS 2 (numS 2 (s, 0)) = r2 at *
  clear hk
  by_cases h0 : k = 0
  · subst h0
    have HRn : Hid ((⟨R1, R2, R3⟩ : Action) = ⟨1, 0, numR 4 r2⟩) := Lib.hid (by rw [HS.out]; rfl)
    clear HS
    go_wp2_with fail
    refine (R.out.num 4).mono ?_
    rintro x wr ⟨rfl, r'⟩
    replace R := Lib.hid r'
    clear r'
    go_wp2_with (first
      | (refine wpList_store_row rfl 67 _ _ rfl _ rfl #[.int .i64 1, .int .i64 0, .int .u64 (numR 4 r2)] rfl _ _ (R.out.at 0 rfl) rfl (by kernel_rfl) (by simp [Value.oneCell']) ?_)
      | fail)
    intro Wi hbi hbari
    have HB := Lib.hid (hbari.below R.out.below (Nat.le_refl _) R.out.below.size)
    clear hbari R
    go_wp2_with fail
    refine bodyPost_ret (v := .agg #[.int .i64 1, .int .i64 0, .int .u64 (numR 4 r2)]) (results_cell_row rfl _ _ w.heap.size _ _ _ _ rfl hbi Try.underlying67 rfl (by kernel_rfl)) rfl ⟨?_, HB.out⟩
    have q := HRn.out
    simp only [Action.mk.injEq] at q
    rw [q.1, q.2.1, q.2.2]
  have t0 : (k == 0) = false := by simpa using h0
  by_cases h22 : k = 22
  · subst h22
    have HRn : Hid ((⟨R1, R2, R3⟩ : Action) = ⟨2, 0, numR 4 r2⟩) := Lib.hid (by rw [HS.out]; rfl)
    clear HS
    go_wp2_with fail
    refine (R.out.num 4).mono ?_
    rintro x wr ⟨rfl, r'⟩
    replace R := Lib.hid r'
    clear r'
    go_wp2_with (first
      | (refine wpList_store_row rfl 67 _ _ rfl _ rfl #[.int .i64 2, .int .i64 0, .int .u64 (numR 4 r2)] rfl _ _ (R.out.at 0 rfl) rfl (by kernel_rfl) (by simp [Value.oneCell']) ?_)
      | fail)
    intro Wi hbi hbari
    have HB := Lib.hid (hbari.below R.out.below (Nat.le_refl _) R.out.below.size)
    clear hbari R
    go_wp2_with fail
    refine bodyPost_ret (v := .agg #[.int .i64 2, .int .i64 0, .int .u64 (numR 4 r2)]) (results_cell_row rfl _ _ w.heap.size _ _ _ _ rfl hbi Try.underlying67 rfl (by kernel_rfl)) rfl ⟨?_, HB.out⟩
    have q := HRn.out
    simp only [Action.mk.injEq] at q
    rw [q.1, q.2.1, q.2.2]
  have t22 : (k == 22) = false := by simpa using h22
  by_cases h17 : k = 17
  · subst h17
    have HRn : Hid ((⟨R1, R2, R3⟩ : Action) = ⟨3, 0, 0⟩) := Lib.hid (by rw [HS.out]; rfl)
    clear HS
    go_wp2_with (first
      | (refine wpList_store_row rfl 67 _ _ rfl _ rfl #[.int .i64 3, .int .i64 0, .int .u64 0] rfl _ _ (R.out.at 0 rfl) rfl (by kernel_rfl) (by simp [Value.oneCell']) ?_)
      | fail)
    intro Wi hbi hbari
    have HB := Lib.hid (hbari.below R.out.below (Nat.le_refl _) R.out.below.size)
    clear hbari R
    go_wp2_with fail
    refine bodyPost_ret (v := .agg #[.int .i64 3, .int .i64 0, .int .u64 0]) (results_cell_row rfl _ _ w.heap.size _ _ _ _ rfl hbi Try.underlying67 rfl (by kernel_rfl)) rfl ⟨?_, HB.out⟩
    have q := HRn.out
    simp only [Action.mk.injEq] at q
    rw [q.1, q.2.1, q.2.2]
  have t17 : (k == 17) = false := by simpa using h17
  by_cases h18 : k = 18
  · subst h18
    have HRn : Hid ((⟨R1, R2, R3⟩ : Action) = ⟨4, 0, 0⟩) := Lib.hid (by rw [HS.out]; rfl)
    clear HS
    go_wp2_with (first
      | (refine wpList_store_row rfl 67 _ _ rfl _ rfl #[.int .i64 4, .int .i64 0, .int .u64 0] rfl _ _ (R.out.at 0 rfl) rfl (by kernel_rfl) (by simp [Value.oneCell']) ?_)
      | fail)
    intro Wi hbi hbari
    have HB := Lib.hid (hbari.below R.out.below (Nat.le_refl _) R.out.below.size)
    clear hbari R
    go_wp2_with fail
    refine bodyPost_ret (v := .agg #[.int .i64 4, .int .i64 0, .int .u64 0]) (results_cell_row rfl _ _ w.heap.size _ _ _ _ rfl hbi Try.underlying67 rfl (by kernel_rfl)) rfl ⟨?_, HB.out⟩
    have q := HRn.out
    simp only [Action.mk.injEq] at q
    rw [q.1, q.2.1, q.2.2]
  have t18 : (k == 18) = false := by simpa using h18
  by_cases h25 : k = 25
  · subst h25
    have HRn : Hid ((⟨R1, R2, R3⟩ : Action) = ⟨5, namedA (numR 1 (numS 2 r2)), numR (max (codeF (namedA (numR 1 (numS 2 r2)))).2 1) (numS 1 (numS 1 (numS 2 r2)))⟩) := Lib.hid (by rw [HS.out]; rfl)
    clear HS
    go_wp2_with fail
    refine (R.out.num 2).mono ?_
    rintro x wr ⟨rfl, r'⟩
    replace R := Lib.hid r'
    clear r'
    go_wp2_with fail
    refine (R.out.num 1).mono ?_
    rintro x wr ⟨rfl, r'⟩
    replace R := Lib.hid r'
    clear r'
    go_wp2_with fail
    refine (named_any _ _).mono ?_
    rintro e w' ⟨rfl, hw⟩
    subst hw
    generalize namedA (numR 1 (numS 2 r2)) = f at *
    go_wp2_with fail
    refine (R.out.num 1).mono ?_
    rintro x wr ⟨rfl, r'⟩
    replace R := Lib.hid r'
    clear r'
    generalize numS 1 (numS 1 (numS 2 r2)) = r5 at *
    go_wp2_with fail
    refine (code_any _ _).mono ?_
    rintro e w' ⟨rfl, hw⟩
    subst hw
    generalize (codeF f).1 = c1 at *
    generalize (codeF f).2 = n1 at *
    have hmx := fun (W : World) (ts : Array TypeId) (t : TypeId) => max2i (P := Try.prog) W ts t n1
    generalize max n1 1 = m at *
    go_wp2_with fail
    refine (R.out.num m).mono ?_
    rintro x wr ⟨rfl, r'⟩
    replace R := Lib.hid r'
    clear r'
    clear hmx
    go_wp2_with (first
      | (refine wpList_store_row rfl 67 _ _ rfl _ rfl #[.int .i64 5, .int .i64 f, .int .u64 (numR m r5)] rfl _ _ (R.out.at 0 rfl) rfl (by kernel_rfl) (by simp [Value.oneCell']) ?_)
      | fail)
    intro Wi hbi hbari
    have HB := Lib.hid (hbari.below R.out.below (Nat.le_refl _) R.out.below.size)
    clear hbari R
    go_wp2_with fail
    refine bodyPost_ret (v := .agg #[.int .i64 5, .int .i64 f, .int .u64 (numR m r5)]) (results_cell_row rfl _ _ w.heap.size _ _ _ _ rfl hbi Try.underlying67 rfl (by kernel_rfl)) rfl ⟨?_, HB.out⟩
    have q := HRn.out
    simp only [Action.mk.injEq] at q
    rw [q.1, q.2.1, q.2.2]
  have t25 : (k == 25) = false := by simpa using h25
  have HRn : Hid ((⟨R1, R2, R3⟩ : Action) = ⟨0, 0, 0⟩) := Lib.hid (by rw [HS.out, if_neg h0, if_neg h22, if_neg h17, if_neg h18, if_neg h25])
  clear HS h0 h22 h17 h18 h25
  go_wp2_with (first
    | (refine wpList_store_row rfl 67 _ _ rfl _ rfl #[.int .i64 0, .int .i64 0, .int .u64 0] rfl _ _ (R.out.at 0 rfl) rfl (by kernel_rfl) (by simp [Value.oneCell']) ?_)
    | fail)
  intro Wi hbi hbari
  have HB := Lib.hid (hbari.below R.out.below (Nat.le_refl _) R.out.below.size)
  clear hbari R
  go_wp2_with fail
  refine bodyPost_ret (v := .agg #[.int .i64 0, .int .i64 0, .int .u64 0]) (results_cell_row rfl _ _ w.heap.size _ _ _ _ rfl hbi Try.underlying67 rfl (by kernel_rfl)) rfl ⟨?_, HB.out⟩
  have q := HRn.out
  simp only [Action.mk.injEq] at q
  rw [q.1, q.2.1, q.2.2]
end Go.Proofs.Ytdjhbahiiabimaa
