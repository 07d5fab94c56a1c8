/- May an action be? -/
import Derived.Test.YtfjngecgfmlnfaaTGroup
import Derived.Test.YtfjngecgfmlnfaaHeldG
import Derived.Test.YtfjngecgfmlnfaaQuiet2
import Derived.Deep.Cut
import Derived.Deep.DeepCutAuto
import Derived.Outline
namespace Go.Proofs.Ytfjngecgfmlnfaa
open Go.RowKit
set_option linter.unusedVariables false
set_option linter.unusedSimpArgs false

def codeF (f : Int) : Int × Int := if f = 3 then (6, 2) else if f = 5 then (11, 4) else if f = 6 then (12, 4) else if f = 8 then (13, 2) else if f = 9 then (14, 2) else (0, 0)
set_option maxRecDepth 100000 in
set_option maxHeartbeats 4000000 in
theorem code_any (w : World) (f : Int) : Calls Try.prog 65 #[.int .i64 f] w fun x w' => x = .returned (.tuple #[.int .u64 (codeF f).1, .int .i64 (codeF f).2]) ∧ w = w' := by
  by_cases h : f = 3 ∨ f = 5 ∨ f = 6 ∨ f = 8 ∨ f = 9
  · rcases h with rfl | rfl | rfl | rfl | rfl
    all_goals
      go_enter Try.func65, Try.ntmps65
      go_wp2_with fail
      go_ret2
      exact ⟨rfl, rfl⟩
  · have e : codeF f = (0, 0) := by unfold codeF; simp only [not_or] at h; obtain ⟨a, b, c, d, e⟩ := h; simp [a, b, c, d, e]
    rw [e]
    have h3 : (f == 3) = false := by simp; omega
    have h5 : (f == 5) = false := by simp; omega
    have h6 : (f == 6) = false := by simp; omega
    have h8 : (f == 8) = false := by simp; omega
    have h9 : (f == 9) = false := by simp; omega
    clear e h
    go_enter Try.func65, Try.ntmps65
    go_wp2_with fail
    go_ret2
    exact ⟨rfl, rfl⟩
theorem fcases (f : Int) : f = 1 ∨ f = 2 ∨ f = 3 ∨ f = 4 ∨ f = 5 ∨ f = 6 ∨ f = 7 ∨ f = 8 ∨ f = 9 ∨
    ((f == 1) = false ∧ (f == 2) = false ∧ (f == 3) = false ∧ (f == 4) = false ∧ (f == 5) = false ∧ (f == 6) = false ∧ (f == 7) = false ∧ (f == 8) = false ∧ (f == 9) = false ∧ (f < 1 ∨ 9 < f)) := by
  by_cases h : 1 ≤ f ∧ f ≤ 9
  · omega
  · iterate 9 right
    refine ⟨?_, ?_, ?_, ?_, ?_, ?_, ?_, ?_, ?_, by omega⟩ <;> exact beq_eq_false_iff_ne.mpr (by omega)

def widthF (f : Int) : Int := if f = 1 then 32 else if f = 2 then 64 else if f = 3 then 13 else if f = 4 then 16 else if f = 5 then 32 else if f = 6 then 32 else if f = 7 then 8 else if f = 8 then 16 else if f = 9 then 16 else 0
theorem widthF_none {f : Int} (h : f < 1 ∨ 9 < f) : widthF f = 0 := by
  unfold widthF
  rw [if_neg (by omega), if_neg (by omega), if_neg (by omega), if_neg (by omega), if_neg (by omega), if_neg (by omega), if_neg (by omega), if_neg (by omega), if_neg (by omega)]

set_option maxHeartbeats 2000000 in
theorem Width_any (w : World) (f : Int) : Calls Try.prog 66 #[.int .i64 f] w fun x w' => x = .returned (.int .i64 (widthF f)) ∧ w = w' := by
  rcases fcases f with rfl | rfl | rfl | rfl | rfl | rfl | rfl | rfl | rfl | ⟨h1, h2, h3, h4, h5, h6, h7, h8, h9, h⟩
  case inr.inr.inr.inr.inr.inr.inr.inr.inr =>
    rw [widthF_none h]
    clear h
    go_enter Try.func66, Try.ntmps66
    go_wp2
    go_ret
    exact ⟨rfl, rfl⟩
  all_goals
    go_enter Try.func66, Try.ntmps66
    go_wp2
    go_ret
    exact ⟨rfl, rfl⟩

def rightA (k f v : Int) : Bool :=
  if k = 1 ∨ k = 2 then decide (f = 0) && (decide (1 ≤ v) && decide (v ≤ 4294967295))
  else if k = 3 ∨ k = 4 then decide (f = 0) && decide (v = 0)
  else if k = 5 then (if f = 3 then decide (4096 ≤ v) && decide (v ≤ 8191) else if f = 5 ∨ f = 6 then decide (v ≤ 4294967295) else if f = 8 ∨ f = 9 then decide (v ≤ 65535) else false)
  else false

theorem rbool {a b : Bool} (h : a = b) : Ending.returned (.bool a) = .returned (.bool b) := by rw [h]
set_option maxRecDepth 100000 in
set_option maxHeartbeats 8000000 in
theorem right_any (w : World) (k f v : Int) (h0 : 0 ≤ v) (h1 : v ≤ 18446744073709551615) : Calls Try.prog 54 #[.agg #[.int .i64 k, .int .i64 f, .int .u64 v]] w fun x w' => x = .returned (.bool (rightA k f v)) ∧ Below w.heap.size w w' := by
  have HR : Hid (rightA k f v = _) := Lib.hid (by unfold rightA; rfl)
  generalize rightA k f v = R at *
  by_cases k12 : k = 1 ∨ k = 2
  · rw [if_pos k12] at HR
    rcases k12 with rfl | rfl
    · go_enter Try.func54, Try.ntmps54
      go_upto_region 1 with fail
      refine one_box_wp ?_
      intro W hb1 hbel hsz
      have K : Hid (KR w.heap.size w [(w.heap.size, 58, #[.int .i64 1, .int .i64 f, .int .u64 v])] W) := Lib.hid ((KR.start hbel hbel.size).add hb1)
      clear hb1 hbel hsz
      have c0 := (K.out.at 0 rfl).cell 0 _ rfl
      have c1 := (K.out.at 0 rfl).cell 1 _ rfl
      have c2 := (K.out.at 0 rfl).cell 2 _ rfl
      go_wp2_with fail
      all_goals
        go_ret
        have q := HR.out
        exact ⟨rbool (by rw [q]; first | rfl | (rw [Bool.eq_iff_iff]; simp; omega) | (simp_all) | (simp_all; omega)), K.out.below⟩
    · go_enter Try.func54, Try.ntmps54
      go_upto_region 1 with fail
      refine one_box_wp ?_
      intro W hb1 hbel hsz
      have K : Hid (KR w.heap.size w [(w.heap.size, 58, #[.int .i64 2, .int .i64 f, .int .u64 v])] W) := Lib.hid ((KR.start hbel hbel.size).add hb1)
      clear hb1 hbel hsz
      have c0 := (K.out.at 0 rfl).cell 0 _ rfl
      have c1 := (K.out.at 0 rfl).cell 1 _ rfl
      have c2 := (K.out.at 0 rfl).cell 2 _ rfl
      go_wp2_with fail
      all_goals
        go_ret
        have q := HR.out
        exact ⟨rbool (by rw [q]; first | rfl | (rw [Bool.eq_iff_iff]; simp; omega) | (simp_all) | (simp_all; omega)), K.out.below⟩
  rw [if_neg k12] at HR
  by_cases k34 : k = 3 ∨ k = 4
  · rw [if_pos k34] at HR
    rcases k34 with rfl | rfl
    · go_enter Try.func54, Try.ntmps54
      go_upto_region 1 with fail
      refine one_box_wp ?_
      intro W hb1 hbel hsz
      have K : Hid (KR w.heap.size w [(w.heap.size, 58, #[.int .i64 3, .int .i64 f, .int .u64 v])] W) := Lib.hid ((KR.start hbel hbel.size).add hb1)
      clear hb1 hbel hsz
      have c0 := (K.out.at 0 rfl).cell 0 _ rfl
      have c1 := (K.out.at 0 rfl).cell 1 _ rfl
      have c2 := (K.out.at 0 rfl).cell 2 _ rfl
      go_wp2_with fail
      all_goals
        go_ret
        have q := HR.out
        exact ⟨rbool (by rw [q]; first | rfl | (rw [Bool.eq_iff_iff]; simp; omega) | (simp_all) | (simp_all; omega)), K.out.below⟩
    · go_enter Try.func54, Try.ntmps54
      go_upto_region 1 with fail
      refine one_box_wp ?_
      intro W hb1 hbel hsz
      have K : Hid (KR w.heap.size w [(w.heap.size, 58, #[.int .i64 4, .int .i64 f, .int .u64 v])] W) := Lib.hid ((KR.start hbel hbel.size).add hb1)
      clear hb1 hbel hsz
      have c0 := (K.out.at 0 rfl).cell 0 _ rfl
      have c1 := (K.out.at 0 rfl).cell 1 _ rfl
      have c2 := (K.out.at 0 rfl).cell 2 _ rfl
      go_wp2_with fail
      all_goals
        go_ret
        have q := HR.out
        exact ⟨rbool (by rw [q]; first | rfl | (rw [Bool.eq_iff_iff]; simp; omega) | (simp_all) | (simp_all; omega)), K.out.below⟩
  rw [if_neg k34] at HR
  simp only [not_or] at k12 k34
  have t1 : (k == 1) = false := by simpa using k12.1
  have t2 : (k == 2) = false := by simpa using k12.2
  have t3 : (k == 3) = false := by simpa using k34.1
  have t4 : (k == 4) = false := by simpa using k34.2
  by_cases k5 : k = 5
  · rw [if_pos k5] at HR
    subst k5
    clear t1 t2 t3 t4 k12 k34
    by_cases hf : f = 3 ∨ f = 5 ∨ f = 6 ∨ f = 8 ∨ f = 9
    · rcases hf with rfl | rfl | rfl | rfl | rfl
      · have HW : Hid (∀ W : World, Calls Try.prog 66 #[.int .i64 3] W fun x w' => x = .returned (.int .i64 13) ∧ Below W.heap.size W w') := Lib.hid (fun W => (Width_any W 3).mono fun _ _ ⟨a, b⟩ => ⟨a, b ▸ Below.refl _ _⟩)
        have HC : Hid (∀ W : World, Calls Try.prog 65 #[.int .i64 3] W fun x w' => x = .returned (.tuple #[.int .u64 6, .int .i64 2]) ∧ W = w') := Lib.hid (fun W => code_any W 3)
        go_enter Try.func54, Try.ntmps54
        go_upto_region 1 with fail
        refine one_box_wp ?_
        intro W hb1 hbel hsz
        have K : Hid (KR w.heap.size w [(w.heap.size, 58, #[.int .i64 5, .int .i64 3, .int .u64 v])] W) := Lib.hid ((KR.start hbel hbel.size).add hb1)
        clear hb1 hbel hsz
        have c0 := (K.out.at 0 rfl).cell 0 _ rfl
        have c1 := (K.out.at 0 rfl).cell 1 _ rfl
        have c2 := (K.out.at 0 rfl).cell 2 _ rfl
        go_wp2_with fail
        refine (HC.out _).mono ?_
        rintro x w' ⟨rfl, rfl⟩
        by_cases hv : v ≤ 8191
        · have tv : (v / 8192 == 0) = true := by simp; omega
          clear c0 c1 c2
          haveI : Nonempty (Keep (KR w.heap.size w [(w.heap.size, 58, #[.int .i64 5, .int .i64 3, .int .u64 v])])) := ⟨⟨_, K.out⟩⟩
          have kc0 := fun q : Keep (KR w.heap.size w [(w.heap.size, 58, #[.int .i64 5, .int .i64 3, .int .u64 v])]) => (KR.at q.h 0 rfl).cell 1 _ rfl
          have kc1 := fun q : Keep (KR w.heap.size w [(w.heap.size, 58, #[.int .i64 5, .int .i64 3, .int .u64 v])]) => (KR.at q.h 0 rfl).cell 2 _ rfl
          go_upto_region 10 with fail
          refine wp_region_keep2 (Cl := KR w.heap.size w [(w.heap.size, 58, #[.int .i64 5, .int .i64 3, .int .u64 v])]) (by kernel_rfl) (by kernel_rfl) K.out.drew ?_
          intro y' hy'
          have g2_ := fun tmps => hy' tmps 2 45 rfl
          have g11_ := fun tmps => hy' tmps 11 54 rfl
          have g15_ := fun tmps => hy' tmps 15 58 rfl
          have gb_ := yl_bool
          clear hy' K
          repeat
            first
              | (refine wpQ2_step (fun K hK => ?_)
                 go_simp
                 first
                   | (refine hK _ ?_; clear hK K)
                   | (apply Exists.intro
                      refine ⟨fun _ => ?_, hK _ ?_⟩
                      (rw [if_neg (by omega)]; exact ⟨rfl, rfl⟩)
                      clear hK K)
                   | (apply Exists.intro
                      refine ⟨fun _ => ?_, hK _ ?_⟩
                      ((with_reducible refine Calls.keep (HW.out _) ?_); exact (fun w' hb => KR.call (Keep.h _) hb))
                      clear hK K))
          refine wpQ2_nil ?_
          clear kc0 kc1
          intro Wk Kk
          have K := Lib.hid Kk
          clear Kk
          clear gb_ g2_ g11_ g15_
          go_wp2_with fail
          go_ret
          exact ⟨rbool (by rw [HR.out]; simp; omega), K.out.below⟩
        · have tv : (v / 8192 == 0) = false := by simp; omega
          clear c0 c1 c2
          haveI : Nonempty (Keep (KR w.heap.size w [(w.heap.size, 58, #[.int .i64 5, .int .i64 3, .int .u64 v])])) := ⟨⟨_, K.out⟩⟩
          have kc0 := fun q : Keep (KR w.heap.size w [(w.heap.size, 58, #[.int .i64 5, .int .i64 3, .int .u64 v])]) => (KR.at q.h 0 rfl).cell 1 _ rfl
          have kc1 := fun q : Keep (KR w.heap.size w [(w.heap.size, 58, #[.int .i64 5, .int .i64 3, .int .u64 v])]) => (KR.at q.h 0 rfl).cell 2 _ rfl
          go_upto_region 10 with fail
          refine wp_region_keep2 (Cl := KR w.heap.size w [(w.heap.size, 58, #[.int .i64 5, .int .i64 3, .int .u64 v])]) (by kernel_rfl) (by kernel_rfl) K.out.drew ?_
          intro y' hy'
          have g2_ := fun tmps => hy' tmps 2 45 rfl
          have g11_ := fun tmps => hy' tmps 11 54 rfl
          have g15_ := fun tmps => hy' tmps 15 58 rfl
          have gb_ := yl_bool
          clear hy' K
          repeat
            first
              | (refine wpQ2_step (fun K hK => ?_)
                 go_simp
                 first
                   | (refine hK _ ?_; clear hK K)
                   | (apply Exists.intro
                      refine ⟨fun _ => ?_, hK _ ?_⟩
                      (rw [if_neg (by omega)]; exact ⟨rfl, rfl⟩)
                      clear hK K)
                   | (apply Exists.intro
                      refine ⟨fun _ => ?_, hK _ ?_⟩
                      ((with_reducible refine Calls.keep (HW.out _) ?_); exact (fun w' hb => KR.call (Keep.h _) hb))
                      clear hK K))
          refine wpQ2_nil ?_
          clear kc0 kc1
          intro Wk Kk
          have K := Lib.hid Kk
          clear Kk
          clear gb_ g2_ g11_ g15_
          go_wp2_with fail
          go_ret
          exact ⟨rbool (by rw [HR.out]; simp; omega), K.out.below⟩
      · have HW : Hid (∀ W : World, Calls Try.prog 66 #[.int .i64 5] W fun x w' => x = .returned (.int .i64 32) ∧ Below W.heap.size W w') := Lib.hid (fun W => (Width_any W 5).mono fun _ _ ⟨a, b⟩ => ⟨a, b ▸ Below.refl _ _⟩)
        have HC : Hid (∀ W : World, Calls Try.prog 65 #[.int .i64 5] W fun x w' => x = .returned (.tuple #[.int .u64 11, .int .i64 4]) ∧ W = w') := Lib.hid (fun W => code_any W 5)
        go_enter Try.func54, Try.ntmps54
        go_upto_region 1 with fail
        refine one_box_wp ?_
        intro W hb1 hbel hsz
        have K : Hid (KR w.heap.size w [(w.heap.size, 58, #[.int .i64 5, .int .i64 5, .int .u64 v])] W) := Lib.hid ((KR.start hbel hbel.size).add hb1)
        clear hb1 hbel hsz
        have c0 := (K.out.at 0 rfl).cell 0 _ rfl
        have c1 := (K.out.at 0 rfl).cell 1 _ rfl
        have c2 := (K.out.at 0 rfl).cell 2 _ rfl
        go_wp2_with fail
        refine (HC.out _).mono ?_
        rintro x w' ⟨rfl, rfl⟩
        by_cases hv : v ≤ 4294967295
        · have tv : (v / 4294967296 == 0) = true := by simp; omega
          clear c0 c1 c2
          haveI : Nonempty (Keep (KR w.heap.size w [(w.heap.size, 58, #[.int .i64 5, .int .i64 5, .int .u64 v])])) := ⟨⟨_, K.out⟩⟩
          have kc0 := fun q : Keep (KR w.heap.size w [(w.heap.size, 58, #[.int .i64 5, .int .i64 5, .int .u64 v])]) => (KR.at q.h 0 rfl).cell 1 _ rfl
          have kc1 := fun q : Keep (KR w.heap.size w [(w.heap.size, 58, #[.int .i64 5, .int .i64 5, .int .u64 v])]) => (KR.at q.h 0 rfl).cell 2 _ rfl
          go_upto_region 10 with fail
          refine wp_region_keep2 (Cl := KR w.heap.size w [(w.heap.size, 58, #[.int .i64 5, .int .i64 5, .int .u64 v])]) (by kernel_rfl) (by kernel_rfl) K.out.drew ?_
          intro y' hy'
          have g2_ := fun tmps => hy' tmps 2 45 rfl
          have g11_ := fun tmps => hy' tmps 11 54 rfl
          have g15_ := fun tmps => hy' tmps 15 58 rfl
          have gb_ := yl_bool
          clear hy' K
          repeat
            first
              | (refine wpQ2_step (fun K hK => ?_)
                 go_simp
                 first
                   | (refine hK _ ?_; clear hK K)
                   | (apply Exists.intro
                      refine ⟨fun _ => ?_, hK _ ?_⟩
                      (rw [if_neg (by omega)]; exact ⟨rfl, rfl⟩)
                      clear hK K)
                   | (apply Exists.intro
                      refine ⟨fun _ => ?_, hK _ ?_⟩
                      ((with_reducible refine Calls.keep (HW.out _) ?_); exact (fun w' hb => KR.call (Keep.h _) hb))
                      clear hK K))
          refine wpQ2_nil ?_
          clear kc0 kc1
          intro Wk Kk
          have K := Lib.hid Kk
          clear Kk
          clear gb_ g2_ g11_ g15_
          go_wp2_with fail
          go_ret
          exact ⟨rbool (by rw [HR.out]; simp; omega), K.out.below⟩
        · have tv : (v / 4294967296 == 0) = false := by simp; omega
          clear c0 c1 c2
          haveI : Nonempty (Keep (KR w.heap.size w [(w.heap.size, 58, #[.int .i64 5, .int .i64 5, .int .u64 v])])) := ⟨⟨_, K.out⟩⟩
          have kc0 := fun q : Keep (KR w.heap.size w [(w.heap.size, 58, #[.int .i64 5, .int .i64 5, .int .u64 v])]) => (KR.at q.h 0 rfl).cell 1 _ rfl
          have kc1 := fun q : Keep (KR w.heap.size w [(w.heap.size, 58, #[.int .i64 5, .int .i64 5, .int .u64 v])]) => (KR.at q.h 0 rfl).cell 2 _ rfl
          go_upto_region 10 with fail
          refine wp_region_keep2 (Cl := KR w.heap.size w [(w.heap.size, 58, #[.int .i64 5, .int .i64 5, .int .u64 v])]) (by kernel_rfl) (by kernel_rfl) K.out.drew ?_
          intro y' hy'
          have g2_ := fun tmps => hy' tmps 2 45 rfl
          have g11_ := fun tmps => hy' tmps 11 54 rfl
          have g15_ := fun tmps => hy' tmps 15 58 rfl
          have gb_ := yl_bool
          clear hy' K
          repeat
            first
              | (refine wpQ2_step (fun K hK => ?_)
                 go_simp
                 first
                   | (refine hK _ ?_; clear hK K)
                   | (apply Exists.intro
                      refine ⟨fun _ => ?_, hK _ ?_⟩
                      (rw [if_neg (by omega)]; exact ⟨rfl, rfl⟩)
                      clear hK K)
                   | (apply Exists.intro
                      refine ⟨fun _ => ?_, hK _ ?_⟩
                      ((with_reducible refine Calls.keep (HW.out _) ?_); exact (fun w' hb => KR.call (Keep.h _) hb))
                      clear hK K))
          refine wpQ2_nil ?_
          clear kc0 kc1
          intro Wk Kk
          have K := Lib.hid Kk
          clear Kk
          clear gb_ g2_ g11_ g15_
          go_wp2_with fail
          go_ret
          exact ⟨rbool (by rw [HR.out]; simp; omega), K.out.below⟩
      · have HW : Hid (∀ W : World, Calls Try.prog 66 #[.int .i64 6] W fun x w' => x = .returned (.int .i64 32) ∧ Below W.heap.size W w') := Lib.hid (fun W => (Width_any W 6).mono fun _ _ ⟨a, b⟩ => ⟨a, b ▸ Below.refl _ _⟩)
        have HC : Hid (∀ W : World, Calls Try.prog 65 #[.int .i64 6] W fun x w' => x = .returned (.tuple #[.int .u64 12, .int .i64 4]) ∧ W = w') := Lib.hid (fun W => code_any W 6)
        go_enter Try.func54, Try.ntmps54
        go_upto_region 1 with fail
        refine one_box_wp ?_
        intro W hb1 hbel hsz
        have K : Hid (KR w.heap.size w [(w.heap.size, 58, #[.int .i64 5, .int .i64 6, .int .u64 v])] W) := Lib.hid ((KR.start hbel hbel.size).add hb1)
        clear hb1 hbel hsz
        have c0 := (K.out.at 0 rfl).cell 0 _ rfl
        have c1 := (K.out.at 0 rfl).cell 1 _ rfl
        have c2 := (K.out.at 0 rfl).cell 2 _ rfl
        go_wp2_with fail
        refine (HC.out _).mono ?_
        rintro x w' ⟨rfl, rfl⟩
        by_cases hv : v ≤ 4294967295
        · have tv : (v / 4294967296 == 0) = true := by simp; omega
          clear c0 c1 c2
          haveI : Nonempty (Keep (KR w.heap.size w [(w.heap.size, 58, #[.int .i64 5, .int .i64 6, .int .u64 v])])) := ⟨⟨_, K.out⟩⟩
          have kc0 := fun q : Keep (KR w.heap.size w [(w.heap.size, 58, #[.int .i64 5, .int .i64 6, .int .u64 v])]) => (KR.at q.h 0 rfl).cell 1 _ rfl
          have kc1 := fun q : Keep (KR w.heap.size w [(w.heap.size, 58, #[.int .i64 5, .int .i64 6, .int .u64 v])]) => (KR.at q.h 0 rfl).cell 2 _ rfl
          go_upto_region 10 with fail
          refine wp_region_keep2 (Cl := KR w.heap.size w [(w.heap.size, 58, #[.int .i64 5, .int .i64 6, .int .u64 v])]) (by kernel_rfl) (by kernel_rfl) K.out.drew ?_
          intro y' hy'
          have g2_ := fun tmps => hy' tmps 2 45 rfl
          have g11_ := fun tmps => hy' tmps 11 54 rfl
          have g15_ := fun tmps => hy' tmps 15 58 rfl
          have gb_ := yl_bool
          clear hy' K
          repeat
            first
              | (refine wpQ2_step (fun K hK => ?_)
                 go_simp
                 first
                   | (refine hK _ ?_; clear hK K)
                   | (apply Exists.intro
                      refine ⟨fun _ => ?_, hK _ ?_⟩
                      (rw [if_neg (by omega)]; exact ⟨rfl, rfl⟩)
                      clear hK K)
                   | (apply Exists.intro
                      refine ⟨fun _ => ?_, hK _ ?_⟩
                      ((with_reducible refine Calls.keep (HW.out _) ?_); exact (fun w' hb => KR.call (Keep.h _) hb))
                      clear hK K))
          refine wpQ2_nil ?_
          clear kc0 kc1
          intro Wk Kk
          have K := Lib.hid Kk
          clear Kk
          clear gb_ g2_ g11_ g15_
          go_wp2_with fail
          go_ret
          exact ⟨rbool (by rw [HR.out]; simp; omega), K.out.below⟩
        · have tv : (v / 4294967296 == 0) = false := by simp; omega
          clear c0 c1 c2
          haveI : Nonempty (Keep (KR w.heap.size w [(w.heap.size, 58, #[.int .i64 5, .int .i64 6, .int .u64 v])])) := ⟨⟨_, K.out⟩⟩
          have kc0 := fun q : Keep (KR w.heap.size w [(w.heap.size, 58, #[.int .i64 5, .int .i64 6, .int .u64 v])]) => (KR.at q.h 0 rfl).cell 1 _ rfl
          have kc1 := fun q : Keep (KR w.heap.size w [(w.heap.size, 58, #[.int .i64 5, .int .i64 6, .int .u64 v])]) => (KR.at q.h 0 rfl).cell 2 _ rfl
          go_upto_region 10 with fail
          refine wp_region_keep2 (Cl := KR w.heap.size w [(w.heap.size, 58, #[.int .i64 5, .int .i64 6, .int .u64 v])]) (by kernel_rfl) (by kernel_rfl) K.out.drew ?_
          intro y' hy'
          have g2_ := fun tmps => hy' tmps 2 45 rfl
          have g11_ := fun tmps => hy' tmps 11 54 rfl
          have g15_ := fun tmps => hy' tmps 15 58 rfl
          have gb_ := yl_bool
          clear hy' K
          repeat
            first
              | (refine wpQ2_step (fun K hK => ?_)
                 go_simp
                 first
                   | (refine hK _ ?_; clear hK K)
                   | (apply Exists.intro
                      refine ⟨fun _ => ?_, hK _ ?_⟩
                      (rw [if_neg (by omega)]; exact ⟨rfl, rfl⟩)
                      clear hK K)
                   | (apply Exists.intro
                      refine ⟨fun _ => ?_, hK _ ?_⟩
                      ((with_reducible refine Calls.keep (HW.out _) ?_); exact (fun w' hb => KR.call (Keep.h _) hb))
                      clear hK K))
          refine wpQ2_nil ?_
          clear kc0 kc1
          intro Wk Kk
          have K := Lib.hid Kk
          clear Kk
          clear gb_ g2_ g11_ g15_
          go_wp2_with fail
          go_ret
          exact ⟨rbool (by rw [HR.out]; simp; omega), K.out.below⟩
      · have HW : Hid (∀ W : World, Calls Try.prog 66 #[.int .i64 8] W fun x w' => x = .returned (.int .i64 16) ∧ Below W.heap.size W w') := Lib.hid (fun W => (Width_any W 8).mono fun _ _ ⟨a, b⟩ => ⟨a, b ▸ Below.refl _ _⟩)
        have HC : Hid (∀ W : World, Calls Try.prog 65 #[.int .i64 8] W fun x w' => x = .returned (.tuple #[.int .u64 13, .int .i64 2]) ∧ W = w') := Lib.hid (fun W => code_any W 8)
        go_enter Try.func54, Try.ntmps54
        go_upto_region 1 with fail
        refine one_box_wp ?_
        intro W hb1 hbel hsz
        have K : Hid (KR w.heap.size w [(w.heap.size, 58, #[.int .i64 5, .int .i64 8, .int .u64 v])] W) := Lib.hid ((KR.start hbel hbel.size).add hb1)
        clear hb1 hbel hsz
        have c0 := (K.out.at 0 rfl).cell 0 _ rfl
        have c1 := (K.out.at 0 rfl).cell 1 _ rfl
        have c2 := (K.out.at 0 rfl).cell 2 _ rfl
        go_wp2_with fail
        refine (HC.out _).mono ?_
        rintro x w' ⟨rfl, rfl⟩
        by_cases hv : v ≤ 65535
        · have tv : (v / 65536 == 0) = true := by simp; omega
          clear c0 c1 c2
          haveI : Nonempty (Keep (KR w.heap.size w [(w.heap.size, 58, #[.int .i64 5, .int .i64 8, .int .u64 v])])) := ⟨⟨_, K.out⟩⟩
          have kc0 := fun q : Keep (KR w.heap.size w [(w.heap.size, 58, #[.int .i64 5, .int .i64 8, .int .u64 v])]) => (KR.at q.h 0 rfl).cell 1 _ rfl
          have kc1 := fun q : Keep (KR w.heap.size w [(w.heap.size, 58, #[.int .i64 5, .int .i64 8, .int .u64 v])]) => (KR.at q.h 0 rfl).cell 2 _ rfl
          go_upto_region 10 with fail
          refine wp_region_keep2 (Cl := KR w.heap.size w [(w.heap.size, 58, #[.int .i64 5, .int .i64 8, .int .u64 v])]) (by kernel_rfl) (by kernel_rfl) K.out.drew ?_
          intro y' hy'
          have g2_ := fun tmps => hy' tmps 2 45 rfl
          have g11_ := fun tmps => hy' tmps 11 54 rfl
          have g15_ := fun tmps => hy' tmps 15 58 rfl
          have gb_ := yl_bool
          clear hy' K
          repeat
            first
              | (refine wpQ2_step (fun K hK => ?_)
                 go_simp
                 first
                   | (refine hK _ ?_; clear hK K)
                   | (apply Exists.intro
                      refine ⟨fun _ => ?_, hK _ ?_⟩
                      (rw [if_neg (by omega)]; exact ⟨rfl, rfl⟩)
                      clear hK K)
                   | (apply Exists.intro
                      refine ⟨fun _ => ?_, hK _ ?_⟩
                      ((with_reducible refine Calls.keep (HW.out _) ?_); exact (fun w' hb => KR.call (Keep.h _) hb))
                      clear hK K))
          refine wpQ2_nil ?_
          clear kc0 kc1
          intro Wk Kk
          have K := Lib.hid Kk
          clear Kk
          clear gb_ g2_ g11_ g15_
          go_wp2_with fail
          go_ret
          exact ⟨rbool (by rw [HR.out]; simp; omega), K.out.below⟩
        · have tv : (v / 65536 == 0) = false := by simp; omega
          clear c0 c1 c2
          haveI : Nonempty (Keep (KR w.heap.size w [(w.heap.size, 58, #[.int .i64 5, .int .i64 8, .int .u64 v])])) := ⟨⟨_, K.out⟩⟩
          have kc0 := fun q : Keep (KR w.heap.size w [(w.heap.size, 58, #[.int .i64 5, .int .i64 8, .int .u64 v])]) => (KR.at q.h 0 rfl).cell 1 _ rfl
          have kc1 := fun q : Keep (KR w.heap.size w [(w.heap.size, 58, #[.int .i64 5, .int .i64 8, .int .u64 v])]) => (KR.at q.h 0 rfl).cell 2 _ rfl
          go_upto_region 10 with fail
          refine wp_region_keep2 (Cl := KR w.heap.size w [(w.heap.size, 58, #[.int .i64 5, .int .i64 8, .int .u64 v])]) (by kernel_rfl) (by kernel_rfl) K.out.drew ?_
          intro y' hy'
          have g2_ := fun tmps => hy' tmps 2 45 rfl
          have g11_ := fun tmps => hy' tmps 11 54 rfl
          have g15_ := fun tmps => hy' tmps 15 58 rfl
          have gb_ := yl_bool
          clear hy' K
          repeat
            first
              | (refine wpQ2_step (fun K hK => ?_)
                 go_simp
                 first
                   | (refine hK _ ?_; clear hK K)
                   | (apply Exists.intro
                      refine ⟨fun _ => ?_, hK _ ?_⟩
                      (rw [if_neg (by omega)]; exact ⟨rfl, rfl⟩)
                      clear hK K)
                   | (apply Exists.intro
                      refine ⟨fun _ => ?_, hK _ ?_⟩
                      ((with_reducible refine Calls.keep (HW.out _) ?_); exact (fun w' hb => KR.call (Keep.h _) hb))
                      clear hK K))
          refine wpQ2_nil ?_
          clear kc0 kc1
          intro Wk Kk
          have K := Lib.hid Kk
          clear Kk
          clear gb_ g2_ g11_ g15_
          go_wp2_with fail
          go_ret
          exact ⟨rbool (by rw [HR.out]; simp; omega), K.out.below⟩
      · have HW : Hid (∀ W : World, Calls Try.prog 66 #[.int .i64 9] W fun x w' => x = .returned (.int .i64 16) ∧ Below W.heap.size W w') := Lib.hid (fun W => (Width_any W 9).mono fun _ _ ⟨a, b⟩ => ⟨a, b ▸ Below.refl _ _⟩)
        have HC : Hid (∀ W : World, Calls Try.prog 65 #[.int .i64 9] W fun x w' => x = .returned (.tuple #[.int .u64 14, .int .i64 2]) ∧ W = w') := Lib.hid (fun W => code_any W 9)
        go_enter Try.func54, Try.ntmps54
        go_upto_region 1 with fail
        refine one_box_wp ?_
        intro W hb1 hbel hsz
        have K : Hid (KR w.heap.size w [(w.heap.size, 58, #[.int .i64 5, .int .i64 9, .int .u64 v])] W) := Lib.hid ((KR.start hbel hbel.size).add hb1)
        clear hb1 hbel hsz
        have c0 := (K.out.at 0 rfl).cell 0 _ rfl
        have c1 := (K.out.at 0 rfl).cell 1 _ rfl
        have c2 := (K.out.at 0 rfl).cell 2 _ rfl
        go_wp2_with fail
        refine (HC.out _).mono ?_
        rintro x w' ⟨rfl, rfl⟩
        by_cases hv : v ≤ 65535
        · have tv : (v / 65536 == 0) = true := by simp; omega
          clear c0 c1 c2
          haveI : Nonempty (Keep (KR w.heap.size w [(w.heap.size, 58, #[.int .i64 5, .int .i64 9, .int .u64 v])])) := ⟨⟨_, K.out⟩⟩
          have kc0 := fun q : Keep (KR w.heap.size w [(w.heap.size, 58, #[.int .i64 5, .int .i64 9, .int .u64 v])]) => (KR.at q.h 0 rfl).cell 1 _ rfl
          have kc1 := fun q : Keep (KR w.heap.size w [(w.heap.size, 58, #[.int .i64 5, .int .i64 9, .int .u64 v])]) => (KR.at q.h 0 rfl).cell 2 _ rfl
          go_upto_region 10 with fail
          refine wp_region_keep2 (Cl := KR w.heap.size w [(w.heap.size, 58, #[.int .i64 5, .int .i64 9, .int .u64 v])]) (by kernel_rfl) (by kernel_rfl) K.out.drew ?_
          intro y' hy'
          have g2_ := fun tmps => hy' tmps 2 45 rfl
          have g11_ := fun tmps => hy' tmps 11 54 rfl
          have g15_ := fun tmps => hy' tmps 15 58 rfl
          have gb_ := yl_bool
          clear hy' K
          repeat
            first
              | (refine wpQ2_step (fun K hK => ?_)
                 go_simp
                 first
                   | (refine hK _ ?_; clear hK K)
                   | (apply Exists.intro
                      refine ⟨fun _ => ?_, hK _ ?_⟩
                      (rw [if_neg (by omega)]; exact ⟨rfl, rfl⟩)
                      clear hK K)
                   | (apply Exists.intro
                      refine ⟨fun _ => ?_, hK _ ?_⟩
                      ((with_reducible refine Calls.keep (HW.out _) ?_); exact (fun w' hb => KR.call (Keep.h _) hb))
                      clear hK K))
          refine wpQ2_nil ?_
          clear kc0 kc1
          intro Wk Kk
          have K := Lib.hid Kk
          clear Kk
          clear gb_ g2_ g11_ g15_
          go_wp2_with fail
          go_ret
          exact ⟨rbool (by rw [HR.out]; simp; omega), K.out.below⟩
        · have tv : (v / 65536 == 0) = false := by simp; omega
          clear c0 c1 c2
          haveI : Nonempty (Keep (KR w.heap.size w [(w.heap.size, 58, #[.int .i64 5, .int .i64 9, .int .u64 v])])) := ⟨⟨_, K.out⟩⟩
          have kc0 := fun q : Keep (KR w.heap.size w [(w.heap.size, 58, #[.int .i64 5, .int .i64 9, .int .u64 v])]) => (KR.at q.h 0 rfl).cell 1 _ rfl
          have kc1 := fun q : Keep (KR w.heap.size w [(w.heap.size, 58, #[.int .i64 5, .int .i64 9, .int .u64 v])]) => (KR.at q.h 0 rfl).cell 2 _ rfl
          go_upto_region 10 with fail
          refine wp_region_keep2 (Cl := KR w.heap.size w [(w.heap.size, 58, #[.int .i64 5, .int .i64 9, .int .u64 v])]) (by kernel_rfl) (by kernel_rfl) K.out.drew ?_
          intro y' hy'
          have g2_ := fun tmps => hy' tmps 2 45 rfl
          have g11_ := fun tmps => hy' tmps 11 54 rfl
          have g15_ := fun tmps => hy' tmps 15 58 rfl
          have gb_ := yl_bool
          clear hy' K
          repeat
            first
              | (refine wpQ2_step (fun K hK => ?_)
                 go_simp
                 first
                   | (refine hK _ ?_; clear hK K)
                   | (apply Exists.intro
                      refine ⟨fun _ => ?_, hK _ ?_⟩
                      (rw [if_neg (by omega)]; exact ⟨rfl, rfl⟩)
                      clear hK K)
                   | (apply Exists.intro
                      refine ⟨fun _ => ?_, hK _ ?_⟩
                      ((with_reducible refine Calls.keep (HW.out _) ?_); exact (fun w' hb => KR.call (Keep.h _) hb))
                      clear hK K))
          refine wpQ2_nil ?_
          clear kc0 kc1
          intro Wk Kk
          have K := Lib.hid Kk
          clear Kk
          clear gb_ g2_ g11_ g15_
          go_wp2_with fail
          go_ret
          exact ⟨rbool (by rw [HR.out]; simp; omega), K.out.below⟩
    · simp only [not_or] at hf
      obtain ⟨a3, a5, a6, a8, a9⟩ := hf
      have b3 : (f == 3) = false := by simpa using a3
      have b5 : (f == 5) = false := by simpa using a5
      have b6 : (f == 6) = false := by simpa using a6
      have b8 : (f == 8) = false := by simpa using a8
      have b9 : (f == 9) = false := by simpa using a9
      have e : R = false := by rw [HR.out]; simp [a3, a5, a6, a8, a9]
      subst e
      have HC : Hid (∀ W : World, Calls Try.prog 65 #[.int .i64 f] W fun x w' => x = .returned (.tuple #[.int .u64 0, .int .i64 0]) ∧ W = w') := Lib.hid (fun W => (code_any W f).mono fun _ _ ⟨a, b⟩ => ⟨by rw [a]; unfold codeF; simp [a3, a5, a6, a8, a9], b⟩)
      go_enter Try.func54, Try.ntmps54
      go_upto_region 1 with fail
      refine one_box_wp ?_
      intro W hb1 hbel hsz
      have K : Hid (KR w.heap.size w [(w.heap.size, 58, #[.int .i64 5, .int .i64 f, .int .u64 v])] W) := Lib.hid ((KR.start hbel hbel.size).add hb1)
      clear hb1 hbel hsz
      have c0 := (K.out.at 0 rfl).cell 0 _ rfl
      have c1 := (K.out.at 0 rfl).cell 1 _ rfl
      have c2 := (K.out.at 0 rfl).cell 2 _ rfl
      go_wp2_with fail
      refine (HC.out _).mono ?_
      rintro x w' ⟨rfl, rfl⟩
      clear c0 c1 c2
      haveI : Nonempty (Keep (KR w.heap.size w [(w.heap.size, 58, #[.int .i64 5, .int .i64 f, .int .u64 v])])) := ⟨⟨_, K.out⟩⟩
      go_upto_region 10 with fail
      refine wp_region_keep2 (Cl := KR w.heap.size w [(w.heap.size, 58, #[.int .i64 5, .int .i64 f, .int .u64 v])]) (by kernel_rfl) (by kernel_rfl) K.out.drew ?_
      intro y' hy'
      have g2_ := fun tmps => hy' tmps 2 45 rfl
      have g11_ := fun tmps => hy' tmps 11 54 rfl
      have g15_ := fun tmps => hy' tmps 15 58 rfl
      have gb_ := yl_bool
      clear hy' K
      repeat
        first
          | (refine wpQ2_step (fun K hK => ?_)
             go_simp
             first
               | (refine hK _ ?_; clear hK K)
               | (apply Exists.intro
                  refine ⟨fun _ => ?_, hK _ ?_⟩
                  (rw [if_neg (by omega)]; exact ⟨rfl, rfl⟩)
                  clear hK K))
      refine wpQ2_nil ?_
      intro Wk Kk
      have K := Lib.hid Kk
      clear Kk
      clear gb_ g2_ g11_ g15_
      go_wp2_with fail
      go_ret
      exact ⟨rfl, K.out.below⟩
  · rw [if_neg k5] at HR
    have t5 : (k == 5) = false := by simpa using k5
    have e := HR.out
    subst e
    go_enter Try.func54, Try.ntmps54
    go_upto_region 1 with fail
    refine one_box_wp ?_
    intro W hb1 hbel hsz
    have K : Hid (KR w.heap.size w [(w.heap.size, 58, #[.int .i64 k, .int .i64 f, .int .u64 v])] W) := Lib.hid ((KR.start hbel hbel.size).add hb1)
    clear hb1 hbel hsz
    have c0 := (K.out.at 0 rfl).cell 0 _ rfl
    have c1 := (K.out.at 0 rfl).cell 1 _ rfl
    have c2 := (K.out.at 0 rfl).cell 2 _ rfl
    go_wp2_with fail
    go_ret
    exact ⟨rfl, K.out.below⟩
set_option maxRecDepth 100000 in
set_option maxHeartbeats 8000000 in
theorem rright_any (w : World) (k f v : Int) (h0 : 0 ≤ v) (h1 : v ≤ 18446744073709551615) : Calls Try.prog 58 #[.agg #[.int .i64 k, .int .i64 f, .int .u64 v]] w fun x w' => x = .returned (.bool (rightA k f v)) ∧ Below w.heap.size w w' := by
  have HR : Hid (rightA k f v = _) := Lib.hid (by unfold rightA; rfl)
  generalize rightA k f v = R at *
  by_cases k12 : k = 1 ∨ k = 2
  · rw [if_pos k12] at HR
    rcases k12 with rfl | rfl
    · go_enter Try.func58, Try.ntmps58
      go_upto_region 1 with fail
      refine one_box_wp ?_
      intro W hb1 hbel hsz
      have K : Hid (KR w.heap.size w [(w.heap.size, 58, #[.int .i64 1, .int .i64 f, .int .u64 v])] W) := Lib.hid ((KR.start hbel hbel.size).add hb1)
      clear hb1 hbel hsz
      have c0 := (K.out.at 0 rfl).cell 0 _ rfl
      have c1 := (K.out.at 0 rfl).cell 1 _ rfl
      have c2 := (K.out.at 0 rfl).cell 2 _ rfl
      go_wp2_with fail
      all_goals
        go_ret
        have q := HR.out
        exact ⟨rbool (by rw [q]; first | rfl | (rw [Bool.eq_iff_iff]; simp; omega) | (simp_all) | (simp_all; omega)), K.out.below⟩
    · go_enter Try.func58, Try.ntmps58
      go_upto_region 1 with fail
      refine one_box_wp ?_
      intro W hb1 hbel hsz
      have K : Hid (KR w.heap.size w [(w.heap.size, 58, #[.int .i64 2, .int .i64 f, .int .u64 v])] W) := Lib.hid ((KR.start hbel hbel.size).add hb1)
      clear hb1 hbel hsz
      have c0 := (K.out.at 0 rfl).cell 0 _ rfl
      have c1 := (K.out.at 0 rfl).cell 1 _ rfl
      have c2 := (K.out.at 0 rfl).cell 2 _ rfl
      go_wp2_with fail
      all_goals
        go_ret
        have q := HR.out
        exact ⟨rbool (by rw [q]; first | rfl | (rw [Bool.eq_iff_iff]; simp; omega) | (simp_all) | (simp_all; omega)), K.out.below⟩
  rw [if_neg k12] at HR
  by_cases k34 : k = 3 ∨ k = 4
  · rw [if_pos k34] at HR
    rcases k34 with rfl | rfl
    · go_enter Try.func58, Try.ntmps58
      go_upto_region 1 with fail
      refine one_box_wp ?_
      intro W hb1 hbel hsz
      have K : Hid (KR w.heap.size w [(w.heap.size, 58, #[.int .i64 3, .int .i64 f, .int .u64 v])] W) := Lib.hid ((KR.start hbel hbel.size).add hb1)
      clear hb1 hbel hsz
      have c0 := (K.out.at 0 rfl).cell 0 _ rfl
      have c1 := (K.out.at 0 rfl).cell 1 _ rfl
      have c2 := (K.out.at 0 rfl).cell 2 _ rfl
      go_wp2_with fail
      all_goals
        go_ret
        have q := HR.out
        exact ⟨rbool (by rw [q]; first | rfl | (rw [Bool.eq_iff_iff]; simp; omega) | (simp_all) | (simp_all; omega)), K.out.below⟩
    · go_enter Try.func58, Try.ntmps58
      go_upto_region 1 with fail
      refine one_box_wp ?_
      intro W hb1 hbel hsz
      have K : Hid (KR w.heap.size w [(w.heap.size, 58, #[.int .i64 4, .int .i64 f, .int .u64 v])] W) := Lib.hid ((KR.start hbel hbel.size).add hb1)
      clear hb1 hbel hsz
      have c0 := (K.out.at 0 rfl).cell 0 _ rfl
      have c1 := (K.out.at 0 rfl).cell 1 _ rfl
      have c2 := (K.out.at 0 rfl).cell 2 _ rfl
      go_wp2_with fail
      all_goals
        go_ret
        have q := HR.out
        exact ⟨rbool (by rw [q]; first | rfl | (rw [Bool.eq_iff_iff]; simp; omega) | (simp_all) | (simp_all; omega)), K.out.below⟩
  rw [if_neg k34] at HR
  simp only [not_or] at k12 k34
  have t1 : (k == 1) = false := by simpa using k12.1
  have t2 : (k == 2) = false := by simpa using k12.2
  have t3 : (k == 3) = false := by simpa using k34.1
  have t4 : (k == 4) = false := by simpa using k34.2
  by_cases k5 : k = 5
  · rw [if_pos k5] at HR
    subst k5
    clear t1 t2 t3 t4 k12 k34
    by_cases hf : f = 3 ∨ f = 5 ∨ f = 6 ∨ f = 8 ∨ f = 9
    · rcases hf with rfl | rfl | rfl | rfl | rfl
      · simp only [if_true, if_false, show ((3 : Int) = 3) = True by simp, show ((3 : Int) = 5 ∨ (3 : Int) = 6) = False by simp, show ((3 : Int) = 8 ∨ (3 : Int) = 9) = False by simp] at HR
        go_enter Try.func58, Try.ntmps58
        go_upto_region 1 with fail
        refine one_box_wp ?_
        intro W hb1 hbel hsz
        have K : Hid (KR w.heap.size w [(w.heap.size, 58, #[.int .i64 5, .int .i64 3, .int .u64 v])] W) := Lib.hid ((KR.start hbel hbel.size).add hb1)
        clear hb1 hbel hsz
        have c0 := (K.out.at 0 rfl).cell 0 _ rfl
        have c1 := (K.out.at 0 rfl).cell 1 _ rfl
        have c2 := (K.out.at 0 rfl).cell 2 _ rfl
        go_wp2_with fail
        all_goals
          go_ret
          have q := HR.out
          exact ⟨rbool (by rw [q]; first | rfl | (rw [Bool.eq_iff_iff]; simp; omega) | (simp_all) | (simp_all; omega)), K.out.below⟩
      · simp only [if_true, if_false, show ((5 : Int) = 3) = False by simp, show ((5 : Int) = 5 ∨ (5 : Int) = 6) = True by simp, show ((5 : Int) = 8 ∨ (5 : Int) = 9) = False by simp] at HR
        go_enter Try.func58, Try.ntmps58
        go_upto_region 1 with fail
        refine one_box_wp ?_
        intro W hb1 hbel hsz
        have K : Hid (KR w.heap.size w [(w.heap.size, 58, #[.int .i64 5, .int .i64 5, .int .u64 v])] W) := Lib.hid ((KR.start hbel hbel.size).add hb1)
        clear hb1 hbel hsz
        have c0 := (K.out.at 0 rfl).cell 0 _ rfl
        have c1 := (K.out.at 0 rfl).cell 1 _ rfl
        have c2 := (K.out.at 0 rfl).cell 2 _ rfl
        go_wp2_with fail
        all_goals
          go_ret
          have q := HR.out
          exact ⟨rbool (by rw [q]; first | rfl | (rw [Bool.eq_iff_iff]; simp; omega) | (simp_all) | (simp_all; omega)), K.out.below⟩
      · simp only [if_true, if_false, show ((6 : Int) = 3) = False by simp, show ((6 : Int) = 5 ∨ (6 : Int) = 6) = True by simp, show ((6 : Int) = 8 ∨ (6 : Int) = 9) = False by simp] at HR
        go_enter Try.func58, Try.ntmps58
        go_upto_region 1 with fail
        refine one_box_wp ?_
        intro W hb1 hbel hsz
        have K : Hid (KR w.heap.size w [(w.heap.size, 58, #[.int .i64 5, .int .i64 6, .int .u64 v])] W) := Lib.hid ((KR.start hbel hbel.size).add hb1)
        clear hb1 hbel hsz
        have c0 := (K.out.at 0 rfl).cell 0 _ rfl
        have c1 := (K.out.at 0 rfl).cell 1 _ rfl
        have c2 := (K.out.at 0 rfl).cell 2 _ rfl
        go_wp2_with fail
        all_goals
          go_ret
          have q := HR.out
          exact ⟨rbool (by rw [q]; first | rfl | (rw [Bool.eq_iff_iff]; simp; omega) | (simp_all) | (simp_all; omega)), K.out.below⟩
      · simp only [if_true, if_false, show ((8 : Int) = 3) = False by simp, show ((8 : Int) = 5 ∨ (8 : Int) = 6) = False by simp, show ((8 : Int) = 8 ∨ (8 : Int) = 9) = True by simp] at HR
        go_enter Try.func58, Try.ntmps58
        go_upto_region 1 with fail
        refine one_box_wp ?_
        intro W hb1 hbel hsz
        have K : Hid (KR w.heap.size w [(w.heap.size, 58, #[.int .i64 5, .int .i64 8, .int .u64 v])] W) := Lib.hid ((KR.start hbel hbel.size).add hb1)
        clear hb1 hbel hsz
        have c0 := (K.out.at 0 rfl).cell 0 _ rfl
        have c1 := (K.out.at 0 rfl).cell 1 _ rfl
        have c2 := (K.out.at 0 rfl).cell 2 _ rfl
        go_wp2_with fail
        all_goals
          go_ret
          have q := HR.out
          exact ⟨rbool (by rw [q]; first | rfl | (rw [Bool.eq_iff_iff]; simp; omega) | (simp_all) | (simp_all; omega)), K.out.below⟩
      · simp only [if_true, if_false, show ((9 : Int) = 3) = False by simp, show ((9 : Int) = 5 ∨ (9 : Int) = 6) = False by simp, show ((9 : Int) = 8 ∨ (9 : Int) = 9) = True by simp] at HR
        go_enter Try.func58, Try.ntmps58
        go_upto_region 1 with fail
        refine one_box_wp ?_
        intro W hb1 hbel hsz
        have K : Hid (KR w.heap.size w [(w.heap.size, 58, #[.int .i64 5, .int .i64 9, .int .u64 v])] W) := Lib.hid ((KR.start hbel hbel.size).add hb1)
        clear hb1 hbel hsz
        have c0 := (K.out.at 0 rfl).cell 0 _ rfl
        have c1 := (K.out.at 0 rfl).cell 1 _ rfl
        have c2 := (K.out.at 0 rfl).cell 2 _ rfl
        go_wp2_with fail
        all_goals
          go_ret
          have q := HR.out
          exact ⟨rbool (by rw [q]; first | rfl | (rw [Bool.eq_iff_iff]; simp; omega) | (simp_all) | (simp_all; omega)), K.out.below⟩
    · simp only [not_or] at hf
      obtain ⟨a3, a5, a6, a8, a9⟩ := hf
      have b3 : (f == 3) = false := by simpa using a3
      have b5 : (f == 5) = false := by simpa using a5
      have b6 : (f == 6) = false := by simpa using a6
      have b8 : (f == 8) = false := by simpa using a8
      have b9 : (f == 9) = false := by simpa using a9
      have e : R = false := by rw [HR.out]; simp [a3, a5, a6, a8, a9]
      subst e
      go_enter Try.func58, Try.ntmps58
      go_upto_region 1 with fail
      refine one_box_wp ?_
      intro W hb1 hbel hsz
      have K : Hid (KR w.heap.size w [(w.heap.size, 58, #[.int .i64 5, .int .i64 f, .int .u64 v])] W) := Lib.hid ((KR.start hbel hbel.size).add hb1)
      clear hb1 hbel hsz
      have c0 := (K.out.at 0 rfl).cell 0 _ rfl
      have c1 := (K.out.at 0 rfl).cell 1 _ rfl
      have c2 := (K.out.at 0 rfl).cell 2 _ rfl
      go_wp2_with fail
      go_ret
      exact ⟨rfl, K.out.below⟩
  · rw [if_neg k5] at HR
    have t5 : (k == 5) = false := by simpa using k5
    have e := HR.out
    subst e
    go_enter Try.func58, Try.ntmps58
    go_upto_region 1 with fail
    refine one_box_wp ?_
    intro W hb1 hbel hsz
    have K : Hid (KR w.heap.size w [(w.heap.size, 58, #[.int .i64 k, .int .i64 f, .int .u64 v])] W) := Lib.hid ((KR.start hbel hbel.size).add hb1)
    clear hb1 hbel hsz
    have c0 := (K.out.at 0 rfl).cell 0 _ rfl
    have c1 := (K.out.at 0 rfl).cell 1 _ rfl
    have c2 := (K.out.at 0 rfl).cell 2 _ rfl
    go_wp2_with fail
    go_ret
    exact ⟨rfl, K.out.below⟩
end Go.Proofs.Ytfjngecgfmlnfaa
