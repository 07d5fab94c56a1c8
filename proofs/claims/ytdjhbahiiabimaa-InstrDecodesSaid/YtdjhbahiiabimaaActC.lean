/- An action's bytes. -/
import Derived.Test.YtdjhbahiiabimaaActA
import Derived.Test.YtdjhbahiiabimaaActB
import Derived.Test.YtdjhbahiiabimaaActRI
namespace Go.Proofs.Ytdjhbahiiabimaa
open Go.RowKit
set_option linter.unusedVariables false
set_option linter.unusedSimpArgs false
attribute [local go_sem] beL_length

theorem bs_mk (a : Array UInt8) : (⟨a⟩ : ByteArray) = str a.toList := rfl
/-- An action's bytes. -/
def laidA (k f v : Int) : List UInt8 :=
  if k = 1 then [0, 0, 0, 16] ++ (beL 4 v.toNat ++ [255, 255, 0, 0, 0, 0, 0, 0])
  else if k = 2 then [0, 22, 0, 8] ++ beL 4 v.toNat
  else if k = 3 then [0, 17, 0, 8, 129, 0, 0, 0]
  else if k = 4 then [0, 18, 0, 8, 0, 0, 0, 0]
  else [0, 25, 0, 16, 128, 0] ++ (beL 1 (2 * (codeF f).1.toNat) ++ (beL 1 (codeF f).2.toNat ++ (beL (codeF f).2.toNat v.toNat ++ List.replicate (8 - (codeF f).2.toNat) 0)))
theorem rightA_cases {k f v : Int} (h : rightA k f v = true) : (k = 1 ∧ f = 0 ∧ 1 ≤ v ∧ v ≤ 4294967295) ∨ (k = 2 ∧ f = 0 ∧ 1 ≤ v ∧ v ≤ 4294967295) ∨ (k = 3 ∧ f = 0 ∧ v = 0) ∨ (k = 4 ∧ f = 0 ∧ v = 0) ∨
    (k = 5 ∧ ((f = 3 ∧ 4096 ≤ v ∧ v ≤ 8191) ∨ ((f = 5 ∨ f = 6) ∧ v ≤ 4294967295) ∨ ((f = 8 ∨ f = 9) ∧ v ≤ 65535))) := by
  unfold rightA at h
  split at h
  · rename_i hk
    simp only [Bool.and_eq_true, decide_eq_true_eq] at h
    rcases hk with rfl | rfl <;> omega
  · split at h
    · rename_i hk
      simp only [Bool.and_eq_true, decide_eq_true_eq] at h
      rcases hk with rfl | rfl <;> omega
    · split at h
      · rename_i hk
        subst hk
        split at h
        · simp only [Bool.and_eq_true, decide_eq_true_eq] at h; omega
        · split at h
          · simp only [decide_eq_true_eq] at h; omega
          · split at h
            · simp only [decide_eq_true_eq] at h; omega
            · cases h
      · cases h
set_option maxRecDepth 100000 in
set_option maxHeartbeats 8000000 in
theorem laid_any (w : World) (k f v : Int) (h : rightA k f v = true) (h0 : 0 ≤ v) : Calls Try.prog 36 #[.agg #[.int .i64 k, .int .i64 f, .int .u64 v]] w fun x w' => x = .returned (.string (str (laidA k f v))) ∧ Below w.heap.size w w' := by
  have hc := rightA_cases h
  clear h
  rcases hc with ⟨rfl, rfl, h1, h2⟩ | ⟨rfl, rfl, h1, h2⟩ | ⟨rfl, rfl, rfl⟩ | ⟨rfl, rfl, rfl⟩ | ⟨rfl, hf⟩
  · have HP1 := Lib.hid (fun W => put_any W 0 2 (by decide) (by decide) (by decide) (by decide))
    have HP2 := Lib.hid (fun W => put_any W 16 2 (by decide) (by decide) (by decide) (by decide))
    have HP3 := Lib.hid (fun W => put_any W v 4 h0 (by decide) (by decide) (by omega))
    have HP4 := Lib.hid (fun W => put_any W 0 6 (by decide) (by decide) (by decide) (by decide))
    clear h0 h1 h2
    go_enter Try.func36, Try.ntmps36
    go_upto_region 1 with fail
    refine one_box_wp ?_
    intro W hb1 hbel hsz
    have K : Hid (KR w.heap.size w [(w.heap.size, 67, #[.int .i64 1, .int .i64 0, .int .u64 v])] W) := Lib.hid ((KR.start hbel hbel.size).add hb1)
    clear hb1 hbel hsz
    have c0 := (K.out.at 0 rfl).cell 0 _ rfl
    haveI : Nonempty (Keep (KR w.heap.size w [(w.heap.size, 67, #[.int .i64 1, .int .i64 0, .int .u64 v])])) := ⟨⟨_, K.out⟩⟩
    have kc0 := fun q : Keep (KR w.heap.size w [(w.heap.size, 67, #[.int .i64 1, .int .i64 0, .int .u64 v])]) => (KR.at q.h 0 rfl).cell 2 _ rfl
    go_upto_region 3 with fail
    refine wp_region_keep2 (Cl := KR w.heap.size w [(w.heap.size, 67, #[.int .i64 1, .int .i64 0, .int .u64 v])]) (by kernel_rfl) (by kernel_rfl) K.out.drew ?_
    intro y' hy'
    clear hy' K
    repeat
      first
        | (refine wpQ2_step (fun K hK => ?_)
           go_simp
           first
             | (refine hK _ ?_; clear hK K)
             | (apply Exists.intro
                refine ⟨fun _ => ?_, hK _ ?_⟩
                (rw [if_neg (by omega)]; exact ⟨rfl, rfl⟩)
                clear hK K)
             | (apply Exists.intro
                refine ⟨fun _ => ?_, hK _ ?_⟩
                ((with_reducible refine Calls.keep (HP1.out _) ?_); exact (fun w' hb => KR.call (Keep.h _) hb))
                clear hK K)
             | (apply Exists.intro
                refine ⟨fun _ => ?_, hK _ ?_⟩
                ((with_reducible refine Calls.keep (HP2.out _) ?_); exact (fun w' hb => KR.call (Keep.h _) hb))
                clear hK K)
             | (apply Exists.intro
                refine ⟨fun _ => ?_, hK _ ?_⟩
                ((with_reducible refine Calls.keep (HP3.out _) ?_); exact (fun w' hb => KR.call (Keep.h _) hb))
                clear hK K)
             | (apply Exists.intro
                refine ⟨fun _ => ?_, hK _ ?_⟩
                ((with_reducible refine Calls.keep (HP4.out _) ?_); exact (fun w' hb => KR.call (Keep.h _) hb))
                clear hK K))
    refine wpQ2_nil ?_
    clear kc0
    intro Wk Kk
    have K := Lib.hid Kk
    clear Kk
    go_wp2_with fail
    go_ret
    refine ⟨ret_str ?_, K.out.below⟩
    unfold laidA
    try simp only [bs_mk, str_append, List.append_assoc]
    rfl
  · have HP1 := Lib.hid (fun W => put_any W 22 2 (by decide) (by decide) (by decide) (by decide))
    have HP2 := Lib.hid (fun W => put_any W 8 2 (by decide) (by decide) (by decide) (by decide))
    have HP3 := Lib.hid (fun W => put_any W v 4 h0 (by decide) (by decide) (by omega))
    clear h0 h1 h2
    go_enter Try.func36, Try.ntmps36
    go_upto_region 1 with fail
    refine one_box_wp ?_
    intro W hb1 hbel hsz
    have K : Hid (KR w.heap.size w [(w.heap.size, 67, #[.int .i64 2, .int .i64 0, .int .u64 v])] W) := Lib.hid ((KR.start hbel hbel.size).add hb1)
    clear hb1 hbel hsz
    have c0 := (K.out.at 0 rfl).cell 0 _ rfl
    haveI : Nonempty (Keep (KR w.heap.size w [(w.heap.size, 67, #[.int .i64 2, .int .i64 0, .int .u64 v])])) := ⟨⟨_, K.out⟩⟩
    have kc0 := fun q : Keep (KR w.heap.size w [(w.heap.size, 67, #[.int .i64 2, .int .i64 0, .int .u64 v])]) => (KR.at q.h 0 rfl).cell 2 _ rfl
    go_upto_region 5 with fail
    refine wp_region_keep2 (Cl := KR w.heap.size w [(w.heap.size, 67, #[.int .i64 2, .int .i64 0, .int .u64 v])]) (by kernel_rfl) (by kernel_rfl) K.out.drew ?_
    intro y' hy'
    clear hy' K
    repeat
      first
        | (refine wpQ2_step (fun K hK => ?_)
           go_simp
           first
             | (refine hK _ ?_; clear hK K)
             | (apply Exists.intro
                refine ⟨fun _ => ?_, hK _ ?_⟩
                (rw [if_neg (by omega)]; exact ⟨rfl, rfl⟩)
                clear hK K)
             | (apply Exists.intro
                refine ⟨fun _ => ?_, hK _ ?_⟩
                ((with_reducible refine Calls.keep (HP1.out _) ?_); exact (fun w' hb => KR.call (Keep.h _) hb))
                clear hK K)
             | (apply Exists.intro
                refine ⟨fun _ => ?_, hK _ ?_⟩
                ((with_reducible refine Calls.keep (HP2.out _) ?_); exact (fun w' hb => KR.call (Keep.h _) hb))
                clear hK K)
             | (apply Exists.intro
                refine ⟨fun _ => ?_, hK _ ?_⟩
                ((with_reducible refine Calls.keep (HP3.out _) ?_); exact (fun w' hb => KR.call (Keep.h _) hb))
                clear hK K))
    refine wpQ2_nil ?_
    clear kc0
    intro Wk Kk
    have K := Lib.hid Kk
    clear Kk
    go_wp2_with fail
    go_ret
    refine ⟨ret_str ?_, K.out.below⟩
    unfold laidA
    try simp only [bs_mk, str_append, List.append_assoc]
    rfl
  · have HP1 := Lib.hid (fun W => put_any W 17 2 (by decide) (by decide) (by decide) (by decide))
    have HP2 := Lib.hid (fun W => put_any W 8 2 (by decide) (by decide) (by decide) (by decide))
    go_enter Try.func36, Try.ntmps36
    go_upto_region 1 with fail
    refine one_box_wp ?_
    intro W hb1 hbel hsz
    have K : Hid (KR w.heap.size w [(w.heap.size, 67, #[.int .i64 3, .int .i64 0, .int .u64 0])] W) := Lib.hid ((KR.start hbel hbel.size).add hb1)
    clear hb1 hbel hsz
    have c0 := (K.out.at 0 rfl).cell 0 _ rfl
    go_wp2_with fail
    refine (HP1.out _).mono ?_
    rintro e w' ⟨rfl, hb⟩
    replace K := Lib.hid (K.out.call hb)
    clear hb
    go_wp2_with fail
    refine (HP2.out _).mono ?_
    rintro e w' ⟨rfl, hb⟩
    replace K := Lib.hid (K.out.call hb)
    clear hb
    go_wp2_with fail
    go_ret
    refine ⟨ret_str ?_, K.out.below⟩
    unfold laidA
    try simp only [bs_mk, str_append, List.append_assoc]
    rfl
  · have HP1 := Lib.hid (fun W => put_any W 18 2 (by decide) (by decide) (by decide) (by decide))
    have HP2 := Lib.hid (fun W => put_any W 8 2 (by decide) (by decide) (by decide) (by decide))
    have HP3 := Lib.hid (fun W => put_any W 0 4 (by decide) (by decide) (by decide) (by decide))
    go_enter Try.func36, Try.ntmps36
    go_upto_region 1 with fail
    refine one_box_wp ?_
    intro W hb1 hbel hsz
    have K : Hid (KR w.heap.size w [(w.heap.size, 67, #[.int .i64 4, .int .i64 0, .int .u64 0])] W) := Lib.hid ((KR.start hbel hbel.size).add hb1)
    clear hb1 hbel hsz
    have c0 := (K.out.at 0 rfl).cell 0 _ rfl
    go_wp2_with fail
    refine (HP1.out _).mono ?_
    rintro e w' ⟨rfl, hb⟩
    replace K := Lib.hid (K.out.call hb)
    clear hb
    go_wp2_with fail
    refine (HP2.out _).mono ?_
    rintro e w' ⟨rfl, hb⟩
    replace K := Lib.hid (K.out.call hb)
    clear hb
    go_wp2_with fail
    refine (HP3.out _).mono ?_
    rintro e w' ⟨rfl, hb⟩
    replace K := Lib.hid (K.out.call hb)
    clear hb
    go_wp2_with fail
    go_ret
    refine ⟨ret_str ?_, K.out.below⟩
    unfold laidA
    try simp only [bs_mk, str_append, List.append_assoc]
    rfl
  · rcases hf with ⟨rfl, h1, h2⟩ | ⟨rfl | rfl, h2⟩ | ⟨rfl | rfl, h2⟩
    · have HP1 := Lib.hid (fun W => put_any W 25 2 (by decide) (by decide) (by decide) (by decide))
      have HP2 := Lib.hid (fun W => put_any W 16 2 (by decide) (by decide) (by decide) (by decide))
      have HP3 := Lib.hid (fun W => put_any W 12 1 (by decide) (by decide) (by decide) (by decide))
      have HP4 := Lib.hid (fun W => put_any W 2 1 (by decide) (by decide) (by decide) (by decide))
      have HP5 := Lib.hid (fun W => put_any W v 2 h0 (by decide) (by decide) (by omega))
      have HC : Hid (∀ W : World, Calls Try.prog 48 #[.int .i64 3] W fun x w' => x = .returned (.tuple #[.int .u64 6, .int .i64 2]) ∧ W = w') := Lib.hid (fun W => code_any W 3)
      have HR := Lib.hid (fun W => rep_any W 6 (by decide) (by decide))
      clear h0 h2 h1
      go_enter Try.func36, Try.ntmps36
      go_upto_region 1 with fail
      refine one_box_wp ?_
      intro W hb1 hbel hsz
      have K : Hid (KR w.heap.size w [(w.heap.size, 67, #[.int .i64 5, .int .i64 3, .int .u64 v])] W) := Lib.hid ((KR.start hbel hbel.size).add hb1)
      clear hb1 hbel hsz
      have c0 := (K.out.at 0 rfl).cell 0 _ rfl
      have c1 := (K.out.at 0 rfl).cell 1 _ rfl
      go_wp2_with fail
      refine (HC.out _).mono ?_
      rintro e w' ⟨rfl, hw⟩
      subst hw
      clear HC c0 c1
      have q1 : IntKind.u64.wrap 12 = 12 := by decide
      have q2 : IntKind.u64.wrap 2 = 2 := by decide
      have q3 : IntKind.u64.wrap (2 * 6) = 12 := by decide
      haveI : Nonempty (Keep (KR w.heap.size w [(w.heap.size, 67, #[.int .i64 5, .int .i64 3, .int .u64 v])])) := ⟨⟨_, K.out⟩⟩
      have kc0 := fun q : Keep (KR w.heap.size w [(w.heap.size, 67, #[.int .i64 5, .int .i64 3, .int .u64 v])]) => (KR.at q.h 0 rfl).cell 2 _ rfl
      go_upto_region 11 with fail
      refine wp_region_keep2 (Cl := KR w.heap.size w [(w.heap.size, 67, #[.int .i64 5, .int .i64 3, .int .u64 v])]) (by kernel_rfl) (by kernel_rfl) K.out.drew ?_
      intro y' hy'
      clear hy' K
      repeat
        first
          | (refine wpQ2_step (fun K hK => ?_)
             go_simp
             first
               | (refine hK _ ?_; clear hK K)
               | (apply Exists.intro
                  refine ⟨fun _ => ?_, hK _ ?_⟩
                  (rw [if_neg (by omega)]; exact ⟨rfl, rfl⟩)
                  clear hK K)
               | (apply Exists.intro
                  refine ⟨fun _ => ?_, hK _ ?_⟩
                  ((with_reducible refine Calls.keep (HP1.out _) ?_); exact (fun w' hb => KR.call (Keep.h _) hb))
                  clear hK K)
               | (apply Exists.intro
                  refine ⟨fun _ => ?_, hK _ ?_⟩
                  ((with_reducible refine Calls.keep (HP2.out _) ?_); exact (fun w' hb => KR.call (Keep.h _) hb))
                  clear hK K)
               | (apply Exists.intro
                  refine ⟨fun _ => ?_, hK _ ?_⟩
                  ((with_reducible refine Calls.keep (HP3.out _) ?_); exact (fun w' hb => KR.call (Keep.h _) hb))
                  clear hK K)
               | (apply Exists.intro
                  refine ⟨fun _ => ?_, hK _ ?_⟩
                  ((with_reducible refine Calls.keep (HP4.out _) ?_); exact (fun w' hb => KR.call (Keep.h _) hb))
                  clear hK K)
               | (apply Exists.intro
                  refine ⟨fun _ => ?_, hK _ ?_⟩
                  ((with_reducible refine Calls.keep (HP5.out _) ?_); exact (fun w' hb => KR.call (Keep.h _) hb))
                  clear hK K))
      refine wpQ2_nil ?_
      clear kc0
      intro Wk Kk
      have K := Lib.hid Kk
      clear Kk
      clear HP1 HP2 HP3 HP4 HP5
      simp only [bs_mk, str_append, List.append_assoc]
      go_wp2_with fail
      refine (HR.out _).mono ?_
      rintro e w' ⟨rfl, hb⟩
      replace K := Lib.hid (K.out.call hb)
      clear hb HR
      go_wp2_with fail
      go_ret
      refine ⟨ret_str ?_, K.out.below⟩
      unfold laidA
      try simp only [bs_mk, str_append, List.append_assoc]
      rfl
    · have HP1 := Lib.hid (fun W => put_any W 25 2 (by decide) (by decide) (by decide) (by decide))
      have HP2 := Lib.hid (fun W => put_any W 16 2 (by decide) (by decide) (by decide) (by decide))
      have HP3 := Lib.hid (fun W => put_any W 22 1 (by decide) (by decide) (by decide) (by decide))
      have HP4 := Lib.hid (fun W => put_any W 4 1 (by decide) (by decide) (by decide) (by decide))
      have HP5 := Lib.hid (fun W => put_any W v 4 h0 (by decide) (by decide) (by omega))
      have HC : Hid (∀ W : World, Calls Try.prog 48 #[.int .i64 5] W fun x w' => x = .returned (.tuple #[.int .u64 11, .int .i64 4]) ∧ W = w') := Lib.hid (fun W => code_any W 5)
      have HR := Lib.hid (fun W => rep_any W 4 (by decide) (by decide))
      clear h0 h2
      go_enter Try.func36, Try.ntmps36
      go_upto_region 1 with fail
      refine one_box_wp ?_
      intro W hb1 hbel hsz
      have K : Hid (KR w.heap.size w [(w.heap.size, 67, #[.int .i64 5, .int .i64 5, .int .u64 v])] W) := Lib.hid ((KR.start hbel hbel.size).add hb1)
      clear hb1 hbel hsz
      have c0 := (K.out.at 0 rfl).cell 0 _ rfl
      have c1 := (K.out.at 0 rfl).cell 1 _ rfl
      go_wp2_with fail
      refine (HC.out _).mono ?_
      rintro e w' ⟨rfl, hw⟩
      subst hw
      clear HC c0 c1
      have q1 : IntKind.u64.wrap 22 = 22 := by decide
      have q2 : IntKind.u64.wrap 4 = 4 := by decide
      have q3 : IntKind.u64.wrap (2 * 11) = 22 := by decide
      haveI : Nonempty (Keep (KR w.heap.size w [(w.heap.size, 67, #[.int .i64 5, .int .i64 5, .int .u64 v])])) := ⟨⟨_, K.out⟩⟩
      have kc0 := fun q : Keep (KR w.heap.size w [(w.heap.size, 67, #[.int .i64 5, .int .i64 5, .int .u64 v])]) => (KR.at q.h 0 rfl).cell 2 _ rfl
      go_upto_region 11 with fail
      refine wp_region_keep2 (Cl := KR w.heap.size w [(w.heap.size, 67, #[.int .i64 5, .int .i64 5, .int .u64 v])]) (by kernel_rfl) (by kernel_rfl) K.out.drew ?_
      intro y' hy'
      clear hy' K
      repeat
        first
          | (refine wpQ2_step (fun K hK => ?_)
             go_simp
             first
               | (refine hK _ ?_; clear hK K)
               | (apply Exists.intro
                  refine ⟨fun _ => ?_, hK _ ?_⟩
                  (rw [if_neg (by omega)]; exact ⟨rfl, rfl⟩)
                  clear hK K)
               | (apply Exists.intro
                  refine ⟨fun _ => ?_, hK _ ?_⟩
                  ((with_reducible refine Calls.keep (HP1.out _) ?_); exact (fun w' hb => KR.call (Keep.h _) hb))
                  clear hK K)
               | (apply Exists.intro
                  refine ⟨fun _ => ?_, hK _ ?_⟩
                  ((with_reducible refine Calls.keep (HP2.out _) ?_); exact (fun w' hb => KR.call (Keep.h _) hb))
                  clear hK K)
               | (apply Exists.intro
                  refine ⟨fun _ => ?_, hK _ ?_⟩
                  ((with_reducible refine Calls.keep (HP3.out _) ?_); exact (fun w' hb => KR.call (Keep.h _) hb))
                  clear hK K)
               | (apply Exists.intro
                  refine ⟨fun _ => ?_, hK _ ?_⟩
                  ((with_reducible refine Calls.keep (HP4.out _) ?_); exact (fun w' hb => KR.call (Keep.h _) hb))
                  clear hK K)
               | (apply Exists.intro
                  refine ⟨fun _ => ?_, hK _ ?_⟩
                  ((with_reducible refine Calls.keep (HP5.out _) ?_); exact (fun w' hb => KR.call (Keep.h _) hb))
                  clear hK K))
      refine wpQ2_nil ?_
      clear kc0
      intro Wk Kk
      have K := Lib.hid Kk
      clear Kk
      clear HP1 HP2 HP3 HP4 HP5
      simp only [bs_mk, str_append, List.append_assoc]
      go_wp2_with fail
      refine (HR.out _).mono ?_
      rintro e w' ⟨rfl, hb⟩
      replace K := Lib.hid (K.out.call hb)
      clear hb HR
      go_wp2_with fail
      go_ret
      refine ⟨ret_str ?_, K.out.below⟩
      unfold laidA
      try simp only [bs_mk, str_append, List.append_assoc]
      rfl
    · have HP1 := Lib.hid (fun W => put_any W 25 2 (by decide) (by decide) (by decide) (by decide))
      have HP2 := Lib.hid (fun W => put_any W 16 2 (by decide) (by decide) (by decide) (by decide))
      have HP3 := Lib.hid (fun W => put_any W 24 1 (by decide) (by decide) (by decide) (by decide))
      have HP4 := Lib.hid (fun W => put_any W 4 1 (by decide) (by decide) (by decide) (by decide))
      have HP5 := Lib.hid (fun W => put_any W v 4 h0 (by decide) (by decide) (by omega))
      have HC : Hid (∀ W : World, Calls Try.prog 48 #[.int .i64 6] W fun x w' => x = .returned (.tuple #[.int .u64 12, .int .i64 4]) ∧ W = w') := Lib.hid (fun W => code_any W 6)
      have HR := Lib.hid (fun W => rep_any W 4 (by decide) (by decide))
      clear h0 h2
      go_enter Try.func36, Try.ntmps36
      go_upto_region 1 with fail
      refine one_box_wp ?_
      intro W hb1 hbel hsz
      have K : Hid (KR w.heap.size w [(w.heap.size, 67, #[.int .i64 5, .int .i64 6, .int .u64 v])] W) := Lib.hid ((KR.start hbel hbel.size).add hb1)
      clear hb1 hbel hsz
      have c0 := (K.out.at 0 rfl).cell 0 _ rfl
      have c1 := (K.out.at 0 rfl).cell 1 _ rfl
      go_wp2_with fail
      refine (HC.out _).mono ?_
      rintro e w' ⟨rfl, hw⟩
      subst hw
      clear HC c0 c1
      have q1 : IntKind.u64.wrap 24 = 24 := by decide
      have q2 : IntKind.u64.wrap 4 = 4 := by decide
      have q3 : IntKind.u64.wrap (2 * 12) = 24 := by decide
      haveI : Nonempty (Keep (KR w.heap.size w [(w.heap.size, 67, #[.int .i64 5, .int .i64 6, .int .u64 v])])) := ⟨⟨_, K.out⟩⟩
      have kc0 := fun q : Keep (KR w.heap.size w [(w.heap.size, 67, #[.int .i64 5, .int .i64 6, .int .u64 v])]) => (KR.at q.h 0 rfl).cell 2 _ rfl
      go_upto_region 11 with fail
      refine wp_region_keep2 (Cl := KR w.heap.size w [(w.heap.size, 67, #[.int .i64 5, .int .i64 6, .int .u64 v])]) (by kernel_rfl) (by kernel_rfl) K.out.drew ?_
      intro y' hy'
      clear hy' K
      repeat
        first
          | (refine wpQ2_step (fun K hK => ?_)
             go_simp
             first
               | (refine hK _ ?_; clear hK K)
               | (apply Exists.intro
                  refine ⟨fun _ => ?_, hK _ ?_⟩
                  (rw [if_neg (by omega)]; exact ⟨rfl, rfl⟩)
                  clear hK K)
               | (apply Exists.intro
                  refine ⟨fun _ => ?_, hK _ ?_⟩
                  ((with_reducible refine Calls.keep (HP1.out _) ?_); exact (fun w' hb => KR.call (Keep.h _) hb))
                  clear hK K)
               | (apply Exists.intro
                  refine ⟨fun _ => ?_, hK _ ?_⟩
                  ((with_reducible refine Calls.keep (HP2.out _) ?_); exact (fun w' hb => KR.call (Keep.h _) hb))
                  clear hK K)
               | (apply Exists.intro
                  refine ⟨fun _ => ?_, hK _ ?_⟩
                  ((with_reducible refine Calls.keep (HP3.out _) ?_); exact (fun w' hb => KR.call (Keep.h _) hb))
                  clear hK K)
               | (apply Exists.intro
                  refine ⟨fun _ => ?_, hK _ ?_⟩
                  ((with_reducible refine Calls.keep (HP4.out _) ?_); exact (fun w' hb => KR.call (Keep.h _) hb))
                  clear hK K)
               | (apply Exists.intro
                  refine ⟨fun _ => ?_, hK _ ?_⟩
                  ((with_reducible refine Calls.keep (HP5.out _) ?_); exact (fun w' hb => KR.call (Keep.h _) hb))
                  clear hK K))
      refine wpQ2_nil ?_
      clear kc0
      intro Wk Kk
      have K := Lib.hid Kk
      clear Kk
      clear HP1 HP2 HP3 HP4 HP5
      simp only [bs_mk, str_append, List.append_assoc]
      go_wp2_with fail
      refine (HR.out _).mono ?_
      rintro e w' ⟨rfl, hb⟩
      replace K := Lib.hid (K.out.call hb)
      clear hb HR
      go_wp2_with fail
      go_ret
      refine ⟨ret_str ?_, K.out.below⟩
      unfold laidA
      try simp only [bs_mk, str_append, List.append_assoc]
      rfl
    · have HP1 := Lib.hid (fun W => put_any W 25 2 (by decide) (by decide) (by decide) (by decide))
      have HP2 := Lib.hid (fun W => put_any W 16 2 (by decide) (by decide) (by decide) (by decide))
      have HP3 := Lib.hid (fun W => put_any W 26 1 (by decide) (by decide) (by decide) (by decide))
      have HP4 := Lib.hid (fun W => put_any W 2 1 (by decide) (by decide) (by decide) (by decide))
      have HP5 := Lib.hid (fun W => put_any W v 2 h0 (by decide) (by decide) (by omega))
      have HC : Hid (∀ W : World, Calls Try.prog 48 #[.int .i64 8] W fun x w' => x = .returned (.tuple #[.int .u64 13, .int .i64 2]) ∧ W = w') := Lib.hid (fun W => code_any W 8)
      have HR := Lib.hid (fun W => rep_any W 6 (by decide) (by decide))
      clear h0 h2
      go_enter Try.func36, Try.ntmps36
      go_upto_region 1 with fail
      refine one_box_wp ?_
      intro W hb1 hbel hsz
      have K : Hid (KR w.heap.size w [(w.heap.size, 67, #[.int .i64 5, .int .i64 8, .int .u64 v])] W) := Lib.hid ((KR.start hbel hbel.size).add hb1)
      clear hb1 hbel hsz
      have c0 := (K.out.at 0 rfl).cell 0 _ rfl
      have c1 := (K.out.at 0 rfl).cell 1 _ rfl
      go_wp2_with fail
      refine (HC.out _).mono ?_
      rintro e w' ⟨rfl, hw⟩
      subst hw
      clear HC c0 c1
      have q1 : IntKind.u64.wrap 26 = 26 := by decide
      have q2 : IntKind.u64.wrap 2 = 2 := by decide
      have q3 : IntKind.u64.wrap (2 * 13) = 26 := by decide
      haveI : Nonempty (Keep (KR w.heap.size w [(w.heap.size, 67, #[.int .i64 5, .int .i64 8, .int .u64 v])])) := ⟨⟨_, K.out⟩⟩
      have kc0 := fun q : Keep (KR w.heap.size w [(w.heap.size, 67, #[.int .i64 5, .int .i64 8, .int .u64 v])]) => (KR.at q.h 0 rfl).cell 2 _ rfl
      go_upto_region 11 with fail
      refine wp_region_keep2 (Cl := KR w.heap.size w [(w.heap.size, 67, #[.int .i64 5, .int .i64 8, .int .u64 v])]) (by kernel_rfl) (by kernel_rfl) K.out.drew ?_
      intro y' hy'
      clear hy' K
      repeat
        first
          | (refine wpQ2_step (fun K hK => ?_)
             go_simp
             first
               | (refine hK _ ?_; clear hK K)
               | (apply Exists.intro
                  refine ⟨fun _ => ?_, hK _ ?_⟩
                  (rw [if_neg (by omega)]; exact ⟨rfl, rfl⟩)
                  clear hK K)
               | (apply Exists.intro
                  refine ⟨fun _ => ?_, hK _ ?_⟩
                  ((with_reducible refine Calls.keep (HP1.out _) ?_); exact (fun w' hb => KR.call (Keep.h _) hb))
                  clear hK K)
               | (apply Exists.intro
                  refine ⟨fun _ => ?_, hK _ ?_⟩
                  ((with_reducible refine Calls.keep (HP2.out _) ?_); exact (fun w' hb => KR.call (Keep.h _) hb))
                  clear hK K)
               | (apply Exists.intro
                  refine ⟨fun _ => ?_, hK _ ?_⟩
                  ((with_reducible refine Calls.keep (HP3.out _) ?_); exact (fun w' hb => KR.call (Keep.h _) hb))
                  clear hK K)
               | (apply Exists.intro
                  refine ⟨fun _ => ?_, hK _ ?_⟩
                  ((with_reducible refine Calls.keep (HP4.out _) ?_); exact (fun w' hb => KR.call (Keep.h _) hb))
                  clear hK K)
               | (apply Exists.intro
                  refine ⟨fun _ => ?_, hK _ ?_⟩
                  ((with_reducible refine Calls.keep (HP5.out _) ?_); exact (fun w' hb => KR.call (Keep.h _) hb))
                  clear hK K))
      refine wpQ2_nil ?_
      clear kc0
      intro Wk Kk
      have K := Lib.hid Kk
      clear Kk
      clear HP1 HP2 HP3 HP4 HP5
      simp only [bs_mk, str_append, List.append_assoc]
      go_wp2_with fail
      refine (HR.out _).mono ?_
      rintro e w' ⟨rfl, hb⟩
      replace K := Lib.hid (K.out.call hb)
      clear hb HR
      go_wp2_with fail
      go_ret
      refine ⟨ret_str ?_, K.out.below⟩
      unfold laidA
      try simp only [bs_mk, str_append, List.append_assoc]
      rfl
    · have HP1 := Lib.hid (fun W => put_any W 25 2 (by decide) (by decide) (by decide) (by decide))
      have HP2 := Lib.hid (fun W => put_any W 16 2 (by decide) (by decide) (by decide) (by decide))
      have HP3 := Lib.hid (fun W => put_any W 28 1 (by decide) (by decide) (by decide) (by decide))
      have HP4 := Lib.hid (fun W => put_any W 2 1 (by decide) (by decide) (by decide) (by decide))
      have HP5 := Lib.hid (fun W => put_any W v 2 h0 (by decide) (by decide) (by omega))
      have HC : Hid (∀ W : World, Calls Try.prog 48 #[.int .i64 9] W fun x w' => x = .returned (.tuple #[.int .u64 14, .int .i64 2]) ∧ W = w') := Lib.hid (fun W => code_any W 9)
      have HR := Lib.hid (fun W => rep_any W 6 (by decide) (by decide))
      clear h0 h2
      go_enter Try.func36, Try.ntmps36
      go_upto_region 1 with fail
      refine one_box_wp ?_
      intro W hb1 hbel hsz
      have K : Hid (KR w.heap.size w [(w.heap.size, 67, #[.int .i64 5, .int .i64 9, .int .u64 v])] W) := Lib.hid ((KR.start hbel hbel.size).add hb1)
      clear hb1 hbel hsz
      have c0 := (K.out.at 0 rfl).cell 0 _ rfl
      have c1 := (K.out.at 0 rfl).cell 1 _ rfl
      go_wp2_with fail
      refine (HC.out _).mono ?_
      rintro e w' ⟨rfl, hw⟩
      subst hw
      clear HC c0 c1
      have q1 : IntKind.u64.wrap 28 = 28 := by decide
      have q2 : IntKind.u64.wrap 2 = 2 := by decide
      have q3 : IntKind.u64.wrap (2 * 14) = 28 := by decide
      haveI : Nonempty (Keep (KR w.heap.size w [(w.heap.size, 67, #[.int .i64 5, .int .i64 9, .int .u64 v])])) := ⟨⟨_, K.out⟩⟩
      have kc0 := fun q : Keep (KR w.heap.size w [(w.heap.size, 67, #[.int .i64 5, .int .i64 9, .int .u64 v])]) => (KR.at q.h 0 rfl).cell 2 _ rfl
      go_upto_region 11 with fail
      refine wp_region_keep2 (Cl := KR w.heap.size w [(w.heap.size, 67, #[.int .i64 5, .int .i64 9, .int .u64 v])]) (by kernel_rfl) (by kernel_rfl) K.out.drew ?_
      intro y' hy'
      clear hy' K
      repeat
        first
          | (refine wpQ2_step (fun K hK => ?_)
             go_simp
             first
               | (refine hK _ ?_; clear hK K)
               | (apply Exists.intro
                  refine ⟨fun _ => ?_, hK _ ?_⟩
                  (rw [if_neg (by omega)]; exact ⟨rfl, rfl⟩)
                  clear hK K)
               | (apply Exists.intro
                  refine ⟨fun _ => ?_, hK _ ?_⟩
                  ((with_reducible refine Calls.keep (HP1.out _) ?_); exact (fun w' hb => KR.call (Keep.h _) hb))
                  clear hK K)
               | (apply Exists.intro
                  refine ⟨fun _ => ?_, hK _ ?_⟩
                  ((with_reducible refine Calls.keep (HP2.out _) ?_); exact (fun w' hb => KR.call (Keep.h _) hb))
                  clear hK K)
               | (apply Exists.intro
                  refine ⟨fun _ => ?_, hK _ ?_⟩
                  ((with_reducible refine Calls.keep (HP3.out _) ?_); exact (fun w' hb => KR.call (Keep.h _) hb))
                  clear hK K)
               | (apply Exists.intro
                  refine ⟨fun _ => ?_, hK _ ?_⟩
                  ((with_reducible refine Calls.keep (HP4.out _) ?_); exact (fun w' hb => KR.call (Keep.h _) hb))
                  clear hK K)
               | (apply Exists.intro
                  refine ⟨fun _ => ?_, hK _ ?_⟩
                  ((with_reducible refine Calls.keep (HP5.out _) ?_); exact (fun w' hb => KR.call (Keep.h _) hb))
                  clear hK K))
      refine wpQ2_nil ?_
      clear kc0
      intro Wk Kk
      have K := Lib.hid Kk
      clear Kk
      clear HP1 HP2 HP3 HP4 HP5
      simp only [bs_mk, str_append, List.append_assoc]
      go_wp2_with fail
      refine (HR.out _).mono ?_
      rintro e w' ⟨rfl, hb⟩
      replace K := Lib.hid (K.out.call hb)
      clear hb HR
      go_wp2_with fail
      go_ret
      refine ⟨ret_str ?_, K.out.below⟩
      unfold laidA
      try simp only [bs_mk, str_append, List.append_assoc]
      rfl
end Go.Proofs.Ytdjhbahiiabimaa
