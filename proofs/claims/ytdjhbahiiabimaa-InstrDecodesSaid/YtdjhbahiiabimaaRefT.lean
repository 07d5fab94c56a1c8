/- droverref06.one (printed by gen/refk.py). droverref06.Decode; plain: what an action seems to be, said in two ways. droverref06.Decode. -/
import Derived.Test.YtdjhbahiiabimaaRefQ
import Derived.Test.YtdjhbahiiabimaaActF
import Derived.Test.YtdjhbahiiabimaaRefG
import Derived.Test.YtdjhbahiiabimaaInsP
namespace Go.Proofs.Ytdjhbahiiabimaa
section
open Go.RowKit
set_option linter.unusedVariables false
set_option linter.unusedSimpArgs false

/-- The number of the bytes of a text from a place up to one. -/
def exN (s : ByteArray) (a b : Nat) : Int := numG (s.extract a b).data.toList
theorem exN_bd (s : ByteArray) (a b : Nat) (h : b - a ≤ 8) : 0 ≤ exN s a b ∧ exN s a b ≤ 18446744073709551615 := by
  unfold exN
  have hl : (s.extract a b).data.toList.length ≤ 8 := by rw [size_data, ByteArray.size_extract]; omega
  rw [numG_eq _ hl]
  have h1 := numN_lt (s.extract a b).data.toList
  have h2 : 256 ^ (s.extract a b).data.toList.length ≤ 256 ^ 8 := Nat.pow_le_pow_right (by decide) hl
  have h3 : (256 : Nat) ^ 8 = 18446744073709551616 := by decide
  omega
theorem exNum (W : World) (s : ByteArray) (a b : Nat) (h : b - a ≤ 1000) : Calls Try.prog 30 #[.string (s.extract a b)] W fun x w' => x = .returned (.int .u64 (exN s a b)) ∧ W = w' := by
  have := r3Num_any W (s.extract a b).data.toList (by rw [size_data, ByteArray.size_extract]; omega)
  rw [str_of] at this
  exact this
/-- The action that bytes seem to be. -/
def oneA (s : ByteArray) : Action :=
  if exN s 0 2 = 0 then ⟨1, 0, exN s 4 8⟩ else if exN s 0 2 = 22 then ⟨2, 0, exN s 4 8⟩ else if exN s 0 2 = 17 then ⟨3, 0, 0⟩ else if exN s 0 2 = 18 then ⟨4, 0, 0⟩
  else if exN s 0 2 = 25 then (if s.size = 16 ∧ namedA (byteA s 6) ≠ 0 then ⟨5, namedA (byteA s 6), exN s 8 (8 + (codeF (namedA (byteA s 6))).2.toNat)⟩ else ⟨0, 0, 0⟩) else ⟨0, 0, 0⟩
theorem oneA_v (s : ByteArray) : okV (oneA s) := by
  unfold oneA okV
  have h := exN_bd s 4 8 (by decide)
  have hc : ∀ f : Int, 8 + (codeF f).2.toNat - 8 ≤ 8 := fun f => by unfold codeF; (repeat' split) <;> decide
  have h8 := fun f : Int => exN_bd s 8 (8 + (codeF f).2.toNat) (hc f)
  split
  · exact h
  · split
    · exact h
    · split
      · exact ⟨by decide, by decide⟩
      · split
        · exact ⟨by decide, by decide⟩
        · split
          · split
            · exact h8 _
            · exact ⟨by decide, by decide⟩
          · exact ⟨by decide, by decide⟩
theorem act_ret {a : Action} {k f v : Int} (h : a = ⟨k, f, v⟩) : Ending.returned (.agg #[.int .i64 k, .int .i64 f, .int .u64 v]) = .returned (.agg (encAction a).toArray) := by subst h; rfl
set_option maxRecDepth 100000 in
set_option maxHeartbeats 8000000 in
theorem one_any (w : World) (s : ByteArray) (hs : 8 ≤ s.size) (hs2 : s.size ≤ 100000) :
    Calls Try.prog 57 #[.string s] w fun x w' => x = .returned (.agg (encAction (oneA s)).toArray) ∧ Below w.heap.size w w' := by
  have H2 : Hid (∀ W : World, Calls Try.prog 30 #[.string (s.extract 0 2)] W fun x w' => x = .returned (.int .u64 (exN s 0 2)) ∧ W = w') := Lib.hid (fun W => exNum W s 0 2 (by decide))
  have H48 : Hid (∀ W : World, Calls Try.prog 30 #[.string (s.extract 4 8)] W fun x w' => x = .returned (.int .u64 (exN s 4 8)) ∧ W = w') := Lib.hid (fun W => exNum W s 4 8 (by decide))
  have H10 : Hid (∀ W : World, Calls Try.prog 30 #[.string (s.extract 8 10)] W fun x w' => x = .returned (.int .u64 (exN s 8 10)) ∧ W = w') := Lib.hid (fun W => exNum W s 8 10 (by decide))
  have H12 : Hid (∀ W : World, Calls Try.prog 30 #[.string (s.extract 8 12)] W fun x w' => x = .returned (.int .u64 (exN s 8 12)) ∧ W = w') := Lib.hid (fun W => exNum W s 8 12 (by decide))
  have HS : Hid (oneA s = oneA s) := Lib.hid rfl
  conv at HS => arg 1; rhs; unfold oneA
  generalize oneA s = R at *
  generalize exN s 8 = G at *
  generalize exN s 4 8 = N48 at *
  generalize exN s 0 2 = k at *
  have i2 : (2 : Int) ≤ s.size := by omega
  have i4 : (4 : Int) ≤ s.size := by omega
  have i8 : (8 : Int) ≤ s.size := by omega
  have i6 : (6 : Int) < s.size := by omega
  have i6' : 6 < s.size := by omega
  have b6 := byteA_get s 6 i6'
  have l6 := byteA_le s 6
  go_enter Try.func57, Try.ntmps57
  go_upto_region 1 with fail
  refine one_box_wp ?_
  intro W hb1 hbel hsz
  have K : Hid (KR w.heap.size w [(w.heap.size, 67, #[.int .i64 0, .int .i64 0, .int .u64 0])] W) := Lib.hid ((KR.start hbel hbel.size).add hb1)
  clear hb1 hbel hsz
  go_wp2_with fail
  refine (H2.out _).mono ?_
  rintro x w' ⟨rfl, rfl⟩
  clear H2
  by_cases h0 : k = 0
  · subst h0
    have HRn : Hid (R = ⟨1, 0, N48⟩) := Lib.hid (by rw [HS.out]; rfl)
    clear HS
    go_wp2_with fail
    refine (H48.out _).mono ?_
    rintro x w' ⟨rfl, rfl⟩
    go_wp2_with (first
      | (refine wpList_store_row rfl 67 _ _ rfl _ rfl #[.int .i64 1, .int .i64 0, .int .u64 N48] rfl _ _ (K.out.at 0 rfl) rfl (by kernel_rfl) (by simp [Value.oneCell']) ?_)
      | fail)
    intro Wi hbi hbari
    have HB := Lib.hid (hbari.below K.out.below (Nat.le_refl _) K.out.size)
    clear hbari K
    go_wp2_with fail
    exact bodyPost_ret (v := .agg #[.int .i64 1, .int .i64 0, .int .u64 N48]) (results_cell_row rfl _ _ w.heap.size _ _ _ _ rfl hbi Try.underlying67 rfl (by kernel_rfl)) rfl ⟨act_ret HRn.out, HB.out⟩
  have t0 : (k == 0) = false := by simpa using h0
  by_cases h22 : k = 22
  · subst h22
    have HRn : Hid (R = ⟨2, 0, N48⟩) := Lib.hid (by rw [HS.out]; rfl)
    clear HS
    go_wp2_with fail
    refine (H48.out _).mono ?_
    rintro x w' ⟨rfl, rfl⟩
    go_wp2_with (first
      | (refine wpList_store_row rfl 67 _ _ rfl _ rfl #[.int .i64 2, .int .i64 0, .int .u64 N48] rfl _ _ (K.out.at 0 rfl) rfl (by kernel_rfl) (by simp [Value.oneCell']) ?_)
      | fail)
    intro Wi hbi hbari
    have HB := Lib.hid (hbari.below K.out.below (Nat.le_refl _) K.out.size)
    clear hbari K
    go_wp2_with fail
    exact bodyPost_ret (v := .agg #[.int .i64 2, .int .i64 0, .int .u64 N48]) (results_cell_row rfl _ _ w.heap.size _ _ _ _ rfl hbi Try.underlying67 rfl (by kernel_rfl)) rfl ⟨act_ret HRn.out, HB.out⟩
  have t22 : (k == 22) = false := by simpa using h22
  by_cases h17 : k = 17
  · subst h17
    have HRn : Hid (R = ⟨3, 0, 0⟩) := Lib.hid (by rw [HS.out]; rfl)
    clear HS
    go_wp2_with (first
      | (refine wpList_store_row rfl 67 _ _ rfl _ rfl #[.int .i64 3, .int .i64 0, .int .u64 0] rfl _ _ (K.out.at 0 rfl) rfl (by kernel_rfl) (by simp [Value.oneCell']) ?_)
      | fail)
    intro Wi hbi hbari
    have HB := Lib.hid (hbari.below K.out.below (Nat.le_refl _) K.out.size)
    clear hbari K
    go_wp2_with fail
    exact bodyPost_ret (v := .agg #[.int .i64 3, .int .i64 0, .int .u64 0]) (results_cell_row rfl _ _ w.heap.size _ _ _ _ rfl hbi Try.underlying67 rfl (by kernel_rfl)) rfl ⟨act_ret HRn.out, HB.out⟩
  have t17 : (k == 17) = false := by simpa using h17
  by_cases h18 : k = 18
  · subst h18
    have HRn : Hid (R = ⟨4, 0, 0⟩) := Lib.hid (by rw [HS.out]; rfl)
    clear HS
    go_wp2_with (first
      | (refine wpList_store_row rfl 67 _ _ rfl _ rfl #[.int .i64 4, .int .i64 0, .int .u64 0] rfl _ _ (K.out.at 0 rfl) rfl (by kernel_rfl) (by simp [Value.oneCell']) ?_)
      | fail)
    intro Wi hbi hbari
    have HB := Lib.hid (hbari.below K.out.below (Nat.le_refl _) K.out.size)
    clear hbari K
    go_wp2_with fail
    exact bodyPost_ret (v := .agg #[.int .i64 4, .int .i64 0, .int .u64 0]) (results_cell_row rfl _ _ w.heap.size _ _ _ _ rfl hbi Try.underlying67 rfl (by kernel_rfl)) rfl ⟨act_ret HRn.out, HB.out⟩
  have t18 : (k == 18) = false := by simpa using h18
  by_cases h25 : k = 25
  case neg =>
    have t25 : (k == 25) = false := by simpa using h25
    have HRn : Hid (R = ⟨0, 0, 0⟩) := Lib.hid (by rw [HS.out, if_neg h0, if_neg h22, if_neg h17, if_neg h18, if_neg h25])
    clear HS h0 h22 h17 h18 h25
    go_wp2_with (first
      | (refine wpList_store_row rfl 67 _ _ rfl _ rfl #[.int .i64 0, .int .i64 0, .int .u64 0] rfl _ _ (K.out.at 0 rfl) rfl (by kernel_rfl) (by simp [Value.oneCell']) ?_)
      | fail)
    intro Wi hbi hbari
    have HB := Lib.hid (hbari.below K.out.below (Nat.le_refl _) K.out.size)
    clear hbari K
    go_wp2_with fail
    exact bodyPost_ret (v := .agg #[.int .i64 0, .int .i64 0, .int .u64 0]) (results_cell_row rfl _ _ w.heap.size _ _ _ _ rfl hbi Try.underlying67 rfl (by kernel_rfl)) rfl ⟨act_ret HRn.out, HB.out⟩
  have HS2 : Hid (R = if s.size = 16 ∧ namedA (byteA s 6) ≠ 0 then ⟨5, namedA (byteA s 6), G (8 + (codeF (namedA (byteA s 6))).2.toNat)⟩ else ⟨0, 0, 0⟩) := Lib.hid (by rw [HS.out, if_neg h0, if_neg h22, if_neg h17, if_neg h18, if_pos h25])
  subst h25
  clear HS h0 h22 h17 h18 t0 t22 t17 t18
  generalize byteA s 6 = x6 at *
  have w6 : IntKind.i64.wrap (x6 : Int) = x6 := i64_wrap_in (by omega) (by omega)
  go_wp2_with fail
  go_loopw [3] (fun fv wr => ∃ f : Int, 3 ≤ f ∧ f ≤ 10 ∧ fv = .int .i64 f ∧ Hid (s.size = 16 → NotYet f (x6 : Int)) ∧ Hid (KR w.heap.size w [(w.heap.size, 67, #[.int .i64 0, .int .i64 0, .int .u64 0])] wr)) (fun fv _ => (10 - intOf fv).toNat)
  case atStart => exact ⟨3, by omega, by omega, rfl, Lib.hid (fun _ => ⟨fun h => by omega, fun h => by omega, fun h => by omega, fun h => by omega, fun h => by omega⟩), K⟩
  case round =>
    clear K
    obtain ⟨f, hf1, hf2, rfl, HN, K⟩ := hrel
    rcases (by omega : f = 3 ∨ f = 4 ∨ f = 5 ∨ f = 6 ∨ f = 7 ∨ f = 8 ∨ f = 9 ∨ f = 10) with rfl | rfl | rfl | rfl | rfl | rfl | rfl | rfl
    · have HC : Hid (∀ W : World, Calls Try.prog 52 #[.int .i64 3] W fun x w' => x = .returned (.int .i64 6) ∧ W = w') := Lib.hid (fun W => r6code_any W 3)
      have HC2 : Hid (∀ W : World, Calls Try.prog 52 #[.int .i64 3] W fun x w' => x = .returned (.int .i64 6) ∧ Below W.heap.size W w') := Lib.hid (fun W => (HC.out W).mono (fun _ _ ⟨h1, h2⟩ => ⟨h1, h2 ▸ Below.refl _ _⟩))
      have HZ : Hid (∀ W : World, Calls Try.prog 53 #[.int .i64 3] W fun x w' => x = .returned (.int .i64 2) ∧ W = w') := Lib.hid (fun W => r6size_any W 3)
      have q1 : IntKind.i64.wrap (2 * 6) = 12 := by decide
      have q2 : IntKind.i64.wrap 12 = 12 := by decide
      by_cases hc : x6 = 12
      · have tc : ((x6 : Int) == 12) = true := by rw [hc]; rfl
        by_cases h16 : s.size = 16
        · have t16 : ((s.size : Int) == 16) = true := by rw [h16]; rfl
          have HRn : Hid (R = ⟨5, 3, G 10⟩) := Lib.hid (by rw [HS2.out, if_pos ⟨h16, by rw [hc]; decide⟩, hc]; rfl)
          have i10 : (10 : Int) ≤ s.size := by omega
          clear HS2 hc h16 HN
          haveI : Nonempty (Keep (KR w.heap.size w [(w.heap.size, 67, #[.int .i64 0, .int .i64 0, .int .u64 0])])) := ⟨⟨_, K.out⟩⟩
          go_upto_region 14 with fail
          refine wp_region_keep2 (Cl := KR w.heap.size w [(w.heap.size, 67, #[.int .i64 0, .int .i64 0, .int .u64 0])]) (by kernel_rfl) (by kernel_rfl) K.out.drew ?_
          intro y' hy'
          have g3_ := fun tmps => hy' tmps 3 34 rfl
          have g12_ := fun tmps => hy' tmps 12 43 rfl
          have gb_ := yl_bool
          clear hy' K
          repeat
            first
              | (refine wpQ2_step (fun K hK => ?_)
                 go_simp
                 first
                   | (refine hK _ ?_; clear hK K)
                   | (apply Exists.intro
                      refine ⟨fun _ => ?_, hK _ ?_⟩
                      (rw [if_neg (by omega)]; exact ⟨rfl, rfl⟩)
                      clear hK K)
                   | (apply Exists.intro
                      refine ⟨fun _ => ?_, hK _ ?_⟩
                      ((with_reducible refine Calls.keep (HC2.out _) ?_); exact (fun w' hb => KR.call (Keep.h _) hb))
                      clear hK K))
          refine wpQ2_nil ?_
          intro Wk Kk
          have K := Lib.hid Kk
          clear Kk
          clear gb_ g3_ g12_
          clear HC HC2
          go_wp2_with fail
          refine (HZ.out _).mono ?_
          rintro x w' ⟨rfl, rfl⟩
          go_wp2_with fail
          refine (H10.out _).mono ?_
          rintro x w' ⟨rfl, rfl⟩
          go_wp2_with (first
            | (refine wpList_store_row rfl 67 _ _ rfl _ rfl #[.int .i64 5, .int .i64 3, .int .u64 (G 10)] rfl _ _ (K.out.at 0 rfl) rfl (by kernel_rfl) (by simp [Value.oneCell']) ?_)
            | fail)
          intro Wi hbi hbari
          have HB := Lib.hid (hbari.below K.out.below (Nat.le_refl _) K.out.size)
          clear hbari K
          go_wp2_with fail
          exact bodyPost_ret (v := .agg #[.int .i64 5, .int .i64 3, .int .u64 (G 10)]) (results_cell_row rfl _ _ w.heap.size _ _ _ _ rfl hbi Try.underlying67 rfl (by kernel_rfl)) rfl ⟨act_ret HRn.out, HB.out⟩
        · have t16 : ((s.size : Int) == 16) = false := by simp; omega
          clear hc
          haveI : Nonempty (Keep (KR w.heap.size w [(w.heap.size, 67, #[.int .i64 0, .int .i64 0, .int .u64 0])])) := ⟨⟨_, K.out⟩⟩
          go_upto_region 14 with fail
          refine wp_region_keep2 (Cl := KR w.heap.size w [(w.heap.size, 67, #[.int .i64 0, .int .i64 0, .int .u64 0])]) (by kernel_rfl) (by kernel_rfl) K.out.drew ?_
          intro y' hy'
          have g3_ := fun tmps => hy' tmps 3 34 rfl
          have g12_ := fun tmps => hy' tmps 12 43 rfl
          have gb_ := yl_bool
          clear hy' K
          repeat
            first
              | (refine wpQ2_step (fun K hK => ?_)
                 go_simp
                 first
                   | (refine hK _ ?_; clear hK K)
                   | (apply Exists.intro
                      refine ⟨fun _ => ?_, hK _ ?_⟩
                      (rw [if_neg (by omega)]; exact ⟨rfl, rfl⟩)
                      clear hK K)
                   | (apply Exists.intro
                      refine ⟨fun _ => ?_, hK _ ?_⟩
                      ((with_reducible refine Calls.keep (HC2.out _) ?_); exact (fun w' hb => KR.call (Keep.h _) hb))
                      clear hK K))
          refine wpQ2_nil ?_
          intro Wk Kk
          have K := Lib.hid Kk
          clear Kk
          clear gb_ g3_ g12_
          go_wp2_with fail
          go_roundw
          case rel => exact ⟨4, by omega, by omega, rfl, Lib.hid (fun h => absurd h h16), K⟩
          case measure => simp [intOf]
      · have tc : ((x6 : Int) == 12) = false := by simp; omega
        haveI : Nonempty (Keep (KR w.heap.size w [(w.heap.size, 67, #[.int .i64 0, .int .i64 0, .int .u64 0])])) := ⟨⟨_, K.out⟩⟩
        go_upto_region 14 with fail
        refine wp_region_keep2 (Cl := KR w.heap.size w [(w.heap.size, 67, #[.int .i64 0, .int .i64 0, .int .u64 0])]) (by kernel_rfl) (by kernel_rfl) K.out.drew ?_
        intro y' hy'
        have g3_ := fun tmps => hy' tmps 3 34 rfl
        have g12_ := fun tmps => hy' tmps 12 43 rfl
        have gb_ := yl_bool
        clear hy' K
        repeat
          first
            | (refine wpQ2_step (fun K hK => ?_)
               go_simp
               first
                 | (refine hK _ ?_; clear hK K)
                 | (apply Exists.intro
                    refine ⟨fun _ => ?_, hK _ ?_⟩
                    (rw [if_neg (by omega)]; exact ⟨rfl, rfl⟩)
                    clear hK K)
                 | (apply Exists.intro
                    refine ⟨fun _ => ?_, hK _ ?_⟩
                    ((with_reducible refine Calls.keep (HC2.out _) ?_); exact (fun w' hb => KR.call (Keep.h _) hb))
                    clear hK K))
        refine wpQ2_nil ?_
        intro Wk Kk
        have K := Lib.hid Kk
        clear Kk
        clear gb_ g3_ g12_
        go_wp2_with fail
        go_roundw
        case rel => exact ⟨4, by omega, by omega, rfl, Lib.hid (fun h => by have := HN.out h; unfold NotYet at *; omega), K⟩
        case measure => simp [intOf]
    · have HC : Hid (∀ W : World, Calls Try.prog 52 #[.int .i64 4] W fun x w' => x = .returned (.int .i64 0) ∧ W = w') := Lib.hid (fun W => r6code_any W 4)
      have HC2 : Hid (∀ W : World, Calls Try.prog 52 #[.int .i64 4] W fun x w' => x = .returned (.int .i64 0) ∧ Below W.heap.size W w') := Lib.hid (fun W => (HC.out W).mono (fun _ _ ⟨h1, h2⟩ => ⟨h1, h2 ▸ Below.refl _ _⟩))
      haveI : Nonempty (Keep (KR w.heap.size w [(w.heap.size, 67, #[.int .i64 0, .int .i64 0, .int .u64 0])])) := ⟨⟨_, K.out⟩⟩
      go_upto_region 14 with fail
      refine wp_region_keep2 (Cl := KR w.heap.size w [(w.heap.size, 67, #[.int .i64 0, .int .i64 0, .int .u64 0])]) (by kernel_rfl) (by kernel_rfl) K.out.drew ?_
      intro y' hy'
      have g3_ := fun tmps => hy' tmps 3 34 rfl
      have g12_ := fun tmps => hy' tmps 12 43 rfl
      have gb_ := yl_bool
      clear hy' K
      repeat
        first
          | (refine wpQ2_step (fun K hK => ?_)
             go_simp
             first
               | (refine hK _ ?_; clear hK K)
               | (apply Exists.intro
                  refine ⟨fun _ => ?_, hK _ ?_⟩
                  (rw [if_neg (by omega)]; exact ⟨rfl, rfl⟩)
                  clear hK K)
               | (apply Exists.intro
                  refine ⟨fun _ => ?_, hK _ ?_⟩
                  ((with_reducible refine Calls.keep (HC2.out _) ?_); exact (fun w' hb => KR.call (Keep.h _) hb))
                  clear hK K))
      refine wpQ2_nil ?_
      intro Wk Kk
      have K := Lib.hid Kk
      clear Kk
      clear gb_ g3_ g12_
      go_wp2_with fail
      go_roundw
      case rel => exact ⟨5, by omega, by omega, rfl, Lib.hid (fun h => by have := HN.out h; unfold NotYet at *; omega), K⟩
      case measure => simp [intOf]
    · have HC : Hid (∀ W : World, Calls Try.prog 52 #[.int .i64 5] W fun x w' => x = .returned (.int .i64 11) ∧ W = w') := Lib.hid (fun W => r6code_any W 5)
      have HC2 : Hid (∀ W : World, Calls Try.prog 52 #[.int .i64 5] W fun x w' => x = .returned (.int .i64 11) ∧ Below W.heap.size W w') := Lib.hid (fun W => (HC.out W).mono (fun _ _ ⟨h1, h2⟩ => ⟨h1, h2 ▸ Below.refl _ _⟩))
      have HZ : Hid (∀ W : World, Calls Try.prog 53 #[.int .i64 5] W fun x w' => x = .returned (.int .i64 4) ∧ W = w') := Lib.hid (fun W => r6size_any W 5)
      have q1 : IntKind.i64.wrap (2 * 11) = 22 := by decide
      have q2 : IntKind.i64.wrap 22 = 22 := by decide
      by_cases hc : x6 = 22
      · have tc : ((x6 : Int) == 22) = true := by rw [hc]; rfl
        by_cases h16 : s.size = 16
        · have t16 : ((s.size : Int) == 16) = true := by rw [h16]; rfl
          have HRn : Hid (R = ⟨5, 5, G 12⟩) := Lib.hid (by rw [HS2.out, if_pos ⟨h16, by rw [hc]; decide⟩, hc]; rfl)
          have i10 : (12 : Int) ≤ s.size := by omega
          clear HS2 hc h16 HN
          haveI : Nonempty (Keep (KR w.heap.size w [(w.heap.size, 67, #[.int .i64 0, .int .i64 0, .int .u64 0])])) := ⟨⟨_, K.out⟩⟩
          go_upto_region 14 with fail
          refine wp_region_keep2 (Cl := KR w.heap.size w [(w.heap.size, 67, #[.int .i64 0, .int .i64 0, .int .u64 0])]) (by kernel_rfl) (by kernel_rfl) K.out.drew ?_
          intro y' hy'
          have g3_ := fun tmps => hy' tmps 3 34 rfl
          have g12_ := fun tmps => hy' tmps 12 43 rfl
          have gb_ := yl_bool
          clear hy' K
          repeat
            first
              | (refine wpQ2_step (fun K hK => ?_)
                 go_simp
                 first
                   | (refine hK _ ?_; clear hK K)
                   | (apply Exists.intro
                      refine ⟨fun _ => ?_, hK _ ?_⟩
                      (rw [if_neg (by omega)]; exact ⟨rfl, rfl⟩)
                      clear hK K)
                   | (apply Exists.intro
                      refine ⟨fun _ => ?_, hK _ ?_⟩
                      ((with_reducible refine Calls.keep (HC2.out _) ?_); exact (fun w' hb => KR.call (Keep.h _) hb))
                      clear hK K))
          refine wpQ2_nil ?_
          intro Wk Kk
          have K := Lib.hid Kk
          clear Kk
          clear gb_ g3_ g12_
          clear HC HC2
          go_wp2_with fail
          refine (HZ.out _).mono ?_
          rintro x w' ⟨rfl, rfl⟩
          go_wp2_with fail
          refine (H12.out _).mono ?_
          rintro x w' ⟨rfl, rfl⟩
          go_wp2_with (first
            | (refine wpList_store_row rfl 67 _ _ rfl _ rfl #[.int .i64 5, .int .i64 5, .int .u64 (G 12)] rfl _ _ (K.out.at 0 rfl) rfl (by kernel_rfl) (by simp [Value.oneCell']) ?_)
            | fail)
          intro Wi hbi hbari
          have HB := Lib.hid (hbari.below K.out.below (Nat.le_refl _) K.out.size)
          clear hbari K
          go_wp2_with fail
          exact bodyPost_ret (v := .agg #[.int .i64 5, .int .i64 5, .int .u64 (G 12)]) (results_cell_row rfl _ _ w.heap.size _ _ _ _ rfl hbi Try.underlying67 rfl (by kernel_rfl)) rfl ⟨act_ret HRn.out, HB.out⟩
        · have t16 : ((s.size : Int) == 16) = false := by simp; omega
          clear hc
          haveI : Nonempty (Keep (KR w.heap.size w [(w.heap.size, 67, #[.int .i64 0, .int .i64 0, .int .u64 0])])) := ⟨⟨_, K.out⟩⟩
          go_upto_region 14 with fail
          refine wp_region_keep2 (Cl := KR w.heap.size w [(w.heap.size, 67, #[.int .i64 0, .int .i64 0, .int .u64 0])]) (by kernel_rfl) (by kernel_rfl) K.out.drew ?_
          intro y' hy'
          have g3_ := fun tmps => hy' tmps 3 34 rfl
          have g12_ := fun tmps => hy' tmps 12 43 rfl
          have gb_ := yl_bool
          clear hy' K
          repeat
            first
              | (refine wpQ2_step (fun K hK => ?_)
                 go_simp
                 first
                   | (refine hK _ ?_; clear hK K)
                   | (apply Exists.intro
                      refine ⟨fun _ => ?_, hK _ ?_⟩
                      (rw [if_neg (by omega)]; exact ⟨rfl, rfl⟩)
                      clear hK K)
                   | (apply Exists.intro
                      refine ⟨fun _ => ?_, hK _ ?_⟩
                      ((with_reducible refine Calls.keep (HC2.out _) ?_); exact (fun w' hb => KR.call (Keep.h _) hb))
                      clear hK K))
          refine wpQ2_nil ?_
          intro Wk Kk
          have K := Lib.hid Kk
          clear Kk
          clear gb_ g3_ g12_
          go_wp2_with fail
          go_roundw
          case rel => exact ⟨6, by omega, by omega, rfl, Lib.hid (fun h => absurd h h16), K⟩
          case measure => simp [intOf]
      · have tc : ((x6 : Int) == 22) = false := by simp; omega
        haveI : Nonempty (Keep (KR w.heap.size w [(w.heap.size, 67, #[.int .i64 0, .int .i64 0, .int .u64 0])])) := ⟨⟨_, K.out⟩⟩
        go_upto_region 14 with fail
        refine wp_region_keep2 (Cl := KR w.heap.size w [(w.heap.size, 67, #[.int .i64 0, .int .i64 0, .int .u64 0])]) (by kernel_rfl) (by kernel_rfl) K.out.drew ?_
        intro y' hy'
        have g3_ := fun tmps => hy' tmps 3 34 rfl
        have g12_ := fun tmps => hy' tmps 12 43 rfl
        have gb_ := yl_bool
        clear hy' K
        repeat
          first
            | (refine wpQ2_step (fun K hK => ?_)
               go_simp
               first
                 | (refine hK _ ?_; clear hK K)
                 | (apply Exists.intro
                    refine ⟨fun _ => ?_, hK _ ?_⟩
                    (rw [if_neg (by omega)]; exact ⟨rfl, rfl⟩)
                    clear hK K)
                 | (apply Exists.intro
                    refine ⟨fun _ => ?_, hK _ ?_⟩
                    ((with_reducible refine Calls.keep (HC2.out _) ?_); exact (fun w' hb => KR.call (Keep.h _) hb))
                    clear hK K))
        refine wpQ2_nil ?_
        intro Wk Kk
        have K := Lib.hid Kk
        clear Kk
        clear gb_ g3_ g12_
        go_wp2_with fail
        go_roundw
        case rel => exact ⟨6, by omega, by omega, rfl, Lib.hid (fun h => by have := HN.out h; unfold NotYet at *; omega), K⟩
        case measure => simp [intOf]
    · have HC : Hid (∀ W : World, Calls Try.prog 52 #[.int .i64 6] W fun x w' => x = .returned (.int .i64 12) ∧ W = w') := Lib.hid (fun W => r6code_any W 6)
      have HC2 : Hid (∀ W : World, Calls Try.prog 52 #[.int .i64 6] W fun x w' => x = .returned (.int .i64 12) ∧ Below W.heap.size W w') := Lib.hid (fun W => (HC.out W).mono (fun _ _ ⟨h1, h2⟩ => ⟨h1, h2 ▸ Below.refl _ _⟩))
      have HZ : Hid (∀ W : World, Calls Try.prog 53 #[.int .i64 6] W fun x w' => x = .returned (.int .i64 4) ∧ W = w') := Lib.hid (fun W => r6size_any W 6)
      have q1 : IntKind.i64.wrap (2 * 12) = 24 := by decide
      have q2 : IntKind.i64.wrap 24 = 24 := by decide
      by_cases hc : x6 = 24
      · have tc : ((x6 : Int) == 24) = true := by rw [hc]; rfl
        by_cases h16 : s.size = 16
        · have t16 : ((s.size : Int) == 16) = true := by rw [h16]; rfl
          have HRn : Hid (R = ⟨5, 6, G 12⟩) := Lib.hid (by rw [HS2.out, if_pos ⟨h16, by rw [hc]; decide⟩, hc]; rfl)
          have i10 : (12 : Int) ≤ s.size := by omega
          clear HS2 hc h16 HN
          haveI : Nonempty (Keep (KR w.heap.size w [(w.heap.size, 67, #[.int .i64 0, .int .i64 0, .int .u64 0])])) := ⟨⟨_, K.out⟩⟩
          go_upto_region 14 with fail
          refine wp_region_keep2 (Cl := KR w.heap.size w [(w.heap.size, 67, #[.int .i64 0, .int .i64 0, .int .u64 0])]) (by kernel_rfl) (by kernel_rfl) K.out.drew ?_
          intro y' hy'
          have g3_ := fun tmps => hy' tmps 3 34 rfl
          have g12_ := fun tmps => hy' tmps 12 43 rfl
          have gb_ := yl_bool
          clear hy' K
          repeat
            first
              | (refine wpQ2_step (fun K hK => ?_)
                 go_simp
                 first
                   | (refine hK _ ?_; clear hK K)
                   | (apply Exists.intro
                      refine ⟨fun _ => ?_, hK _ ?_⟩
                      (rw [if_neg (by omega)]; exact ⟨rfl, rfl⟩)
                      clear hK K)
                   | (apply Exists.intro
                      refine ⟨fun _ => ?_, hK _ ?_⟩
                      ((with_reducible refine Calls.keep (HC2.out _) ?_); exact (fun w' hb => KR.call (Keep.h _) hb))
                      clear hK K))
          refine wpQ2_nil ?_
          intro Wk Kk
          have K := Lib.hid Kk
          clear Kk
          clear gb_ g3_ g12_
          clear HC HC2
          go_wp2_with fail
          refine (HZ.out _).mono ?_
          rintro x w' ⟨rfl, rfl⟩
          go_wp2_with fail
          refine (H12.out _).mono ?_
          rintro x w' ⟨rfl, rfl⟩
          go_wp2_with (first
            | (refine wpList_store_row rfl 67 _ _ rfl _ rfl #[.int .i64 5, .int .i64 6, .int .u64 (G 12)] rfl _ _ (K.out.at 0 rfl) rfl (by kernel_rfl) (by simp [Value.oneCell']) ?_)
            | fail)
          intro Wi hbi hbari
          have HB := Lib.hid (hbari.below K.out.below (Nat.le_refl _) K.out.size)
          clear hbari K
          go_wp2_with fail
          exact bodyPost_ret (v := .agg #[.int .i64 5, .int .i64 6, .int .u64 (G 12)]) (results_cell_row rfl _ _ w.heap.size _ _ _ _ rfl hbi Try.underlying67 rfl (by kernel_rfl)) rfl ⟨act_ret HRn.out, HB.out⟩
        · have t16 : ((s.size : Int) == 16) = false := by simp; omega
          clear hc
          haveI : Nonempty (Keep (KR w.heap.size w [(w.heap.size, 67, #[.int .i64 0, .int .i64 0, .int .u64 0])])) := ⟨⟨_, K.out⟩⟩
          go_upto_region 14 with fail
          refine wp_region_keep2 (Cl := KR w.heap.size w [(w.heap.size, 67, #[.int .i64 0, .int .i64 0, .int .u64 0])]) (by kernel_rfl) (by kernel_rfl) K.out.drew ?_
          intro y' hy'
          have g3_ := fun tmps => hy' tmps 3 34 rfl
          have g12_ := fun tmps => hy' tmps 12 43 rfl
          have gb_ := yl_bool
          clear hy' K
          repeat
            first
              | (refine wpQ2_step (fun K hK => ?_)
                 go_simp
                 first
                   | (refine hK _ ?_; clear hK K)
                   | (apply Exists.intro
                      refine ⟨fun _ => ?_, hK _ ?_⟩
                      (rw [if_neg (by omega)]; exact ⟨rfl, rfl⟩)
                      clear hK K)
                   | (apply Exists.intro
                      refine ⟨fun _ => ?_, hK _ ?_⟩
                      ((with_reducible refine Calls.keep (HC2.out _) ?_); exact (fun w' hb => KR.call (Keep.h _) hb))
                      clear hK K))
          refine wpQ2_nil ?_
          intro Wk Kk
          have K := Lib.hid Kk
          clear Kk
          clear gb_ g3_ g12_
          go_wp2_with fail
          go_roundw
          case rel => exact ⟨7, by omega, by omega, rfl, Lib.hid (fun h => absurd h h16), K⟩
          case measure => simp [intOf]
      · have tc : ((x6 : Int) == 24) = false := by simp; omega
        haveI : Nonempty (Keep (KR w.heap.size w [(w.heap.size, 67, #[.int .i64 0, .int .i64 0, .int .u64 0])])) := ⟨⟨_, K.out⟩⟩
        go_upto_region 14 with fail
        refine wp_region_keep2 (Cl := KR w.heap.size w [(w.heap.size, 67, #[.int .i64 0, .int .i64 0, .int .u64 0])]) (by kernel_rfl) (by kernel_rfl) K.out.drew ?_
        intro y' hy'
        have g3_ := fun tmps => hy' tmps 3 34 rfl
        have g12_ := fun tmps => hy' tmps 12 43 rfl
        have gb_ := yl_bool
        clear hy' K
        repeat
          first
            | (refine wpQ2_step (fun K hK => ?_)
               go_simp
               first
                 | (refine hK _ ?_; clear hK K)
                 | (apply Exists.intro
                    refine ⟨fun _ => ?_, hK _ ?_⟩
                    (rw [if_neg (by omega)]; exact ⟨rfl, rfl⟩)
                    clear hK K)
                 | (apply Exists.intro
                    refine ⟨fun _ => ?_, hK _ ?_⟩
                    ((with_reducible refine Calls.keep (HC2.out _) ?_); exact (fun w' hb => KR.call (Keep.h _) hb))
                    clear hK K))
        refine wpQ2_nil ?_
        intro Wk Kk
        have K := Lib.hid Kk
        clear Kk
        clear gb_ g3_ g12_
        go_wp2_with fail
        go_roundw
        case rel => exact ⟨7, by omega, by omega, rfl, Lib.hid (fun h => by have := HN.out h; unfold NotYet at *; omega), K⟩
        case measure => simp [intOf]
    · have HC : Hid (∀ W : World, Calls Try.prog 52 #[.int .i64 7] W fun x w' => x = .returned (.int .i64 0) ∧ W = w') := Lib.hid (fun W => r6code_any W 7)
      have HC2 : Hid (∀ W : World, Calls Try.prog 52 #[.int .i64 7] W fun x w' => x = .returned (.int .i64 0) ∧ Below W.heap.size W w') := Lib.hid (fun W => (HC.out W).mono (fun _ _ ⟨h1, h2⟩ => ⟨h1, h2 ▸ Below.refl _ _⟩))
      haveI : Nonempty (Keep (KR w.heap.size w [(w.heap.size, 67, #[.int .i64 0, .int .i64 0, .int .u64 0])])) := ⟨⟨_, K.out⟩⟩
      go_upto_region 14 with fail
      refine wp_region_keep2 (Cl := KR w.heap.size w [(w.heap.size, 67, #[.int .i64 0, .int .i64 0, .int .u64 0])]) (by kernel_rfl) (by kernel_rfl) K.out.drew ?_
      intro y' hy'
      have g3_ := fun tmps => hy' tmps 3 34 rfl
      have g12_ := fun tmps => hy' tmps 12 43 rfl
      have gb_ := yl_bool
      clear hy' K
      repeat
        first
          | (refine wpQ2_step (fun K hK => ?_)
             go_simp
             first
               | (refine hK _ ?_; clear hK K)
               | (apply Exists.intro
                  refine ⟨fun _ => ?_, hK _ ?_⟩
                  (rw [if_neg (by omega)]; exact ⟨rfl, rfl⟩)
                  clear hK K)
               | (apply Exists.intro
                  refine ⟨fun _ => ?_, hK _ ?_⟩
                  ((with_reducible refine Calls.keep (HC2.out _) ?_); exact (fun w' hb => KR.call (Keep.h _) hb))
                  clear hK K))
      refine wpQ2_nil ?_
      intro Wk Kk
      have K := Lib.hid Kk
      clear Kk
      clear gb_ g3_ g12_
      go_wp2_with fail
      go_roundw
      case rel => exact ⟨8, by omega, by omega, rfl, Lib.hid (fun h => by have := HN.out h; unfold NotYet at *; omega), K⟩
      case measure => simp [intOf]
    · have HC : Hid (∀ W : World, Calls Try.prog 52 #[.int .i64 8] W fun x w' => x = .returned (.int .i64 13) ∧ W = w') := Lib.hid (fun W => r6code_any W 8)
      have HC2 : Hid (∀ W : World, Calls Try.prog 52 #[.int .i64 8] W fun x w' => x = .returned (.int .i64 13) ∧ Below W.heap.size W w') := Lib.hid (fun W => (HC.out W).mono (fun _ _ ⟨h1, h2⟩ => ⟨h1, h2 ▸ Below.refl _ _⟩))
      have HZ : Hid (∀ W : World, Calls Try.prog 53 #[.int .i64 8] W fun x w' => x = .returned (.int .i64 2) ∧ W = w') := Lib.hid (fun W => r6size_any W 8)
      have q1 : IntKind.i64.wrap (2 * 13) = 26 := by decide
      have q2 : IntKind.i64.wrap 26 = 26 := by decide
      by_cases hc : x6 = 26
      · have tc : ((x6 : Int) == 26) = true := by rw [hc]; rfl
        by_cases h16 : s.size = 16
        · have t16 : ((s.size : Int) == 16) = true := by rw [h16]; rfl
          have HRn : Hid (R = ⟨5, 8, G 10⟩) := Lib.hid (by rw [HS2.out, if_pos ⟨h16, by rw [hc]; decide⟩, hc]; rfl)
          have i10 : (10 : Int) ≤ s.size := by omega
          clear HS2 hc h16 HN
          haveI : Nonempty (Keep (KR w.heap.size w [(w.heap.size, 67, #[.int .i64 0, .int .i64 0, .int .u64 0])])) := ⟨⟨_, K.out⟩⟩
          go_upto_region 14 with fail
          refine wp_region_keep2 (Cl := KR w.heap.size w [(w.heap.size, 67, #[.int .i64 0, .int .i64 0, .int .u64 0])]) (by kernel_rfl) (by kernel_rfl) K.out.drew ?_
          intro y' hy'
          have g3_ := fun tmps => hy' tmps 3 34 rfl
          have g12_ := fun tmps => hy' tmps 12 43 rfl
          have gb_ := yl_bool
          clear hy' K
          repeat
            first
              | (refine wpQ2_step (fun K hK => ?_)
                 go_simp
                 first
                   | (refine hK _ ?_; clear hK K)
                   | (apply Exists.intro
                      refine ⟨fun _ => ?_, hK _ ?_⟩
                      (rw [if_neg (by omega)]; exact ⟨rfl, rfl⟩)
                      clear hK K)
                   | (apply Exists.intro
                      refine ⟨fun _ => ?_, hK _ ?_⟩
                      ((with_reducible refine Calls.keep (HC2.out _) ?_); exact (fun w' hb => KR.call (Keep.h _) hb))
                      clear hK K))
          refine wpQ2_nil ?_
          intro Wk Kk
          have K := Lib.hid Kk
          clear Kk
          clear gb_ g3_ g12_
          clear HC HC2
          go_wp2_with fail
          refine (HZ.out _).mono ?_
          rintro x w' ⟨rfl, rfl⟩
          go_wp2_with fail
          refine (H10.out _).mono ?_
          rintro x w' ⟨rfl, rfl⟩
          go_wp2_with (first
            | (refine wpList_store_row rfl 67 _ _ rfl _ rfl #[.int .i64 5, .int .i64 8, .int .u64 (G 10)] rfl _ _ (K.out.at 0 rfl) rfl (by kernel_rfl) (by simp [Value.oneCell']) ?_)
            | fail)
          intro Wi hbi hbari
          have HB := Lib.hid (hbari.below K.out.below (Nat.le_refl _) K.out.size)
          clear hbari K
          go_wp2_with fail
          exact bodyPost_ret (v := .agg #[.int .i64 5, .int .i64 8, .int .u64 (G 10)]) (results_cell_row rfl _ _ w.heap.size _ _ _ _ rfl hbi Try.underlying67 rfl (by kernel_rfl)) rfl ⟨act_ret HRn.out, HB.out⟩
        · have t16 : ((s.size : Int) == 16) = false := by simp; omega
          clear hc
          haveI : Nonempty (Keep (KR w.heap.size w [(w.heap.size, 67, #[.int .i64 0, .int .i64 0, .int .u64 0])])) := ⟨⟨_, K.out⟩⟩
          go_upto_region 14 with fail
          refine wp_region_keep2 (Cl := KR w.heap.size w [(w.heap.size, 67, #[.int .i64 0, .int .i64 0, .int .u64 0])]) (by kernel_rfl) (by kernel_rfl) K.out.drew ?_
          intro y' hy'
          have g3_ := fun tmps => hy' tmps 3 34 rfl
          have g12_ := fun tmps => hy' tmps 12 43 rfl
          have gb_ := yl_bool
          clear hy' K
          repeat
            first
              | (refine wpQ2_step (fun K hK => ?_)
                 go_simp
                 first
                   | (refine hK _ ?_; clear hK K)
                   | (apply Exists.intro
                      refine ⟨fun _ => ?_, hK _ ?_⟩
                      (rw [if_neg (by omega)]; exact ⟨rfl, rfl⟩)
                      clear hK K)
                   | (apply Exists.intro
                      refine ⟨fun _ => ?_, hK _ ?_⟩
                      ((with_reducible refine Calls.keep (HC2.out _) ?_); exact (fun w' hb => KR.call (Keep.h _) hb))
                      clear hK K))
          refine wpQ2_nil ?_
          intro Wk Kk
          have K := Lib.hid Kk
          clear Kk
          clear gb_ g3_ g12_
          go_wp2_with fail
          go_roundw
          case rel => exact ⟨9, by omega, by omega, rfl, Lib.hid (fun h => absurd h h16), K⟩
          case measure => simp [intOf]
      · have tc : ((x6 : Int) == 26) = false := by simp; omega
        haveI : Nonempty (Keep (KR w.heap.size w [(w.heap.size, 67, #[.int .i64 0, .int .i64 0, .int .u64 0])])) := ⟨⟨_, K.out⟩⟩
        go_upto_region 14 with fail
        refine wp_region_keep2 (Cl := KR w.heap.size w [(w.heap.size, 67, #[.int .i64 0, .int .i64 0, .int .u64 0])]) (by kernel_rfl) (by kernel_rfl) K.out.drew ?_
        intro y' hy'
        have g3_ := fun tmps => hy' tmps 3 34 rfl
        have g12_ := fun tmps => hy' tmps 12 43 rfl
        have gb_ := yl_bool
        clear hy' K
        repeat
          first
            | (refine wpQ2_step (fun K hK => ?_)
               go_simp
               first
                 | (refine hK _ ?_; clear hK K)
                 | (apply Exists.intro
                    refine ⟨fun _ => ?_, hK _ ?_⟩
                    (rw [if_neg (by omega)]; exact ⟨rfl, rfl⟩)
                    clear hK K)
                 | (apply Exists.intro
                    refine ⟨fun _ => ?_, hK _ ?_⟩
                    ((with_reducible refine Calls.keep (HC2.out _) ?_); exact (fun w' hb => KR.call (Keep.h _) hb))
                    clear hK K))
        refine wpQ2_nil ?_
        intro Wk Kk
        have K := Lib.hid Kk
        clear Kk
        clear gb_ g3_ g12_
        go_wp2_with fail
        go_roundw
        case rel => exact ⟨9, by omega, by omega, rfl, Lib.hid (fun h => by have := HN.out h; unfold NotYet at *; omega), K⟩
        case measure => simp [intOf]
    · have HC : Hid (∀ W : World, Calls Try.prog 52 #[.int .i64 9] W fun x w' => x = .returned (.int .i64 14) ∧ W = w') := Lib.hid (fun W => r6code_any W 9)
      have HC2 : Hid (∀ W : World, Calls Try.prog 52 #[.int .i64 9] W fun x w' => x = .returned (.int .i64 14) ∧ Below W.heap.size W w') := Lib.hid (fun W => (HC.out W).mono (fun _ _ ⟨h1, h2⟩ => ⟨h1, h2 ▸ Below.refl _ _⟩))
      have HZ : Hid (∀ W : World, Calls Try.prog 53 #[.int .i64 9] W fun x w' => x = .returned (.int .i64 2) ∧ W = w') := Lib.hid (fun W => r6size_any W 9)
      have q1 : IntKind.i64.wrap (2 * 14) = 28 := by decide
      have q2 : IntKind.i64.wrap 28 = 28 := by decide
      by_cases hc : x6 = 28
      · have tc : ((x6 : Int) == 28) = true := by rw [hc]; rfl
        by_cases h16 : s.size = 16
        · have t16 : ((s.size : Int) == 16) = true := by rw [h16]; rfl
          have HRn : Hid (R = ⟨5, 9, G 10⟩) := Lib.hid (by rw [HS2.out, if_pos ⟨h16, by rw [hc]; decide⟩, hc]; rfl)
          have i10 : (10 : Int) ≤ s.size := by omega
          clear HS2 hc h16 HN
          haveI : Nonempty (Keep (KR w.heap.size w [(w.heap.size, 67, #[.int .i64 0, .int .i64 0, .int .u64 0])])) := ⟨⟨_, K.out⟩⟩
          go_upto_region 14 with fail
          refine wp_region_keep2 (Cl := KR w.heap.size w [(w.heap.size, 67, #[.int .i64 0, .int .i64 0, .int .u64 0])]) (by kernel_rfl) (by kernel_rfl) K.out.drew ?_
          intro y' hy'
          have g3_ := fun tmps => hy' tmps 3 34 rfl
          have g12_ := fun tmps => hy' tmps 12 43 rfl
          have gb_ := yl_bool
          clear hy' K
          repeat
            first
              | (refine wpQ2_step (fun K hK => ?_)
                 go_simp
                 first
                   | (refine hK _ ?_; clear hK K)
                   | (apply Exists.intro
                      refine ⟨fun _ => ?_, hK _ ?_⟩
                      (rw [if_neg (by omega)]; exact ⟨rfl, rfl⟩)
                      clear hK K)
                   | (apply Exists.intro
                      refine ⟨fun _ => ?_, hK _ ?_⟩
                      ((with_reducible refine Calls.keep (HC2.out _) ?_); exact (fun w' hb => KR.call (Keep.h _) hb))
                      clear hK K))
          refine wpQ2_nil ?_
          intro Wk Kk
          have K := Lib.hid Kk
          clear Kk
          clear gb_ g3_ g12_
          clear HC HC2
          go_wp2_with fail
          refine (HZ.out _).mono ?_
          rintro x w' ⟨rfl, rfl⟩
          go_wp2_with fail
          refine (H10.out _).mono ?_
          rintro x w' ⟨rfl, rfl⟩
          go_wp2_with (first
            | (refine wpList_store_row rfl 67 _ _ rfl _ rfl #[.int .i64 5, .int .i64 9, .int .u64 (G 10)] rfl _ _ (K.out.at 0 rfl) rfl (by kernel_rfl) (by simp [Value.oneCell']) ?_)
            | fail)
          intro Wi hbi hbari
          have HB := Lib.hid (hbari.below K.out.below (Nat.le_refl _) K.out.size)
          clear hbari K
          go_wp2_with fail
          exact bodyPost_ret (v := .agg #[.int .i64 5, .int .i64 9, .int .u64 (G 10)]) (results_cell_row rfl _ _ w.heap.size _ _ _ _ rfl hbi Try.underlying67 rfl (by kernel_rfl)) rfl ⟨act_ret HRn.out, HB.out⟩
        · have t16 : ((s.size : Int) == 16) = false := by simp; omega
          clear hc
          haveI : Nonempty (Keep (KR w.heap.size w [(w.heap.size, 67, #[.int .i64 0, .int .i64 0, .int .u64 0])])) := ⟨⟨_, K.out⟩⟩
          go_upto_region 14 with fail
          refine wp_region_keep2 (Cl := KR w.heap.size w [(w.heap.size, 67, #[.int .i64 0, .int .i64 0, .int .u64 0])]) (by kernel_rfl) (by kernel_rfl) K.out.drew ?_
          intro y' hy'
          have g3_ := fun tmps => hy' tmps 3 34 rfl
          have g12_ := fun tmps => hy' tmps 12 43 rfl
          have gb_ := yl_bool
          clear hy' K
          repeat
            first
              | (refine wpQ2_step (fun K hK => ?_)
                 go_simp
                 first
                   | (refine hK _ ?_; clear hK K)
                   | (apply Exists.intro
                      refine ⟨fun _ => ?_, hK _ ?_⟩
                      (rw [if_neg (by omega)]; exact ⟨rfl, rfl⟩)
                      clear hK K)
                   | (apply Exists.intro
                      refine ⟨fun _ => ?_, hK _ ?_⟩
                      ((with_reducible refine Calls.keep (HC2.out _) ?_); exact (fun w' hb => KR.call (Keep.h _) hb))
                      clear hK K))
          refine wpQ2_nil ?_
          intro Wk Kk
          have K := Lib.hid Kk
          clear Kk
          clear gb_ g3_ g12_
          go_wp2_with fail
          go_roundw
          case rel => exact ⟨10, by omega, by omega, rfl, Lib.hid (fun h => absurd h h16), K⟩
          case measure => simp [intOf]
      · have tc : ((x6 : Int) == 28) = false := by simp; omega
        haveI : Nonempty (Keep (KR w.heap.size w [(w.heap.size, 67, #[.int .i64 0, .int .i64 0, .int .u64 0])])) := ⟨⟨_, K.out⟩⟩
        go_upto_region 14 with fail
        refine wp_region_keep2 (Cl := KR w.heap.size w [(w.heap.size, 67, #[.int .i64 0, .int .i64 0, .int .u64 0])]) (by kernel_rfl) (by kernel_rfl) K.out.drew ?_
        intro y' hy'
        have g3_ := fun tmps => hy' tmps 3 34 rfl
        have g12_ := fun tmps => hy' tmps 12 43 rfl
        have gb_ := yl_bool
        clear hy' K
        repeat
          first
            | (refine wpQ2_step (fun K hK => ?_)
               go_simp
               first
                 | (refine hK _ ?_; clear hK K)
                 | (apply Exists.intro
                    refine ⟨fun _ => ?_, hK _ ?_⟩
                    (rw [if_neg (by omega)]; exact ⟨rfl, rfl⟩)
                    clear hK K)
                 | (apply Exists.intro
                    refine ⟨fun _ => ?_, hK _ ?_⟩
                    ((with_reducible refine Calls.keep (HC2.out _) ?_); exact (fun w' hb => KR.call (Keep.h _) hb))
                    clear hK K))
        refine wpQ2_nil ?_
        intro Wk Kk
        have K := Lib.hid Kk
        clear Kk
        clear gb_ g3_ g12_
        go_wp2_with fail
        go_roundw
        case rel => exact ⟨10, by omega, by omega, rfl, Lib.hid (fun h => by have := HN.out h; unfold NotYet at *; omega), K⟩
        case measure => simp [intOf]
    · have HRn : Hid (R = ⟨0, 0, 0⟩) := Lib.hid (by
        rw [HS2.out, if_neg]
        rintro ⟨h16, hn⟩
        have hN := HN.out h16
        unfold NotYet at hN
        refine hn ?_
        unfold namedA
        rw [if_neg (by omega), if_neg (by omega), if_neg (by omega), if_neg (by omega), if_neg (by omega)])
      clear HS2 HN
      go_wp2_with (first
        | (refine wpList_store_row rfl 67 _ _ rfl _ rfl #[.int .i64 0, .int .i64 0, .int .u64 0] rfl _ _ (K.out.at 0 rfl) rfl (by kernel_rfl) (by simp [Value.oneCell']) ?_)
        | fail)
      intro Wi hbi hbari
      have HB := Lib.hid (hbari.below K.out.below (Nat.le_refl _) K.out.size)
      clear hbari K
      go_wp2_with fail
      exact bodyPost_ret (v := .agg #[.int .i64 0, .int .i64 0, .int .u64 0]) (results_cell_row rfl _ _ w.heap.size _ _ _ _ rfl hbi Try.underlying67 rfl (by kernel_rfl)) rfl ⟨act_ret HRn.out, HB.out⟩
end
section
open Go.RowKit
set_option linter.unusedVariables false
set_option linter.unusedSimpArgs false

theorem ex_at (x y z : List UInt8) : ((str (x ++ (y ++ z))).extract x.length (x.length + y.length)).data.toList = y := by
  rw [str_extract, str_data, Nat.add_sub_cancel_left, List.drop_left, List.take_left]
theorem exN_at (x y z : List UInt8) (a b : Nat) (ha : x.length = a) (hb : a + y.length = b) (hy : y.length ≤ 8) : exN (str (x ++ (y ++ z))) a b = numN y := by
  subst ha hb
  unfold exN
  rw [ex_at, numG_eq _ hy]
theorem oneA_laid (a : Action) (hr : rightX a = true) (h0 : okV a) : oneA (str (laidX a)) = a := by
  obtain ⟨k, f, v⟩ := a
  have hv0 : 0 ≤ v := h0.1
  rcases rightA_cases hr with ⟨rfl, rfl, h1, h2⟩ | ⟨rfl, rfl, h1, h2⟩ | ⟨rfl, rfl, rfl⟩ | ⟨rfl, rfl, rfl⟩ | ⟨rfl, hf⟩
  · have h2' : v ≤ 4294967295 := h2
    have e : laidX ⟨1, 0, v⟩ = [0, 0] ++ ([0, 16] ++ (beL 4 v.toNat ++ [255, 255, 0, 0, 0, 0, 0, 0])) := rfl
    have e1 : exN (str (laidX ⟨1, 0, v⟩)) 0 2 = 0 := by rw [e]; exact exN_at [] [0, 0] _ 0 2 rfl rfl (by decide)
    have e2 : exN (str (laidX ⟨1, 0, v⟩)) 4 8 = v := by
      rw [e, ← List.append_assoc]
      rw [exN_at ([0, 0] ++ [0, 16]) (beL 4 v.toNat) _ 4 8 rfl (by rw [beL_length]) (by rw [beL_length]; decide), numN_beI 4 v hv0 (by simp; omega)]
    unfold oneA
    rw [e1, e2, if_pos rfl]
  · have h2' : v ≤ 4294967295 := h2
    have e : laidX ⟨2, 0, v⟩ = [0, 22] ++ ([0, 8] ++ (beL 4 v.toNat ++ [])) := by show [0, 22, 0, 8] ++ beL 4 v.toNat = _; simp
    have e1 : exN (str (laidX ⟨2, 0, v⟩)) 0 2 = 22 := by rw [e]; exact exN_at [] [0, 22] _ 0 2 rfl rfl (by decide)
    have e2 : exN (str (laidX ⟨2, 0, v⟩)) 4 8 = v := by
      rw [e, ← List.append_assoc]
      rw [exN_at ([0, 22] ++ [0, 8]) (beL 4 v.toNat) _ 4 8 rfl (by rw [beL_length]) (by rw [beL_length]; decide), numN_beI 4 v hv0 (by simp; omega)]
    unfold oneA
    rw [e1, e2, if_neg (by decide), if_pos rfl]
  · have : oneA (str [0, 17, 0, 8, 129, 0, 0, 0]) = ⟨3, 0, 0⟩ := by kernel_rfl
    exact this
  · have : oneA (str [0, 18, 0, 8, 0, 0, 0, 0]) = ⟨4, 0, 0⟩ := by kernel_rfl
    exact this
  · have main : ∀ (c m : UInt8) (n : Nat) (zs : List UInt8), laidA 5 f v = [0, 25, 0, 16, 128, 0] ++ ([c, m] ++ (beL n v.toNat ++ zs)) → n + zs.length = 8 → namedA (c.toNat : Int) = f → f ≠ 0 → (codeF f).2 = (n : Int) → 1 ≤ n ∧ n ≤ 8 → v < ((256 ^ n : Nat) : Int) → oneA (str (laidX ⟨5, f, v⟩)) = ⟨5, f, v⟩ := by
      intro c m n zs e0 hz hn hf0 hcf h18 hv
      have e : laidX ⟨5, f, v⟩ = [0, 25] ++ ([0, 16, 128, 0] ++ ([c, m] ++ (beL n v.toNat ++ zs))) := e0
      have hlen : (laidX ⟨5, f, v⟩).length = 16 := by rw [e]; simp [beL_length]; omega
      have e1 : exN (str (laidX ⟨5, f, v⟩)) 0 2 = 25 := by rw [e]; exact exN_at [] [0, 25] _ 0 2 rfl rfl (by decide)
      have e2 : exN (str (laidX ⟨5, f, v⟩)) 8 (8 + n) = v := by
        have e' : laidX ⟨5, f, v⟩ = ([0, 25] ++ ([0, 16, 128, 0] ++ [c, m])) ++ (beL n v.toNat ++ zs) := by rw [e]; simp
        rw [e', exN_at ([0, 25] ++ ([0, 16, 128, 0] ++ [c, m])) (beL n v.toNat) zs 8 (8 + n) rfl (by rw [beL_length]) (by rw [beL_length]; omega), numN_beI n v hv0 hv]
      have e6 : byteA (str (laidX ⟨5, f, v⟩)) 6 = c.toNat := by
        unfold byteA
        rw [str_data, e]
        rfl
      unfold oneA
      rw [e1, e6, hn, if_neg (by decide), if_neg (by decide), if_neg (by decide), if_neg (by decide), if_pos rfl, if_pos ⟨by rw [str_size]; exact hlen, hf0⟩, hcf]
      simp only [Int.toNat_natCast]
      rw [e2]
    rcases hf with ⟨rfl, h1, h2⟩ | ⟨rfl | rfl, h1⟩ | ⟨rfl | rfl, h1⟩ <;> simp only at h1 <;> (try simp only at h2)
    · exact main 12 2 2 (List.replicate 6 0) rfl rfl (by decide) (by decide) (by decide) (by decide) (by simp; omega)
    · exact main 22 4 4 (List.replicate 4 0) rfl rfl (by decide) (by decide) (by decide) (by decide) (by simp; omega)
    · exact main 24 4 4 (List.replicate 4 0) rfl rfl (by decide) (by decide) (by decide) (by decide) (by simp; omega)
    · exact main 26 2 2 (List.replicate 6 0) rfl rfl (by decide) (by decide) (by decide) (by decide) (by simp; omega)
    · exact main 28 2 2 (List.replicate 6 0) rfl rfl (by decide) (by decide) (by decide) (by decide) (by simp; omega)
/-- Both ways decide alike. -/
theorem good_one (d : ByteArray) : ((rightX (oneA (chunkA d)) = false → goodA d = false) ∧ (¬ str (laidX (oneA (chunkA d))) = chunkA d → goodA d = false) ∧ (rightX (oneA (chunkA d)) = true → str (laidX (oneA (chunkA d))) = chunkA d → goodA d = true ∧ oneA (chunkA d) = seemsA (chunkA d))) := by
  have back : goodA d = true → oneA (chunkA d) = seemsA (chunkA d) ∧ rightX (seemsA (chunkA d)) = true ∧ str (laidX (seemsA (chunkA d))) = chunkA d := by
    intro h
    unfold goodA at h
    simp only [Bool.and_eq_true, decide_eq_true_eq] at h
    refine ⟨?_, h.1, h.2⟩
    conv => lhs; rw [← h.2]
    exact oneA_laid _ h.1 (seemsA_v _)
  refine ⟨fun h => ?_, fun h => ?_, fun h1 h2 => ?_⟩
  · cases hg : goodA d
    · rfl
    · obtain ⟨e, hr, _⟩ := back hg
      rw [e, hr] at h
      cases h
  · cases hg : goodA d
    · rfl
    · obtain ⟨e, _, hl⟩ := back hg
      rw [e] at h
      exact absurd hl h
  · have e : seemsA (chunkA d) = oneA (chunkA d) := by
      conv => lhs; rw [← h2]
      exact seemsA_laid _ h1 (oneA_v _)
    refine ⟨?_, e.symm⟩
    unfold goodA
    rw [e, h1, decide_eq_true h2]
    rfl
theorem exN_len (d : ByteArray) (h : 4 ≤ d.size) : exN d 2 4 = lenD d := by
  rw [← str_of d] at h ⊢
  rw [str_size] at h
  match hd : d.data.toList, h with
  | x0 :: x1 :: x2 :: x3 :: t, _ =>
    have e := exN_at [x0, x1] [x2, x3] t 2 4 rfl rfl (by simp)
    refine e.trans ?_
    rw [lenD_head]
    simp [numN]
theorem exN_kind (d : ByteArray) (h : 2 ≤ d.size) : exN d 0 2 = kindD d := by
  rw [← str_of d] at h ⊢
  rw [str_size] at h
  match hd : d.data.toList, h with
  | x0 :: x1 :: t, _ =>
    have e := exN_at [] [x0, x1] t 0 2 rfl rfl (by simp)
    refine e.trans ?_
    simp [numN, kindD, byteA, str_data]
end
section
open Go.RowKit
set_option linter.unusedVariables false
set_option linter.unusedSimpArgs false

set_option maxRecDepth 100000 in
set_option maxHeartbeats 8000000 in
theorem r6Decode_any (w : World) (d : ByteArray) (hd : d.size ≤ 100000) (N : Nat) (hN : d.size < N) (R : List Action × Int) (hR : decAs N d [] = R) :
    Calls Try.prog 46 #[.string d] w (DecA w R) := by
  have HRR := Lib.hid hR
  have HDs := Lib.hid hd
  have K0 : Hid (Below w.heap.size w w) := Lib.hid (Below.refl _ _)
  have HNN := Lib.hid hN
  clear hR hd hN
  go_enter Try.func46, Try.ntmps46
  go_wp2_with fail
  go_loopg [0, 4] N (fun gg dv ov wr => ∃ (d : ByteArray) (acc : List Action), dv = .string d ∧ Hid (d.size ≤ 100000) ∧ Hid (d.size < gg) ∧ Hid (acc.length ≤ 32) ∧ Hid (decAs gg d acc = R) ∧ Hid (OwnL wr w.heap.size 67 3 encAction ov acc) ∧ Hid (Below w.heap.size w wr))
  case atStart => exact ⟨d, [], rfl, HDs, HNN, Lib.hid (by simp), HRR, Lib.hid (OwnL.nil _ _ _ _ _), K0⟩
  case round =>
    obtain ⟨d1, acc, rfl, HD, HG, HAc, HF, Hown, HB⟩ := hrel
    clear HRR HDs K0 HNN
    obtain ⟨n0, rfl⟩ : ∃ n, gk = n + 1 := ⟨gk - 1, by have := HG.out; omega⟩
    have hF1 := HF.out
    unfold decAs at hF1
    by_cases h0 : d1.size = 0
    · rw [if_pos h0] at hF1
      have e0 : d1 = ⟨#[]⟩ := by
        apply ByteArray.ext
        exact Array.eq_empty_of_size_eq_zero h0
      subst e0
      have HRn := Lib.hid hF1
      clear hF1 HF
      go_wp2_with fail
      go_ret2
      rw [← HRn.out]
      exact ⟨_, rfl, Hown.out, HB.out⟩
    rw [if_neg h0] at hF1
    have t0 : d1.toList.isEmpty = false := by
      rw [ByteArray.toList_eq]
      cases h : d1.data.toList with
      | nil => exact absurd (by have := congrArg List.length h; simpa using this) h0
      | cons a l => rfl
    by_cases h4 : d1.size < 4
    · rw [if_pos h4] at hF1
      have t1 : decide ((d1.size : Int) < 4) = true := by simp; omega
      have HRn := Lib.hid hF1
      clear hF1 HF h4 h0
      go_wp2_with fail
      go_ret2
      rw [← HRn.out]
      exact ⟨_, rfl, OwnL.nil _ _ _ _ _, HB.out⟩
    rw [if_neg h4] at hF1
    have t1 : decide ((d1.size : Int) < 4) = false := by simp; omega
    have i4 : (4 : Int) ≤ d1.size := by omega
    have HFn := Lib.hid hF1
    have HNm : Hid (∀ W : World, Calls Try.prog 30 #[.string (d1.extract 2 4)] W fun x w' => x = .returned (.int .u64 (lenD d1 : Int)) ∧ W = w') := Lib.hid (fun W => by
      have := exNum W d1 2 4 (by decide)
      rw [exN_len d1 (by omega)] at this
      exact this)
    have hn : lenD d1 ≤ 65535 := by have h2 := byteA_le d1 2; have h3 := byteA_le d1 3; unfold lenD; omega
    have HN : Hid (chunkA d1 = d1.extract 0 (lenD d1)) := Lib.hid rfl
    have w2 : IntKind.i64.wrap ((lenD d1 : Nat) : Int) = lenD d1 := i64_wrap_in (by omega) (by omega)
    clear hF1 HF h0
    have HGd0 := Lib.hid (good_one d1)
    generalize lenD d1 = n at *
    go_wp2_with fail
    refine (HNm.out _).mono ?_
    rintro x w' ⟨rfl, rfl⟩
    clear HNm
    have e0 : (0 : Int) ≤ n := by omega
    have hF2 := HFn.out
    clear HFn
    by_cases h5 : d1.size < n
    · have d2 : decide (d1.size < n) = true := by simp; omega
      rw [if_pos h5] at hF2
      have HRn := Lib.hid hF2
      clear hF2 h5 HGd0
      go_wp2_with fail
      go_ret2
      rw [← HRn.out]
      exact ⟨_, rfl, OwnL.nil _ _ _ _ _, HB.out⟩
    rw [if_neg h5] at hF2
    have d2 : decide (d1.size < n) = false := by simp; omega
    by_cases h6 : n < 8
    · have d3 : decide ((n : Int) < 8) = true := by simp; omega
      rw [if_pos h6] at hF2
      have HRn := Lib.hid hF2
      clear hF2 h5 h6 HGd0
      go_wp2_with fail
      go_ret2
      rw [← HRn.out]
      exact ⟨_, rfl, OwnL.nil _ _ _ _ _, HB.out⟩
    rw [if_neg h6] at hF2
    have d3 : decide ((n : Int) < 8) = false := by simp; omega
    have e1 : n ≤ d1.size := by omega
    have e3 : (n : Int) ≤ d1.size := by omega
    have HF3 := Lib.hid hF2
    clear hF2 h5
    have HS := Lib.hid (fun W => one_any W (d1.extract 0 n) (by rw [ByteArray.size_extract]; omega) (by have := HD.out; rw [ByteArray.size_extract]; omega))
    rw [← HN.out] at HS
    have hv := oneA_v (chunkA d1)
    generalize goodA d1 = G at *
    generalize hch : chunkA d1 = ch at *
    clear hch
    generalize hsm : seemsA ch = sm at *
    clear hsm
    generalize oneA ch = ax at *
    have HRt : Hid (∀ W : World, _) := Lib.hid (fun W => rright_any W ax.fKind ax.fField ax.fValue hv.1 hv.2)
    have HLd : Hid (rightX ax = true → ∀ W : World, _) := Lib.hid (fun hr W => r6bytes_any W ax.fKind ax.fField ax.fValue hr hv.1)
    obtain ⟨a1, a2, a3⟩ := ax
    simp only [rightX, laidX, encAction] at HRt HLd HGd0 HS
    clear hv
    generalize hrr : rightA a1 a2 a3 = RR at *
    obtain ⟨LA, hLA⟩ : ∃ LA, LA = laidA a1 a2 a3 := ⟨_, rfl⟩
    rw [← hLA] at HGd0 HLd
    clear hrr hLA
    have K : Hid (KR w.heap.size w [] wr) := Lib.hid (KR.start HB.out HB.out.size)
    have K : Hid (KS w.heap.size w [] wr wr) := Lib.hid (KS.start K.out)
    go_wp2_with fail
    rw [← HN.out]
    refine (HS.out _).mono ?_
    rintro e w2 ⟨rfl, hb⟩
    have hbL := Lib.hid ((K.out.2.trans (hb.mono K.out.2.size)))
    have K := Lib.hid (K.out.1.call hb)
    clear hb HS
    go_wp2_with (first
      | (refine wpList_store_row rfl 67 _ _ rfl _ rfl #[.int .i64 a1, .int .i64 a2, .int .u64 a3] rfl _ _ ((K.out.box _ _).at 0 rfl) rfl (by kernel_rfl) (by simp [Value.oneCell']) ?_)
      | fail)
    intro Wi hbi hbari
    have HOwn2 : Hid (OwnL Wi w.heap.size 67 3 encAction u4 acc) := Lib.hid ((Hown.out.below (hbL.out.trans ((Below.refl w2.heap.size w2).mono hbL.out.size)) (fun k hk => (Hown.out.block k hk).2)).bar ((Bar.of_below ((Below.refl w2.heap.size w2).alloc (Nat.le_refl _) _)).trans hbari) (fun k hk => by have := (Hown.out.block k hk).2; have := hbL.out.size; omega))
    replace K := Lib.hid (K.out.into hbari hbi)
    clear hbi hbari Hown hbL
    generalize w2.heap.size = gb at *
    have K : Hid (KS w.heap.size w [(gb, 67, #[.int .i64 a1, .int .i64 a2, .int .u64 a3])] Wi Wi) := Lib.hid (KS.start K.out)
    cases RR
    case false =>
      have hG := HGd0.out.1 rfl
      have hF4 := HF3.out
      rw [if_pos hG] at hF4
      have HRn := Lib.hid hF4
      clear hF4 HF3 hG HGd0 HLd
      haveI : Nonempty (Keep (KS w.heap.size w [(gb, 67, #[.int .i64 a1, .int .i64 a2, .int .u64 a3])] Wi)) := ⟨⟨_, K.out⟩⟩
      go_upto_region 11 with fail
      refine wp_region_keep2 (Cl := KS w.heap.size w [(gb, 67, #[.int .i64 a1, .int .i64 a2, .int .u64 a3])] Wi) (by kernel_rfl) (by kernel_rfl) K.out.drew ?_
      intro y' hy'
      have g3_ := fun tmps => hy' tmps 3 29 rfl
      have gb_ := yl_bool
      clear hy' K
      repeat
        first
          | (refine wpQ2_rowk _ _ rfl _ (fun W h => run_loadVar_row W _ _ 67 _ (0, 0) _ (KS.at h 0 rfl) Try.underlying67 rfl (by kernel_rfl)) ?_ ?_
             · (go_simp; done))
          | (refine wpQ2_step (fun K hK => ?_)
             go_simp
             first
               | (refine hK _ ?_; clear hK K)
               | (apply Exists.intro
                  refine ⟨fun _ => ?_, hK _ ?_⟩
                  (rw [if_neg (by omega)]; exact ⟨rfl, rfl⟩)
                  clear hK K)
               | (apply Exists.intro
                  refine ⟨fun _ => ?_, hK _ ?_⟩
                  ((with_reducible refine Calls.keep (HRt.out _) ?_); exact (fun w' hb => KS.call (Keep.h _) hb))
                  clear hK K))
      refine wpQ2_nil ?_
      intro Wk Kk
      have K := Lib.hid Kk
      clear Kk
      clear gb_ g3_
      go_wp2_with fail
      go_ret2
      rw [← HRn.out]
      exact ⟨_, rfl, OwnL.nil _ _ _ _ _, K.out.1.below⟩
    by_cases hq : str LA = ch
    case neg =>
      have hG := HGd0.out.2.1 hq
      have hF4 := HF3.out
      rw [if_pos hG] at hF4
      have HRn := Lib.hid hF4
      have tq : (LA == (d1.extract 0 n).toList) = false := by
        have h1 := list_ne hq
        rw [HN.out, ByteArray.toList_eq, str_data] at h1
        exact h1
      have HLd2 := Lib.hid (HLd.out rfl)
      clear hF4 HF3 hG HGd0 HLd hq
      haveI : Nonempty (Keep (KS w.heap.size w [(gb, 67, #[.int .i64 a1, .int .i64 a2, .int .u64 a3])] Wi)) := ⟨⟨_, K.out⟩⟩
      go_upto_region 11 with fail
      refine wp_region_keep2 (Cl := KS w.heap.size w [(gb, 67, #[.int .i64 a1, .int .i64 a2, .int .u64 a3])] Wi) (by kernel_rfl) (by kernel_rfl) K.out.drew ?_
      intro y' hy'
      have g3_ := fun tmps => hy' tmps 3 29 rfl
      have gb_ := yl_bool
      clear hy' K
      repeat
        first
          | (refine wpQ2_rowk _ _ rfl _ (fun W h => run_loadVar_row W _ _ 67 _ (0, 0) _ (KS.at h 0 rfl) Try.underlying67 rfl (by kernel_rfl)) ?_ ?_
             · (go_simp; done))
          | (refine wpQ2_step (fun K hK => ?_)
             go_simp
             first
               | (refine hK _ ?_; clear hK K)
               | (apply Exists.intro
                  refine ⟨fun _ => ?_, hK _ ?_⟩
                  (rw [if_neg (by omega)]; exact ⟨rfl, rfl⟩)
                  clear hK K)
               | (apply Exists.intro
                  refine ⟨fun _ => ?_, hK _ ?_⟩
                  ((with_reducible refine Calls.keep (HRt.out _) ?_); exact (fun w' hb => KS.call (Keep.h _) hb))
                  clear hK K)
               | (apply Exists.intro
                  refine ⟨fun _ => ?_, hK _ ?_⟩
                  ((with_reducible refine Calls.keep (HLd2.out _) ?_); exact (fun w' hb => KS.call (Keep.h _) hb))
                  clear hK K))
      refine wpQ2_nil ?_
      intro Wk Kk
      have K := Lib.hid Kk
      clear Kk
      clear gb_ g3_
      go_wp2_with fail
      go_ret2
      rw [← HRn.out]
      exact ⟨_, rfl, OwnL.nil _ _ _ _ _, K.out.1.below⟩
    obtain ⟨hG, hsm⟩ := HGd0.out.2.2 rfl hq
    have hF4 := HF3.out
    rw [if_neg (by rw [hG]; decide)] at hF4
    have tq : (LA == (d1.extract 0 n).toList) = true := by
      rw [← HN.out, ← hq, ByteArray.toList_eq, str_data]; simp
    have HLd2 := Lib.hid (HLd.out rfl)
    have HF4 := Lib.hid hF4
    have HSm := Lib.hid hsm
    clear hF4 HF3 hG HGd0 HLd hq hsm
    haveI : Nonempty (Keep (KS w.heap.size w [(gb, 67, #[.int .i64 a1, .int .i64 a2, .int .u64 a3])] Wi)) := ⟨⟨_, K.out⟩⟩
    go_upto_region 11 with fail
    refine wp_region_keep2 (Cl := KS w.heap.size w [(gb, 67, #[.int .i64 a1, .int .i64 a2, .int .u64 a3])] Wi) (by kernel_rfl) (by kernel_rfl) K.out.drew ?_
    intro y' hy'
    have g3_ := fun tmps => hy' tmps 3 29 rfl
    have gb_ := yl_bool
    clear hy' K
    repeat
      first
        | (refine wpQ2_rowk _ _ rfl _ (fun W h => run_loadVar_row W _ _ 67 _ (0, 0) _ (KS.at h 0 rfl) Try.underlying67 rfl (by kernel_rfl)) ?_ ?_
           · (go_simp; done))
        | (refine wpQ2_step (fun K hK => ?_)
           go_simp
           first
             | (refine hK _ ?_; clear hK K)
             | (apply Exists.intro
                refine ⟨fun _ => ?_, hK _ ?_⟩
                (rw [if_neg (by omega)]; exact ⟨rfl, rfl⟩)
                clear hK K)
             | (apply Exists.intro
                refine ⟨fun _ => ?_, hK _ ?_⟩
                ((with_reducible refine Calls.keep (HRt.out _) ?_); exact (fun w' hb => KS.call (Keep.h _) hb))
                clear hK K)
             | (apply Exists.intro
                refine ⟨fun _ => ?_, hK _ ?_⟩
                ((with_reducible refine Calls.keep (HLd2.out _) ?_); exact (fun w' hb => KS.call (Keep.h _) hb))
                clear hK K))
    refine wpQ2_nil ?_
    intro Wk Kk
    have K := Lib.hid Kk
    clear Kk
    clear gb_ g3_
    clear HRt HLd2 tq
    have HOw := Lib.hid (HOwn2.out.below K.out.2 (fun k hk => (HOwn2.out.block k hk).2))
    have K2 := Lib.hid K.out.1
    clear K HOwn2
    have K := K2
    clear K2
    have HBk := Lib.hid K.out.below
    have haL := HAc.out
    go_wp2_with (first
      | (refine wpList_load_row rfl 67 _ rfl _ rfl _ _ _ _ (K.out.at 0 rfl) Try.underlying67 rfl (by kernel_rfl) ?_)
      | (at_builtin; go_must (refine app_one HOw.out (⟨a1, a2, a3⟩ : Action) Try.underlying23 actInfo rfl (by decide) encAction_len encAction_one' rfl rfl rfl rfl ?c1 ?c2 ?c3 ?_))
      | fail)
    case c1 => omega
    case c2 => omega
    case c3 => exact HBk.out.size
    intro v' w3 hown3 hgrow3 _
    have HO3 := Lib.hid hown3
    have HB3 := Lib.hid (below_grown HBk.out hgrow3 HBk.out.size HOw.out)
    clear hown3 hgrow3 K HOw HBk
    obtain ⟨oa, oc, hov, hoc1, hoc2⟩ := HO3.out.slice
    have hll : (acc ++ [(⟨a1, a2, a3⟩ : Action)]).length = acc.length + 1 := by simp
    rw [hll] at hov hoc1
    subst hov
    clear hll
    by_cases h32 : acc.length = 32
    · have hF5 := HF4.out
      rw [if_pos h32] at hF5
      have HRn := Lib.hid hF5
      have t5 : decide ((32 : Int) < ((acc.length + 1 : Nat) : Int)) = true := by simp; omega
      clear hF5 HF4 h32
      generalize acc.length + 1 = m1 at *
      go_wp2_with fail
      go_ret2
      rw [← HRn.out]
      exact ⟨_, rfl, OwnL.nil _ _ _ _ _, HB3.out⟩
    · have hF5 := HF4.out
      rw [if_neg h32] at hF5
      have HFn := Lib.hid hF5
      have t5 : decide ((32 : Int) < ((acc.length + 1 : Nat) : Int)) = false := by simp; omega
      have HL31 : Hid (acc.length + 1 ≤ 32) := Lib.hid (by omega)
      have HM1 : Hid ((acc ++ [(⟨a1, a2, a3⟩ : Action)]).length ≤ 32) := Lib.hid (by simp; omega)
      clear hF5 HF4 h32 haL
      generalize acc.length + 1 = m1 at *
      go_wp2_with fail
      go_roundg n0
      case measure => omega
      case rel => exact ⟨_, _, rfl, Lib.hid (by have := HD.out; rw [ByteArray.size_extract]; omega), Lib.hid (by have := HG.out; rw [ByteArray.size_extract]; omega), HM1, Lib.hid (by have e := HFn.out; rw [← HSm.out] at e; exact e), HO3, HB3⟩
end
end Go.Proofs.Ytdjhbahiiabimaa
