/- InstrGoes; the chapter's examples. -/
import Derived.Test.YtdjhbahiiabimaaInsI
import Derived.Test.YtdjhbahiiabimaaInsJ
namespace Go.Proofs.Ytdjhbahiiabimaa
open Go.RowKit
set_option linter.unusedVariables false
set_option linter.unusedSimpArgs false

set_option maxRecDepth 100000 in
set_option maxHeartbeats 4000000 in
theorem awake07 (w : World) : Calls Try.prog 11 #[] w fun x w' => x = .returned (.bool true) ∧ Below w.heap.size w w' := by
  have HE := Lib.hid (fun W => IEncode_any W ⟨0, 0, .slice none 0 0, [], .slice none 0 0, [], .slice none 0 0, [], false, 0, 0, 0, 2⟩ (ok_goto W 0 2))
  rw [enc2_awake] at HE
  have HD := Lib.hid (fun W => IDecode_any W 2 ⟨#[0, 1, 0, 8, 2, 0, 0, 0]⟩ (by show (8 : Nat) ≤ 100000; decide) (noPart, 23) (by rw [← dec2_awake]; rfl))
  have hs : str [0, 1, 0, 8, 2, 0, 0, 0] = ⟨#[0, 1, 0, 8, 2, 0, 0, 0]⟩ := rfl
  rw [hs] at HE
  clear hs
  go_enter Try.func11, Try.ntmps11
  go_wp2_with fail
  refine (HE.out _).mono ?_
  rintro e w1 ⟨rfl, hb⟩
  have HB := Lib.hid hb
  clear hb HE
  go_wp2_with fail
  refine (HD.out _).mono ?_
  rintro e w2 ⟨vA, vW, rfl, hoA, hoW, hb⟩
  have oA : vA.oneCell' = true := by obtain ⟨aa, ac, hva, _, _⟩ := hoA.slice; rw [hva]; rfl
  have oW : vW.oneCell' = true := by obtain ⟨aa, ac, hva, _, _⟩ := hoW.slice; rw [hva]; rfl
  have HO := Lib.hid (And.intro oA oW)
  have HB2 := Lib.hid (HB.out.trans (hb.mono HB.out.size))
  clear hb HD hoA hoW oA oW HB
  go_wp2_with (first
    | (refine wpList_store_row rfl 26 _ _ rfl _ rfl (entC 0 0 (.slice none 0 0) vA vW noPart.cl noPart.me noPart.ma noPart.mt noPart.gt) rfl _ _ (BlkAt.new w2 26 _) rfl (by kernel_rfl) (by simp [Value.oneCell']; exact ⟨HO.out.1, HO.out.2⟩) ?_)
    | fail)
  intro Wj hbj hbarj
  have HBj := Lib.hid (hbarj.below (HB2.out.alloc HB2.out.size (.cells #[.int .i64 0, .int .i64 0, .slice none 0 0, .slice none 0 0, .slice none 0 0, .bool false, .int .u64 0, .int .u64 0, .int .i64 0, .int .i64 0] 26)) HB2.out.size (by have := HB2.out.size; simp; omega))
  clear hbarj HB2 hbj
  go_wp2_with fail
  go_ret
  exact ⟨rfl, HBj.out⟩
set_option maxRecDepth 100000 in
set_option maxHeartbeats 8000000 in
theorem InstrGoes_walk (w : World) (a : Int) (wa : (Lit.int .i64 a).wf = true) (b : Int) (wb : (Lit.int .i64 b).wf = true) : Calls Try.prog 7 #[.int .i64 a, .int .i64 b] w fun x w' => x = .returned (.bool true) ∧ Below w.heap.size w w' := by
  clear wa wb
  have HA := Lib.hid awake07
  by_cases h : a < 0 ∨ 7 < a
  · have HR := Lib.hid (fun W => Right_any W ⟨a, 0, .slice none 0 0, [], .slice none 0 0, [], .slice none 0 0, [], false, 0, 0, 0, b⟩ (ok_goto W a b))
    rw [rightE_bad a b h] at HR
    have HE := Lib.hid (fun W => IEncode_any W ⟨a, 0, .slice none 0 0, [], .slice none 0 0, [], .slice none 0 0, [], false, 0, 0, 0, 0⟩ (ok_goto W a 0))
    rw [enc0_bad a h] at HE
    have main : ∀ t : Bool, decide (a < 0) = t → (t = false → decide (7 < a) = true) → Calls Try.prog 7 #[.int .i64 a, .int .i64 b] w fun x w' => x = .returned (.bool true) ∧ Below w.heap.size w w' := by
      intro t ht h7
      clear h
      cases t
      · replace h7 := h7 rfl
        go_enter Try.func7, Try.ntmps7
        go_wp2_with fail
        refine (HR.out _).mono ?_
        rintro e w1 ⟨rfl, hb⟩
        have HB := Lib.hid hb
        clear hb HR
        go_wp2_with fail
        refine (HE.out _).mono ?_
        rintro e w2 ⟨rfl, hb⟩
        have HB2 := Lib.hid (HB.out.trans (hb.mono HB.out.size))
        clear hb HE HB
        go_wp2_with fail
        refine (HA.out _).mono ?_
        rintro e w3 ⟨rfl, hb⟩
        have HB3 := Lib.hid (HB2.out.trans (hb.mono HB2.out.size))
        clear hb HA HB2
        go_wp2_with fail
        go_ret
        exact ⟨rfl, HB3.out⟩
      · clear h7
        go_enter Try.func7, Try.ntmps7
        go_wp2_with fail
        refine (HR.out _).mono ?_
        rintro e w1 ⟨rfl, hb⟩
        have HB := Lib.hid hb
        clear hb HR
        go_wp2_with fail
        refine (HE.out _).mono ?_
        rintro e w2 ⟨rfl, hb⟩
        have HB2 := Lib.hid (HB.out.trans (hb.mono HB.out.size))
        clear hb HE HB
        go_wp2_with fail
        refine (HA.out _).mono ?_
        rintro e w3 ⟨rfl, hb⟩
        have HB3 := Lib.hid (HB2.out.trans (hb.mono HB2.out.size))
        clear hb HA HB2
        go_wp2_with fail
        go_ret
        exact ⟨rfl, HB3.out⟩
    exact main (decide (a < 0)) rfl (fun h0 => decide_eq_true (h.resolve_left (of_decide_eq_false h0)))
  have HR := Lib.hid (fun W => Right_any W ⟨a, 0, .slice none 0 0, [], .slice none 0 0, [], .slice none 0 0, [], false, 0, 0, 0, b⟩ (ok_goto W a b))
  rw [rightE_go a b h] at HR
  have HE := Lib.hid (fun W => IEncode_any W ⟨a, 0, .slice none 0 0, [], .slice none 0 0, [], .slice none 0 0, [], false, 0, 0, 0, 0⟩ (ok_goto W a 0))
  rw [enc0 a h] at HE
  have t1 : decide (a < 0) = false := decide_eq_false (by omega)
  have t2 : decide (7 < a) = false := decide_eq_false (by omega)
  clear h
  have main : ∀ (z g l : Bool) (R : Int), (b == 0) = z → decide (a < b) = g → decide (b ≤ 7) = l → R = (if (z || (g && l)) = true then 0 else 23) → Hid (∀ W, Calls Try.prog 9 #[.agg (entC a 0 (.slice none 0 0) (.slice none 0 0) (.slice none 0 0) false 0 0 0 b)] W fun e w' => e = .returned (.int .i64 R) ∧ Below W.heap.size W w') → Calls Try.prog 7 #[.int .i64 a, .int .i64 b] w fun x w' => x = .returned (.bool true) ∧ Below w.heap.size w w' := by
    intro z g l R hz hg hl hR HR
    cases z <;> cases g <;> cases l <;> simp at hR <;> subst hR
    all_goals
      go_enter Try.func7, Try.ntmps7
      go_wp2_with fail
      refine (HR.out _).mono ?_
      rintro e w1 ⟨rfl, hb⟩
      have HB := Lib.hid hb
      clear hb HR
      go_wp2_with fail
      refine (HE.out _).mono ?_
      rintro e w2 ⟨rfl, hb⟩
      have HB2 := Lib.hid (HB.out.trans (hb.mono HB.out.size))
      clear hb HE HB
      go_wp2_with fail
      refine (HA.out _).mono ?_
      rintro e w3 ⟨rfl, hb⟩
      have HB3 := Lib.hid (HB2.out.trans (hb.mono HB2.out.size))
      clear hb HA HB2
      go_wp2_with fail
      go_ret
      exact ⟨rfl, HB3.out⟩
  refine main _ _ _ _ rfl rfl rfl ?_ HR
  by_cases hg : b = 0 ∨ a < b ∧ b ≤ 7
  · rw [if_pos hg, if_pos (by simpa using hg)]
  · rw [if_neg hg, if_neg (by simpa using hg)]
end Go.Proofs.Ytdjhbahiiabimaa
