/- The walk of FrameParses. -/
import Derived.Test.YthihncfmimkimaaFrameRG
namespace Go.Proofs.Ythihncfmimkimaa
open Go.RowKit
set_option linter.unusedVariables false
set_option linter.unusedSimpArgs false

set_option maxRecDepth 100000 in
set_option maxHeartbeats 8000000 in
theorem FrameParses_walk (w : World) (s : ByteArray) (hs : s.size ≤ 140737488351232) :
    Calls Try.prog 4 #[.string s] w fun x w' => x = .returned (.bool true) ∧ Below w.heap.size w w' := by
  have HA := Lib.hid awake03
  by_cases h1 : 3000 < s.size
  · have t1 : decide ((3000 : Int) < (s.size : Int)) = true := decide_eq_true (by omega)
    clear h1
    go_enter Try.func4, Try.ntmps4
    go_wp2_with fail
    refine (HA.out _).mono ?_
    rintro x w1 ⟨rfl, b1⟩
    go_wp2_with fail
    go_ret
    exact ⟨rfl, b1⟩
  · have t1 : decide ((3000 : Int) < (s.size : Int)) = false := decide_eq_false (by omega)
    have HP1 := Lib.hid (fun W => Parse_any W s hs)
    have hle : s.data.toList.length ≤ 3000 := by
      have h : s.data.toList.length = s.size := rfl
      omega
    have HP2 := Lib.hid (fun W => rParse_any W s.data.toList hle)
    have e := parse_both s.data.toList
    rw [str_of s] at e HP2
    rw [← e] at HP2
    clear e h1 hle
    generalize parseF s.data.toList (seemsP s) = R at *
    obtain ⟨q, f⟩ := R
    have oneQ := one25 q
    have HE := Lib.hid (eq_pkt q)
    have e2 : (f == f) = true := by simp
    have K : Hid (KR w.heap.size w [] w) := Lib.hid (KR.start (Below.refl _ w) (Nat.le_refl _))
    go_enter Try.func4, Try.ntmps4
    go_wp2_with fail
    refine (HP1.out _).mono ?_
    rintro x w1 ⟨rfl, b1⟩
    replace K := Lib.hid (K.out.call b1)
    clear b1 HP1
    go_wp2_with (first
      | (refine wpList_store_row rfl 25 _ _ rfl _ rfl (pktC q) rfl _ _ ((K.out.box _ _).at 0 rfl) rfl (by kernel_rfl) oneQ ?_)
      | fail)
    intro Wi hbi hbari
    replace K := Lib.hid (K.out.into hbari hbi)
    clear hbi hbari
    generalize w1.heap.size = g1 at *
    go_wp2_with fail
    refine (HP2.out _).mono ?_
    rintro x w2 ⟨rfl, b2⟩
    replace K := Lib.hid (K.out.call b2)
    clear b2 HP2
    go_wp2_with (first
      | (refine wpList_store_row rfl 25 _ _ rfl _ rfl (pktC q) rfl _ _ ((K.out.box _ _).at 0 rfl) rfl (by kernel_rfl) oneQ ?_)
      | fail)
    intro Wi hbi hbari
    replace K := Lib.hid (K.out.into hbari hbi)
    clear hbi hbari
    generalize w2.heap.size = g2 at *
    have hE := HE.out
    go_wp2_with (first
      | (refine wpList_row 25 _ rfl (by rfl) _ _ rfl _ (run_loadVar_row _ _ _ 25 _ (0, 0) _ (K.out.at 0 rfl) Try.underlying25 rfl (by kernel_rfl)) ?_)
      | (refine wpList_row 25 _ rfl (by rfl) _ _ rfl _ (run_loadVar_row _ _ _ 25 _ (0, 0) _ (K.out.at 1 rfl) Try.underlying25 rfl (by kernel_rfl)) ?_)
      | fail)
    refine (HA.out _).mono ?_
    rintro x w3 ⟨rfl, b3⟩
    go_wp2_with fail
    go_ret
    exact ⟨rfl, (K.out.call b3).below⟩
end Go.Proofs.Ythihncfmimkimaa
