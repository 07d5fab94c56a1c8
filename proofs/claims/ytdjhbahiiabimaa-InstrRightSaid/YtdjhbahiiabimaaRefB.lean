/- The reference's and the law's small functions: few, code, size. -/
import Derived.Test.YtdjhbahiiabimaaInsB
namespace Go.Proofs.Ytdjhbahiiabimaa
open Go.RowKit
set_option linter.unusedVariables false
set_option linter.unusedSimpArgs false

def fewE (x : Entry) : Bool := decide (x.fApply.length ≤ 60) && decide (x.fWrite.length ≤ 60)
set_option maxRecDepth 100000 in
set_option maxHeartbeats 4000000 in
theorem few_any (w : World) (x : Entry) (hA : ReadL w 3 encAction x.vApply x.fApply) (hW : ReadL w 3 encAction x.vWrite x.fWrite) : Calls Try.prog 8 #[valEntry x] w fun e w' => e = .returned (.bool (fewE x)) ∧ Below w.heap.size w w' := by
  obtain ⟨aa, ac, hva, _, _⟩ := hA.slice
  obtain ⟨wa, wcap, hvw, _, _⟩ := hW.slice
  have HF : Hid (fewE x = _) := Lib.hid (by unfold fewE; rfl)
  generalize fewE x = F at *
  obtain ⟨tb, pr, vT, fT, vA, fA, vW, fW, cl, me, mk, mt, gt⟩ := x
  simp only at *
  subst hva hvw
  clear hA hW
  generalize fA.length = n1 at *
  generalize fW.length = n2 at *
  by_cases h1 : n1 ≤ 60
  · have t1 : decide ((n1 : Int) ≤ 60) = true := decide_eq_true (by omega)
    by_cases h2 : n2 ≤ 60
    · have t2 : decide ((n2 : Int) ≤ 60) = true := decide_eq_true (by omega)
      have hF : F = true := by rw [HF.out]; simp [h1, h2]
      subst hF
      clear h1 h2 HF
      go_enter Try.func8, Try.ntmps8
      go_upto_region 1 with fail
      refine one_box_wp ?_
      intro W hb1 hbel hsz
      have K : Hid (KR w.heap.size w [(w.heap.size, 26, entC tb pr vT (.slice aa n1 ac) (.slice wa n2 wcap) cl me mk mt gt)] W) := Lib.hid ((KR.start hbel hbel.size).add hb1)
      clear hb1 hbel hsz
      have c3 := (K.out.at 0 rfl).cell 3 _ rfl
      have c4 := (K.out.at 0 rfl).cell 4 _ rfl
      go_wp2_with fail
      go_ret
      exact ⟨rfl, K.out.below⟩
    · have t2 : decide ((n2 : Int) ≤ 60) = false := decide_eq_false (by omega)
      have hF : F = false := by rw [HF.out]; simp [h1, h2]
      subst hF
      clear h1 h2 HF
      go_enter Try.func8, Try.ntmps8
      go_upto_region 1 with fail
      refine one_box_wp ?_
      intro W hb1 hbel hsz
      have K : Hid (KR w.heap.size w [(w.heap.size, 26, entC tb pr vT (.slice aa n1 ac) (.slice wa n2 wcap) cl me mk mt gt)] W) := Lib.hid ((KR.start hbel hbel.size).add hb1)
      clear hb1 hbel hsz
      have c3 := (K.out.at 0 rfl).cell 3 _ rfl
      have c4 := (K.out.at 0 rfl).cell 4 _ rfl
      go_wp2_with fail
      go_ret
      exact ⟨rfl, K.out.below⟩
  · have t1 : decide ((n1 : Int) ≤ 60) = false := decide_eq_false (by omega)
    have hF : F = false := by rw [HF.out]; simp [h1]
    subst hF
    clear h1 HF
    go_enter Try.func8, Try.ntmps8
    go_upto_region 1 with fail
    refine one_box_wp ?_
    intro W hb1 hbel hsz
    have K : Hid (KR w.heap.size w [(w.heap.size, 26, entC tb pr vT (.slice aa n1 ac) (.slice wa n2 wcap) cl me mk mt gt)] W) := Lib.hid ((KR.start hbel hbel.size).add hb1)
    clear hb1 hbel hsz
    have c3 := (K.out.at 0 rfl).cell 3 _ rfl
    have c4 := (K.out.at 0 rfl).cell 4 _ rfl
    go_wp2_with fail
    go_ret
    exact ⟨rfl, K.out.below⟩
end Go.Proofs.Ytdjhbahiiabimaa
