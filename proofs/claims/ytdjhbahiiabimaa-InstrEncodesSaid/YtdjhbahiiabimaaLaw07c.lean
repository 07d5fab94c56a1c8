/- InstrEncodes. -/
import Derived.Test.YtdjhbahiiabimaaLaw07b
namespace Go.Proofs.Ytdjhbahiiabimaa
open Go.RowKit
set_option linter.unusedVariables false
set_option linter.unusedSimpArgs false

theorem r7Encode_any (w : World) (x : Entry) (h : EntOk w x) : Calls Try.prog 13 #[valEntry x] w fun e w' => e = .returned (.tuple #[.string (str (encR x).1), .int .i64 (encR x).2]) ∧ Below w.heap.size w w' :=
  r7Encode_of w x h (Lib.hid (fun W hb => r7Right_any W x (h.below hb (Nat.le_refl _))))
set_option maxRecDepth 100000 in
set_option maxHeartbeats 8000000 in
theorem InstrEncodes_walk (w : World) (x : Entry) (hok : okEntry w x) : Calls Try.prog 4 #[valEntry x] w fun e w' => e = .returned (.bool true) ∧ Below w.heap.size w w' := by
  have HA := Lib.hid awake07
  have HFw : Hid (∀ W : World, Below w.heap.size w W → _) := Lib.hid (fun W hb => few_any W x (hok.2.2.2.1.1.below hb (Nat.le_refl _)) (hok.2.2.2.2.1.1.below hb (Nat.le_refl _)))
  have HR : Hid (fewE x = true → ∀ W : World, Below w.heap.size w W → _) := Lib.hid (fun hf W hb => IEncode_any W x ((entOk_of hok hf).below hb (Nat.le_refl _)))
  have HR' : Hid (fewE x = true → ∀ W : World, Below w.heap.size w W → _) := Lib.hid (fun hf W hb => r7Encode_any W x ((entOk_of hok hf).below hb (Nat.le_refl _)))
  generalize encR x = R at *
  obtain ⟨R1, R2⟩ := R
  generalize fewE x = F at *
  obtain ⟨tb, pr, vT, fT, vA, fA, vW, fW, cl, me, mk, mt, gt⟩ := x
  (try simp only at *)
  clear hok
  go_enter Try.func4, Try.ntmps4
  go_upto_region 1 with fail
  refine one_box_wp ?_
  intro W hb1 hbel hsz
  have K : Hid (KR w.heap.size w [(w.heap.size, 26, entC tb pr vT vA vW cl me mk mt gt)] W) := Lib.hid ((KR.start hbel hbel.size).add hb1)
  clear hb1 hbel hsz
  go_wp2_with (first
    | (refine wpList_load_row rfl 26 _ rfl _ rfl _ _ _ _ (K.out.at 0 rfl) Try.underlying26 rfl (by kernel_rfl) ?_)
    | fail)
  refine (HFw.out _ K.out.below).mono ?_
  rintro e w1 ⟨rfl, hb⟩
  replace K := Lib.hid (K.out.call hb)
  clear hb HFw
  cases F
  · clear HR HR'
    go_wp2_with fail
    refine (HA.out _).mono ?_
    rintro e w2 ⟨rfl, hb⟩
    replace K := Lib.hid (K.out.call hb)
    clear hb
    go_wp2_with fail
    go_ret
    exact ⟨rfl, K.out.below⟩
  · replace HR := Lib.hid (HR.out rfl)
    replace HR' := Lib.hid (HR'.out rfl)
    go_wp2_with (first
      | (refine wpList_load_row rfl 26 _ rfl _ rfl _ _ _ _ (K.out.at 0 rfl) Try.underlying26 rfl (by kernel_rfl) ?_)
      | fail)
    refine (HR.out _ K.out.below).mono ?_
    rintro e w2 ⟨rfl, hb⟩
    replace K := Lib.hid (K.out.call hb)
    clear hb HR
    go_wp2_with (first
      | (refine wpList_load_row rfl 26 _ rfl _ rfl _ _ _ _ (K.out.at 0 rfl) Try.underlying26 rfl (by kernel_rfl) ?_)
      | fail)
    refine (HR'.out _ K.out.below).mono ?_
    rintro e w3 ⟨rfl, hb⟩
    replace K := Lib.hid (K.out.call hb)
    clear hb HR'
    go_wp2_with fail
    refine (HA.out _).mono ?_
    rintro e w4 ⟨rfl, hb⟩
    replace K := Lib.hid (K.out.call hb)
    clear hb
    go_wp2_with fail
    go_ret
    exact ⟨rfl, K.out.below⟩
end Go.Proofs.Ytdjhbahiiabimaa
