/- GroupNil: a nil table has nothing. -/
import Derived.Test.YtfjngecgfmlnfaaAwake10
namespace Go.Proofs.Ytfjngecgfmlnfaa
open Go.RowKit
set_option linter.unusedVariables false
set_option linter.unusedSimpArgs false

set_option maxRecDepth 100000 in
theorem Add_nil (w : World) (g : Group) (hv : g.vBuckets.oneCell' = true) : Calls Try.prog 15 #[.pointer none, valGroup g] w fun e w' => e = .returned (.int .i64 2) ∧ Below w.heap.size w w' := by
  go_enter Try.func15, Try.ntmps15
  go_upto_region 1 with fail
  refine one_box_wp ?_
  intro W hb1 hbel hsz
  have K := Lib.hid hbel
  clear hb1 hbel hsz
  go_wp2_with fail
  go_ret
  exact ⟨rfl, K.out⟩
set_option maxRecDepth 100000 in
theorem Modify_nil (w : World) (g : Group) (hv : g.vBuckets.oneCell' = true) : Calls Try.prog 17 #[.pointer none, valGroup g] w fun e w' => e = .returned (.int .i64 2) ∧ Below w.heap.size w w' := by
  go_enter Try.func17, Try.ntmps17
  go_upto_region 1 with fail
  refine one_box_wp ?_
  intro W hb1 hbel hsz
  have K := Lib.hid hbel
  clear hb1 hbel hsz
  go_wp2_with fail
  go_ret
  exact ⟨rfl, K.out⟩
set_option maxRecDepth 100000 in
theorem Delete_nil (w : World) (id : Int) : Calls Try.prog 19 #[.pointer none, .int .i64 id] w fun e w' => e = .returned (.int .i64 2) ∧ Below w.heap.size w w' := by
  have K := Lib.hid (Below.refl w.heap.size w)
  go_enter Try.func19, Try.ntmps19
  go_wp2_with fail
  go_ret
  exact ⟨rfl, K.out⟩
set_option maxRecDepth 100000 in
theorem List_nil (w : World) : Calls Try.prog 24 #[.pointer none] w fun e w' => e = .returned (.slice none 0 0) ∧ Below w.heap.size w w' := by
  have K := Lib.hid (Below.refl w.heap.size w)
  go_enter Try.func24, Try.ntmps24
  go_wp2_with fail
  go_ret
  exact ⟨rfl, K.out⟩
set_option maxRecDepth 100000 in
theorem Get_nil (w : World) (id : Int) : Calls Try.prog 21 #[.pointer none, .int .i64 id] w fun e w' => e = .returned (.tuple #[.agg #[.int .i64 0, .int .i64 0, .slice none 0 0], .int .i64 2]) ∧ Below w.heap.size w w' := by
  go_enter Try.func21, Try.ntmps21
  go_upto_region 1 with fail
  refine one_box_wp ?_
  intro W hb1 hbel hsz
  have K : Hid (KR w.heap.size w [(w.heap.size, 24, #[.int .i64 0, .int .i64 0, .slice none 0 0])] W) := Lib.hid ((KR.start hbel hbel.size).add hb1)
  clear hb1 hbel hsz
  go_wp2_with (first
    | (refine wpList_store_row rfl 24 _ _ rfl _ rfl #[.int .i64 0, .int .i64 0, .slice none 0 0] rfl _ _ (K.out.at 0 rfl) rfl (by kernel_rfl) (by simp [Value.oneCell']) ?_)
    | fail)
  intro Wi hbi hbari
  have HB := Lib.hid (hbari.below K.out.below (Nat.le_refl _) K.out.size)
  clear hbari K
  go_wp2_with fail
  refine bodyPost_ret (v := .tuple #[.agg #[.int .i64 0, .int .i64 0, .slice none 0 0], .int .i64 2]) ?_ rfl ⟨rfl, HB.out⟩
  exact results_row_tmp (p := 4) (u := 5) rfl _ _ w.heap.size _ _ _ rfl hbi Try.underlying24 rfl (by kernel_rfl)

set_option maxRecDepth 100000 in
set_option maxHeartbeats 8000000 in
theorem GroupNil_walk (w : World) (g : Group) (hok : okGroup w g) :
    Calls Try.prog 7 #[valGroup g] w fun x w' => x = .returned (.bool true) ∧ Below w.heap.size w w' := by
  have HA := Lib.hid awake10
  have hgv := hok.2.2.1.1.one
  have H1 := Lib.hid (fun W => Add_nil W g hgv)
  have H2 := Lib.hid (fun W => Modify_nil W g hgv)
  have H3 := Lib.hid (fun W => Delete_nil W g.fID)
  have H4 := Lib.hid List_nil
  have H5 := Lib.hid (fun W => Get_nil W g.fID)
  obtain ⟨gi, gk, gv, bs⟩ := g
  simp only at *
  clear hok
  go_enter Try.func7, Try.ntmps7
  go_upto_region 1 with fail
  refine one_box_wp ?_
  intro W hb1 hbel hsz
  have K : Hid (KR w.heap.size w [(w.heap.size, 24, #[.int .i64 gi, .int .i64 gk, gv])] W) := Lib.hid ((KR.start hbel hbel.size).add hb1)
  clear hb1 hbel hsz
  have c0 := (K.out.at 0 rfl).cell 0 _ rfl
  go_wp2_with fail
  refine (H5.out _).mono ?_
  rintro x w1 ⟨rfl, hb1⟩
  replace K := Lib.hid (K.out.call hb1)
  clear hb1 H5 c0
  go_wp2_with (first
    | (refine wpList_store_row rfl 24 _ _ rfl _ rfl #[.int .i64 0, .int .i64 0, .slice none 0 0] rfl _ _ ((K.out.box _ _).at 0 rfl) rfl (by kernel_rfl) (by simp [Value.oneCell']) ?_)
    | fail)
  intro Wi hbi hbari
  replace K := Lib.hid ((K.out.into hbari hbi).sub (l' := [(w.heap.size, 24, #[.int .i64 gi, .int .i64 gk, gv])]) (by simp))
  clear hbi hbari
  go_wp2_with (first
    | (refine wpList_load_row rfl 24 _ rfl _ rfl _ _ _ _ (K.out.at 0 rfl) Try.underlying24 rfl (by kernel_rfl) ?_)
    | fail)
  refine (H1.out _).mono ?_
  rintro x w2 ⟨rfl, hb2⟩
  replace K := Lib.hid (K.out.call hb2)
  clear hb2 H1
  go_wp2_with (first
    | (refine wpList_row 24 _ rfl (by rfl) _ _ rfl _ (run_loadVar_row _ _ _ 24 _ (0, 0) _ (K.out.at 0 rfl) Try.underlying24 rfl (by kernel_rfl)) ?_)
    | fail)
  refine (H2.out _).mono ?_
  rintro x w3 ⟨rfl, hb3⟩
  replace K := Lib.hid (K.out.call hb3)
  clear hb3 H2
  have c0 := (K.out.at 0 rfl).cell 0 _ rfl
  go_wp2_with fail
  refine (H3.out _).mono ?_
  rintro x w4 ⟨rfl, hb4⟩
  replace K := Lib.hid (K.out.call hb4)
  clear hb4 H3 c0
  go_wp2_with fail
  refine (H4.out _).mono ?_
  rintro x w5 ⟨rfl, hb5⟩
  replace K := Lib.hid (K.out.call hb5)
  clear hb5 H4
  go_wp2_with fail
  refine (HA.out _).mono ?_
  rintro x w6 ⟨rfl, hb6⟩
  replace K := Lib.hid (K.out.call hb6)
  clear hb6
  go_wp2_with fail
  go_ret
  exact ⟨rfl, K.out.below⟩
end Go.Proofs.Ytfjngecgfmlnfaa
