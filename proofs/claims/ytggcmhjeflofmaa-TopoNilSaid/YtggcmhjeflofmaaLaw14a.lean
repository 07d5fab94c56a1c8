/- TopoNil: a nil topology has nothing. -/
import Derived.Test.YtggcmhjeflofmaaTopoK
namespace Go.Proofs.Ytggcmhjeflofmaa
open Go.RowKit Go.Maps
set_option linter.unusedVariables false
set_option linter.unusedSimpArgs false

set_option maxRecDepth 100000 in
theorem Peer_nil (w : World) (a b : Int) : Calls Try.prog 23 #[.pointer none, .int .i64 a, .int .i64 b] w fun e w' => e = .returned (.tuple #[.int .i64 0, .int .i64 0, .int .i64 0]) ∧ Below w.heap.size w w' := by
  have K := Lib.hid (Below.refl w.heap.size w)
  go_enter Try.func23, Try.ntmps23
  go_wp2_with fail
  go_ret3
  exact ⟨rfl, K.out⟩
set_option maxRecDepth 100000 in
theorem Home_nil (w : World) (a : Int) : Calls Try.prog 18 #[.pointer none, .int .i64 a] w fun e w' => e = .returned (.tuple #[.int .i64 0, .int .i64 0]) ∧ Below w.heap.size w w' := by
  have K := Lib.hid (Below.refl w.heap.size w)
  go_enter Try.func18, Try.ntmps18
  go_wp2_with fail
  go_ret2
  exact ⟨rfl, K.out⟩
set_option maxRecDepth 100000 in
theorem Ports_nil (w : World) (a : Int) : Calls Try.prog 22 #[.pointer none, .int .i64 a] w fun e w' => e = .returned (.slice none 0 0) ∧ Below w.heap.size w w' := by
  have K := Lib.hid (Below.refl w.heap.size w)
  go_enter Try.func22, Try.ntmps22
  go_wp2_with fail
  go_ret
  exact ⟨rfl, K.out⟩
set_option maxRecDepth 100000 in
theorem Hosts_nil (w : World) : Calls Try.prog 26 #[.pointer none] w fun e w' => e = .returned (.slice none 0 0) ∧ Below w.heap.size w w' := by
  have K := Lib.hid (Below.refl w.heap.size w)
  go_enter Try.func26, Try.ntmps26
  go_wp2_with fail
  go_ret
  exact ⟨rfl, K.out⟩
set_option maxRecDepth 100000 in
theorem Cost_nil (w : World) (a : Int) : Calls Try.prog 20 #[.pointer none, .int .i64 a] w fun e w' => e = .returned (.float .f64 0) ∧ Below w.heap.size w w' := by
  have K := Lib.hid (Below.refl w.heap.size w)
  go_enter Try.func20, Try.ntmps20
  go_wp2_with fail
  go_ret
  exact ⟨rfl, K.out⟩
set_option maxRecDepth 100000 in
theorem Reach_nil (w : World) (a : Int) (v : Value) : Calls Try.prog 14 #[.pointer none, .int .i64 a, v] w fun e w' => e = .returned (.slice none 0 0) ∧ Below w.heap.size w w' := by
  have K := Lib.hid (Below.refl w.heap.size w)
  go_enter Try.func14, Try.ntmps14
  go_wp2_with fail
  go_ret
  exact ⟨rfl, K.out⟩

set_option maxRecDepth 100000 in
set_option maxHeartbeats 8000000 in
theorem TopoNil_walk (w : World) (a : Int) (wa : (Lit.int .i64 a).wf = true) (b : Int) (wb : (Lit.int .i64 b).wf = true) : Calls Try.prog 9 #[.int .i64 a, .int .i64 b] w fun x w' => x = .returned (.bool true) ∧ Below w.heap.size w w' := by
  clear wa wb
  have ho : FloatKind.f64.format.order 0 0 = some .eq := by kernel_rfl
  go_enter Try.func9, Try.ntmps9
  go_wp2_with fail
  refine (Peer_nil _ _ _).mono ?_
  rintro e w1 ⟨rfl, hb⟩
  have HB := Lib.hid hb
  clear hb
  go_wp2_with fail
  refine (Home_nil _ _).mono ?_
  rintro e w2 ⟨rfl, hb⟩
  replace HB := Lib.hid (HB.out.trans (hb.mono HB.out.size))
  clear hb
  go_wp2_with fail
  refine (Size_nil _).mono ?_
  rintro e w3 ⟨rfl, hb⟩
  replace HB := Lib.hid (HB.out.trans (hb.mono HB.out.size))
  clear hb
  go_wp2_with fail
  refine (Ports_nil _ _).mono ?_
  rintro e w4 ⟨rfl, hb⟩
  replace HB := Lib.hid (HB.out.trans (hb.mono HB.out.size))
  clear hb
  go_wp2_with fail
  refine (Hosts_nil _).mono ?_
  rintro e w5 ⟨rfl, hb⟩
  replace HB := Lib.hid (HB.out.trans (hb.mono HB.out.size))
  clear hb
  go_wp2_with fail
  refine (Cost_nil _ _).mono ?_
  rintro e w6 ⟨rfl, hb⟩
  replace HB := Lib.hid (HB.out.trans (hb.mono HB.out.size))
  clear hb
  go_wp2_with fail
  refine (Reach_nil _ _ _).mono ?_
  rintro e w7 ⟨rfl, hb⟩
  replace HB := Lib.hid (HB.out.trans ((((Below.refl w6.heap.size w6).alloc (Nat.le_refl _) _).trans (hb.mono (by simp))).mono HB.out.size))
  clear hb
  go_wp2_with fail
  refine (awake_any _).mono ?_
  rintro e w8 ⟨rfl, hb⟩
  replace HB := Lib.hid (HB.out.trans (hb.mono HB.out.size))
  clear hb
  go_wp2_with fail
  go_ret
  exact ⟨rfl, HB.out⟩
end Go.Proofs.Ytggcmhjeflofmaa
