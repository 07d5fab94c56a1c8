/- strings.Repeat of a nought byte; put. -/
import Derived.Test.YtdjhbahiiabimaaBuildF
import Derived.Test.YtdjhbahiiabimaaNumPlain
import Derived.Test.YtdjhbahiiabimaaShelf
import Derived.Handy
import Derived.Deep.LoopGhost
namespace Go.Proofs.Ytdjhbahiiabimaa
open Go.RowKit
set_option linter.unusedVariables false
set_option linter.unusedSimpArgs false

theorem min3 {P : Program} {w : World} (ts : Array TypeId) (t : TypeId) (k k' k'' : IntKind) (x y z : Int) :
    (Builtin.min_ ts t #[.int k x, .int k' y, .int k'' z]).run P w = .ok (.int k (if z < (if y < x then y else x) then z else (if y < x then y else x))) w := by
  simp [Builtin.min_, Builtin.min2]
theorem LK.grow {w W : World} {l : List (Nat × TypeId × Array Value)} (h : KR w.heap.size w l W) {W' : World} (hb : BlkAt W' W.heap.size 45 #[.pointer none, .slice none 0 0]) (hbel : Below W.heap.size W W') (n : Nat) (hn : n ≤ 281474976710656) :
    Calls Try.prog 60 #[.pointer (some ⟨W.heap.size, 0, none⟩), .int .i64 n] W' fun e w' => e = .returned (.tuple #[]) ∧ LK w l W.heap.size [] w' := by
  refine (Try.Builder_Grow_fresh W.heap.size W.heap.size n W' (Nat.le_refl _) hb hbel.size hn).mono ?_
  rintro e w' ⟨rfl, h1, h2⟩
  exact ⟨rfl, h.call (hbel.trans h2), .inr h1, fun x hx => (h.1 x hx).lt, h.2.2, Nat.le_trans hbel.size h2.size⟩

set_option maxRecDepth 100000 in
set_option maxHeartbeats 4000000 in
theorem rep_any (w : World) (c : Nat) (h2 : 2 ≤ c) (h8 : c ≤ 8) : Calls Try.prog 51 #[.string (str [0]), .int .i64 c] w fun e w' => e = .returned (.string (str (List.replicate c 0))) ∧ Below w.heap.size w w' := by
  have hM := Try.bits_Mul 1 c (by decide) (by omega) w
  rw [Nat.div_eq_of_lt (by omega), Nat.mod_eq_of_lt (by omega), Nat.one_mul] at hM
  have t0 : ((c : Int) == 0) = false := by simp; omega
  have t1 : ((c : Int) == 1) = false := by simp; omega
  have t2 : decide ((c : Int) < 0) = false := decide_eq_false (by omega)
  have hw : IntKind.u64.wrap (c : Int) = c := by simp [IntKind.wrap, IntKind.bits, IntKind.signed]; omega
  have HM := Lib.hid hM
  clear hM
  go_enter Try.func51, Try.ntmps51
  go_wp2_with fail
  refine HM.out.mono ?_
  rintro e w0 ⟨rfl, hw1⟩
  subst hw1
  have t3 : decide ((9223372036854775807 : Int) < (c : Int)) = false := decide_eq_false (by omega)
  have t4 : decide ((8192 : Int) < (c : Int)) = false := decide_eq_false (by omega)
  have hw2 : IntKind.i64.wrap (c : Int) = c := IntWalk.i64_in _ (by omega)
  have hix : (str [0]).data[0]? = some 0 := rfl
  go_wp2_with fail
  refine (LK.grow (w := w0) (KR.start (Below.refl _ _) (Nat.le_refl _)) (BlkAt.new w0 _ _) ((Below.refl _ _).alloc (Nat.le_refl _) _) c (by omega)).mono ?_
  rintro e w1 ⟨rfl, hL⟩
  have L0 := Lib.hid hL
  clear hL HM t0 t1 t2 t3 t4 hw
  generalize w0.heap.size = g at *
  go_wp2_with fail
  refine (L0.out.write [0] (by simp)).mono ?_
  rintro e w2 ⟨rfl, hL⟩
  have L1 := Lib.hid hL
  clear hL L0
  go_wp2_with fail
  go_loopg [10] c (fun gg v wr => ∃ j : Nat, 1 ≤ j ∧ j ≤ c ∧ c ≤ j + gg ∧ Hid (LF w0 g (List.replicate j 0) wr))
  case atStart => exact ⟨1, by omega, by omega, by omega, Lib.hid (LF.of L1.out)⟩
  case round =>
    obtain ⟨j, hj1, hj2, hj3, L⟩ := hrel
    clear L1
    have HLn := Lib.hid (L.out.len)
    rw [List.length_replicate] at HLn
    by_cases hlt : j < c
    · obtain ⟨n, rfl⟩ : ∃ n, gk = n + 1 := ⟨gk - 1, by omega⟩
      have d1 : decide ((j : Int) < (c : Int)) = true := by simpa using hlt
      have d2 : decide (j < c) = true := by simpa using hlt
      have hmin : (if (c : Int) < (if (j : Int) < (c : Int) - (j : Int) then (j : Int) else (c : Int) - (j : Int)) then (c : Int) else (if (j : Int) < (c : Int) - (j : Int) then (j : Int) else (c : Int) - (j : Int))) = ((min j (c - j) : Nat) : Int) := by
        split <;> split <;> omega
      go_wp2_with fail
      refine HLn.out.mono ?_
      rintro e w3 ⟨rfl, hw3⟩
      subst hw3
      go_wp2_with fail
      refine HLn.out.mono ?_
      rintro e w3 ⟨rfl, hw3⟩
      subst hw3
      go_wp2_with fail
      refine HLn.out.mono ?_
      rintro e w3 ⟨rfl, hw3⟩
      subst hw3
      clear HLn
      have hmn : ∀ (W : World) (ts : Array TypeId) (t : TypeId), (Builtin.min_ ts t #[.int .i64 ((c : Int) - j), .int .i64 j, .int .i64 c]).run Try.prog W = .ok (.int .i64 ((min j (c - j) : Nat) : Int)) W := fun W ts t => by rw [min3, hmin]
      go_wp2_with fail
      clear hmn hmin
      generalize hk : min j (c - j) = k
      have hk1 : k ≤ j := by omega
      have hk2 : 1 ≤ k := by omega
      have hk3 : k ≤ c - j := by omega
      have HRel : Hid (c ≤ (j + k) + n) := Lib.hid (by omega)
      clear hk hj3
      refine (L.out.string (by intro h; have := congrArg List.length h; simp at this; omega)).mono ?_
      rintro e w4 ⟨rfl, hb⟩
      have L4 := Lib.hid hb
      clear hb L
      have hsz : (str (List.replicate j 0)).size = j := by rw [str_size, List.length_replicate]
      have hsl : (0 : Int) ≤ (k : Int) ∧ (k : Int) ≤ (j : Int) := by omega
      go_wp2_with fail
      rw [str_extract, List.drop_zero, Nat.sub_zero, List.take_replicate, Nat.min_eq_left hk1]
      refine (L4.out.write (List.replicate k 0) (by simp; omega)).mono ?_
      rintro e w5 ⟨rfl, hb⟩
      rw [List.replicate_append_replicate] at hb
      have L5 := Lib.hid hb
      clear hb L4
      go_wp2_with fail
      go_roundg n
      case measure => omega
      case rel => exact ⟨j + k, by omega, by omega, HRel.out, L5⟩
    · have d1 : decide ((j : Int) < (c : Int)) = false := by simpa using hlt
      have d2 : decide (j < c) = false := by simpa using hlt
      obtain rfl : j = c := by omega
      go_wp2_with fail
      refine HLn.out.mono ?_
      rintro e w3 ⟨rfl, hw3⟩
      subst hw3
      clear HLn
      go_wp2_with fail
      refine (L.out.string (by intro h; have := congrArg List.length h; simp at this; omega)).mono ?_
      rintro e w4 ⟨rfl, hb⟩
      have HB := Lib.hid hb.low
      clear hb L
      go_wp2_with fail
      go_ret
      exact ⟨rfl, HB.out⟩

set_option maxRecDepth 100000 in
theorem put_any (w : World) (n : Int) (c : Nat) (h0 : 0 ≤ n) (hc : 1 ≤ c) (hc8 : c ≤ 8) (hs : n < 256 ^ c) :
    Calls Try.prog 50 #[.int .u64 n, .int .i64 c] w fun x w' => x = .returned (.string (str (beL c n.toNat))) ∧ Below w.heap.size w w' := by
  have HP := Lib.hid (Put_yes w n c h0 hc hc8 (fun _ => (div_pow n c h0).2 hs))
  clear hs h0
  go_enter Try.func50, Try.ntmps50
  go_wp2_with fail
  refine HP.out.mono ?_
  rintro e w1 ⟨rfl, hb⟩
  have HB := Lib.hid hb
  clear hb HP
  go_wp2_with fail
  go_ret
  exact ⟨rfl, HB.out⟩
end Go.Proofs.Ytdjhbahiiabimaa
