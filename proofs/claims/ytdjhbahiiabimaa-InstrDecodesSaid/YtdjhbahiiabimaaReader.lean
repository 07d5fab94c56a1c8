/- The walks of package nums' Reader: each call's answer and what is left, as plain functions. -/
import Derived.Test.YtdjhbahiiabimaaBase
namespace Go.Proofs.Ytdjhbahiiabimaa
open Go.RowKit
set_option linter.unusedVariables false

/-- A reader: what is left, and what is wrong. -/
def RdAt (w : World) (g : Nat) (s : ByteArray) (e : Int) : Prop := BlkAt w g 86 #[.string s, .int .i64 e]
def takeR (s : ByteArray) (e n : Int) (right : Bool) : ByteArray × ByteArray × Int :=
  if e ≠ 0 then (⟨#[]⟩, s, e) else if right = false then (⟨#[]⟩, s, 1) else if (s.size : Int) < n then (⟨#[]⟩, s, 10)
  else (s.extract 0 n.toNat, s.extract n.toNat s.size, 0)
theorem takeR_size (s : ByteArray) (e n : Int) (right : Bool) : (takeR s e n right).1.size ≤ s.size := by
  unfold takeR
  by_cases h1 : e ≠ 0
  · rw [if_pos h1]; exact Nat.zero_le _
  · rw [if_neg h1]
    by_cases h2 : right = false
    · rw [if_pos h2]; exact Nat.zero_le _
    · rw [if_neg h2]
      by_cases h3 : (s.size : Int) < n
      · rw [if_pos h3]; exact Nat.zero_le _
      · rw [if_neg h3, ByteArray.size_extract]; omega
def leftR (s : ByteArray) (e : Int) : Int := if e = 0 then (s.size : Int) else 0
def endR (s : ByteArray) (e : Int) : Int := if e = 0 then (if s.size = 0 then 0 else 12) else e

set_option maxHeartbeats 1000000 in
theorem take_any (w : World) (g : Nat) (s : ByteArray) (e n : Int) (right : Bool) (hr : RdAt w g s e) (hs : s.size ≤ 140737488351232) (hn : right = true → 0 ≤ n) :
    Calls Try.prog 55 #[.pointer (some ⟨g, 0, none⟩), .int .i64 n, .bool right] w fun x w' =>
      x = .returned (.string (takeR s e n right).1) ∧ RdAt w' g (takeR s e n right).2.1 (takeR s e n right).2.2 ∧ Bar g w w' := by
  have hc0 := hr.cell 0 (.string s) rfl
  have hc1 := hr.cell 1 (.int .i64 e) rfl
  have hf0 := hr.frozen 0
  have hf1 := hr.frozen 1
  by_cases he : e = 0
  · subst he
    cases right with
    | false =>
      have HR := Lib.hid hr
      clear hr
      go_enter Try.func55, Try.ntmps55
      go_wp2
      go_ret
      exact ⟨rfl, HR.out.set 1 _, (Bar.refl _ _).set 1 _⟩
    | true =>
      have h0 := hn rfl
      have HR := Lib.hid hr
      clear hr hn
      by_cases hl : (s.size : Int) < n
      · have hfin : takeR s 0 n true = (⟨#[]⟩, s, 10) := by simp [takeR, hl]
        rw [hfin]
        go_enter Try.func55, Try.ntmps55
        go_wp2
        go_ret
        exact ⟨rfl, HR.out.set 1 _, (Bar.refl _ _).set 1 _⟩
      · have hfin : takeR s 0 n true = (s.extract 0 n.toNat, s.extract n.toNat s.size, 0) := by simp [takeR, hl]
        rw [hfin]
        go_enter Try.func55, Try.ntmps55
        go_wp2
        go_ret
        exact ⟨rfl, HR.out.set 0 _, (Bar.refl _ _).set 0 _⟩
  · have hfin : takeR s e n right = (⟨#[]⟩, s, e) := by simp [takeR, he]
    rw [hfin]
    have he' : (e != 0) = true := bne_iff_ne.mpr he
    have HR := Lib.hid hr
    clear hr he hn
    go_enter Try.func55, Try.ntmps55
    go_wp2
    go_ret
    exact ⟨rfl, HR.out, Bar.refl _ _⟩

theorem take_nil (w : World) (n : Int) (right : Bool) :
    Calls Try.prog 55 #[.pointer none, .int .i64 n, .bool right] w fun x w' => x = .returned (.string ⟨#[]⟩) ∧ w = w' := by
  go_enter Try.func55, Try.ntmps55
  go_wp2
  go_ret
  exact ⟨rfl, rfl⟩

theorem Bytes_any (w : World) (g : Nat) (s : ByteArray) (e n : Int) (hr : RdAt w g s e) (hs : s.size ≤ 140737488351232) :
    Calls Try.prog 42 #[.pointer (some ⟨g, 0, none⟩), .int .i64 n] w fun x w' =>
      x = .returned (.string (takeR s e n (decide (0 ≤ n))).1) ∧ RdAt w' g (takeR s e n (decide (0 ≤ n))).2.1 (takeR s e n (decide (0 ≤ n))).2.2 ∧ Bar g w w' := by
  have H := take_any w g s e n (decide (0 ≤ n)) hr hs (by simp)
  have HR := Lib.hid H
  clear H hr
  go_enter Try.func42, Try.ntmps42
  go_wp2_with (go_at_call 55; refine HR.out.mono ?_; rintro e w' ⟨rfl, h1, h2⟩)
  go_ret
  exact ⟨rfl, h1, h2⟩

theorem Bytes_nil (w : World) (n : Int) :
    Calls Try.prog 42 #[.pointer none, .int .i64 n] w fun x w' => x = .returned (.string ⟨#[]⟩) ∧ w = w' := by
  go_enter Try.func42, Try.ntmps42
  go_wp2_with (go_at_call 55; refine (take_nil _ _ _).mono ?_; rintro e w' ⟨rfl, rfl⟩)
  go_ret
  exact ⟨rfl, rfl⟩

theorem Left_any (w : World) (g : Nat) (s : ByteArray) (e : Int) (hr : RdAt w g s e) :
    Calls Try.prog 45 #[.pointer (some ⟨g, 0, none⟩)] w fun x w' => x = .returned (.int .i64 (leftR s e)) ∧ w = w' := by
  have hc0 := hr.cell 0 (.string s) rfl
  have hc1 := hr.cell 1 (.int .i64 e) rfl
  clear hr
  by_cases he : e = 0
  · subst he
    go_enter Try.func45, Try.ntmps45
    go_wp2
    go_ret
    exact ⟨rfl, rfl⟩
  · have hfin : leftR s e = 0 := by simp [leftR, he]
    rw [hfin]
    have he' : (e != 0) = true := bne_iff_ne.mpr he
    clear he hfin
    go_enter Try.func45, Try.ntmps45
    go_wp2
    go_ret
    exact ⟨rfl, rfl⟩

theorem Left_nil (w : World) :
    Calls Try.prog 45 #[.pointer none] w fun x w' => x = .returned (.int .i64 0) ∧ w = w' := by
  go_enter Try.func45, Try.ntmps45
  go_wp2
  go_ret
  exact ⟨rfl, rfl⟩

end Go.Proofs.Ytdjhbahiiabimaa
