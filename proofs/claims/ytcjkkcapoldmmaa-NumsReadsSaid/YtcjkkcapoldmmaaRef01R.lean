/- The walks of the reference's reader: the same answers as the program's. -/
import Derived.Test.YtcjkkcapoldmmaaReaderNum
import Derived.Test.YtcjkkcapoldmmaaReaderEnd
namespace Go.Proofs.Ytcjkkcapoldmmaa
open Go.RowKit
set_option linter.unusedVariables false

def RfAt (w : World) (g : Nat) (s : ByteArray) (e : Int) : Prop := BlkAt w g 39 #[.string s, .int .i64 e]

set_option maxHeartbeats 1000000 in
theorem rBytes_any (w : World) (g : Nat) (s : ByteArray) (e n : Int) (hr : RfAt w g s e) :
    Calls Try.prog 16 #[.pointer (some ⟨g, 0, none⟩), .int .i64 n] w fun x w' =>
      x = .returned (.string (takeR s e n (decide (0 ≤ n))).1) ∧ RfAt w' g (takeR s e n (decide (0 ≤ n))).2.1 (takeR s e n (decide (0 ≤ n))).2.2 ∧ Bar g w w' := by
  have hc0 := hr.cell 0 (.string s) rfl
  have hc1 := hr.cell 1 (.int .i64 e) rfl
  have hf0 := hr.frozen 0
  have hf1 := hr.frozen 1
  have HR := Lib.hid hr
  clear hr
  by_cases he : e = 0
  · subst he
    by_cases hn : 0 ≤ n
    · have t0 : decide (n < 0) = false := by simp; omega
      have hd : decide (0 ≤ n) = true := by simpa using hn
      rw [hd]
      clear hd
      by_cases hl : (s.size : Int) < n
      · have hfin : takeR s 0 n true = (⟨#[]⟩, s, 10) := by simp [takeR, hl]
        rw [hfin]
        clear hfin
        go_enter Try.func16, Try.ntmps16
        go_wp2
        go_ret
        exact ⟨rfl, HR.out.set 1 _, (Bar.refl _ _).set 1 _⟩
      · have hfin : takeR s 0 n true = (s.extract 0 n.toNat, s.extract n.toNat s.size, 0) := by simp [takeR, hl]
        rw [hfin]
        clear hfin
        go_enter Try.func16, Try.ntmps16
        go_wp2
        go_ret
        exact ⟨rfl, HR.out.set 0 _, (Bar.refl _ _).set 0 _⟩
    · have t0 : decide (n < 0) = true := by simp; omega
      have hd : decide (0 ≤ n) = false := by simpa using hn
      have hfin : takeR s 0 n false = (⟨#[]⟩, s, 1) := by simp [takeR]
      rw [hd, hfin]
      clear hd hfin
      go_enter Try.func16, Try.ntmps16
      go_wp2
      go_ret
      exact ⟨rfl, HR.out.set 1 _, (Bar.refl _ _).set 1 _⟩
  · have hfin : ∀ b, takeR s e n b = (⟨#[]⟩, s, e) := by intro b; simp [takeR, he]
    rw [hfin]
    have he' : (e != 0) = true := bne_iff_ne.mpr he
    clear he hfin
    go_enter Try.func16, Try.ntmps16
    go_wp2
    go_ret
    exact ⟨rfl, HR.out, Bar.refl _ _⟩

theorem rLeft_any (w : World) (g : Nat) (s : ByteArray) (e : Int) (hr : RfAt w g s e) :
    Calls Try.prog 18 #[.pointer (some ⟨g, 0, none⟩)] w fun x w' => x = .returned (.int .i64 (leftR s e)) ∧ w = w' := by
  have hc0 := hr.cell 0 (.string s) rfl
  have hc1 := hr.cell 1 (.int .i64 e) rfl
  clear hr
  by_cases he : e = 0
  · subst he
    go_enter Try.func18, Try.ntmps18
    go_wp2
    go_ret
    exact ⟨rfl, rfl⟩
  · have hfin : leftR s e = 0 := by simp [leftR, he]
    rw [hfin]
    have he' : (e != 0) = true := bne_iff_ne.mpr he
    clear he hfin
    go_enter Try.func18, Try.ntmps18
    go_wp2
    go_ret
    exact ⟨rfl, rfl⟩

theorem rEnd_any (w : World) (g : Nat) (s : ByteArray) (e : Int) (hr : RfAt w g s e) :
    Calls Try.prog 19 #[.pointer (some ⟨g, 0, none⟩)] w fun x w' => x = .returned (.int .i64 (endR s e)) ∧ w = w' := by
  have hc0 := hr.cell 0 (.string s) rfl
  have hc1 := hr.cell 1 (.int .i64 e) rfl
  clear hr
  by_cases he : e = 0
  · subst he
    by_cases hz : s.size = 0
    · obtain rfl : s = ⟨#[]⟩ := ByteArray.size_eq_zero_iff.mp hz
      clear hz
      go_enter Try.func19, Try.ntmps19
      go_wp2
      go_ret
      exact ⟨rfl, rfl⟩
    · have hfin : endR s 0 = 12 := by simp [endR, hz]
      rw [hfin]
      have hl : s.toList ≠ [] := toList_ne hz
      have hl1 : s.toList.isEmpty = false := by simpa using hl
      clear hfin hz
      go_enter Try.func19, Try.ntmps19
      go_wp2
      go_ret
      exact ⟨rfl, rfl⟩
  · have hfin : endR s e = e := by simp [endR, he]
    rw [hfin]
    have he' : (e == 0) = false := beq_eq_false_iff_ne.mpr he
    clear he hfin
    go_enter Try.func19, Try.ntmps19
    go_wp2
    go_ret
    exact ⟨rfl, rfl⟩

set_option maxHeartbeats 4000000 in
set_option maxRecDepth 100000 in
theorem rNum_any (w : World) (g : Nat) (s : ByteArray) (e n : Int) (hr : RfAt w g s e) (hs : s.size ≤ 140737488351232) :
    Calls Try.prog 17 #[.pointer (some ⟨g, 0, none⟩), .int .i64 n] w fun x w' =>
      x = .returned (.int .u64 (numG (takeR s e n (decide (1 ≤ n ∧ n ≤ 8))).1.data.toList)) ∧
      RfAt w' g (takeR s e n (decide (1 ≤ n ∧ n ≤ 8))).2.1 (takeR s e n (decide (1 ≤ n ∧ n ≤ 8))).2.2 ∧ Bar g w w' := by
  have hc0 := hr.cell 0 (.string s) rfl
  have hc1 := hr.cell 1 (.int .i64 e) rfl
  have hf0 := hr.frozen 0
  have hf1 := hr.frozen 1
  have HR := Lib.hid hr
  clear hr
  by_cases he : e = 0
  · subst he
    by_cases h1 : 1 ≤ n
    · by_cases h8 : n ≤ 8
      · have t1 : decide (n < 1) = false := by simp; omega
        have t2 : decide (8 < n) = false := by simp; omega
        have hd : decide (1 ≤ n ∧ n ≤ 8) = true := by simp; omega
        rw [hd]
        clear hd
        by_cases hl : (s.size : Int) < n
        · have hfin : takeR s 0 n true = (⟨#[]⟩, s, 10) := by simp [takeR, hl]
          rw [hfin]
          clear hfin
          go_enter Try.func17, Try.ntmps17
          go_wp2
          go_ret
          exact ⟨rfl, HR.out.set 1 _, (Bar.refl _ _).set 1 _⟩
        · obtain ⟨c, rfl⟩ := Int.eq_ofNat_of_zero_le (show 0 ≤ n by omega)
          have hle : c ≤ s.size := by omega
          have hfin : takeR s 0 c true = (s.extract 0 c, s.extract c s.size, 0) := by simp [takeR, hl]
          have hx : (s.extract 0 c).data.toList = s.data.toList.take c := by rw [Lib.extract_data]; simp
          rw [hfin]
          simp only [hx]
          have HL := Lib.hid (size_data s)
          have t3 : decide ((s.size : Int) < c) = false := by simp; omega
          clear hfin hx hl
          go_enter Try.func17, Try.ntmps17
          go_wp2
          go_loop [5, 6] (fun nv iv => ∃ k : Nat, k ≤ c ∧ iv = .int .i64 k ∧ nv = .int .u64 (numG (s.data.toList.take k))) (fun _ iv => c - (intOf iv).toNat)
          case atStart => exact ⟨0, Nat.zero_le _, rfl, rfl⟩
          case round =>
            obtain ⟨k, hk, rfl, rfl⟩ := hrel
            by_cases hlt : k < c
            · obtain ⟨b, hb0, hb1, hbb, HS⟩ : ∃ b : Int, 0 ≤ b ∧ b ≤ 255 ∧ (∀ h : k < s.size, ((s[k]'h).toNat : Int) = b) ∧
                  Hid (numG (s.data.toList.take (k + 1)) = Go.bits .or .u64 (IntKind.u64.wrap (numG (s.data.toList.take k) * 256)) b) := by
                refine ⟨((s.data.toList.getD k 0).toNat : Int), Int.natCast_nonneg _, ?_, ?_, ?_⟩
                · have := (s.data.toList.getD k 0).toNat_lt; omega
                · intro h
                  have : s.data.toList.getD k 0 = s[k]'h := by
                    rw [List.getD_eq_getElem?_getD, List.getElem?_eq_getElem (by rw [HL.out]; exact h)]; rfl
                  rw [this]
                · have := numG_snoc (s.data.toList.take k) (s.data.toList.getD k 0)
                  rw [← take_snoc' _ _ (by rw [HL.out]; omega)] at this
                  exact this
              have hks : k < s.size := by omega
              have hbk := hbb hks
              clear hbb
              go_wp2
              go_round
              case rel => exact ⟨k + 1, by omega, by go_num, by rw [HS.out]⟩
              case measure => simp [intOf]; omega
            · obtain rfl : k = c := by omega
              go_wp2
              go_ret
              exact ⟨rfl, HR.out.set 0 _, (Bar.refl _ _).set 0 _⟩
      · have t1 : decide (n < 1) = false := by simp; omega
        have t2 : decide (8 < n) = true := by simp; omega
        have hd : decide (1 ≤ n ∧ n ≤ 8) = false := by simp; omega
        have hfin : takeR s 0 n false = (⟨#[]⟩, s, 1) := by simp [takeR]
        rw [hd, hfin]
        clear hd hfin
        go_enter Try.func17, Try.ntmps17
        go_wp2
        go_ret
        exact ⟨rfl, HR.out.set 1 _, (Bar.refl _ _).set 1 _⟩
    · have t1 : decide (n < 1) = true := by simp; omega
      have hd : decide (1 ≤ n ∧ n ≤ 8) = false := by simp; omega
      have hfin : takeR s 0 n false = (⟨#[]⟩, s, 1) := by simp [takeR]
      rw [hd, hfin]
      clear hd hfin
      go_enter Try.func17, Try.ntmps17
      go_wp2
      go_ret
      exact ⟨rfl, HR.out.set 1 _, (Bar.refl _ _).set 1 _⟩
  · have hfin : ∀ b, takeR s e n b = (⟨#[]⟩, s, e) := by intro b; simp [takeR, he]
    rw [hfin]
    have he' : (e != 0) = true := bne_iff_ne.mpr he
    clear he hfin
    go_enter Try.func17, Try.ntmps17
    go_wp2
    go_ret
    exact ⟨rfl, HR.out, Bar.refl _ _⟩
end Go.Proofs.Ytcjkkcapoldmmaa
