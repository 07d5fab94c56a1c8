/- instr: put, part, list, place. -/
import Derived.Test.YtdjhbahiiabimaaActF
namespace Go.Proofs.Ytdjhbahiiabimaa
open Go.RowKit
set_option linter.unusedVariables false
set_option linter.unusedSimpArgs false
attribute [local go_sem] beL_length

set_option maxRecDepth 100000 in
theorem iput_any (w : World) (n : Int) (c : Nat) (h0 : 0 ≤ n) (hc : 1 ≤ c) (hc8 : c ≤ 8) (hs : n < 256 ^ c) :
    Calls Try.prog 21 #[.int .u64 n, .int .i64 c] w fun x w' => x = .returned (.string (str (beL c n.toNat))) ∧ Below w.heap.size w w' := by
  have HP := Lib.hid (Put_yes w n c h0 hc hc8 (fun _ => (div_pow n c h0).2 hs))
  clear hs h0
  go_enter Try.func21, Try.ntmps21
  go_wp2_with fail
  refine HP.out.mono ?_
  rintro e w1 ⟨rfl, hb⟩
  have HB := Lib.hid hb
  clear hb HP
  go_wp2_with fail
  go_ret
  exact ⟨rfl, HB.out⟩
/-- A part of a kind. -/
def partB (k : Nat) (b : List UInt8) : List UInt8 := beL 2 k ++ (beL 2 (4 + b.length) ++ b)
theorem partB_len (k : Nat) (b : List UInt8) : (partB k b).length = 4 + b.length := by
  unfold partB
  simp only [List.length_append, beL_length]
  omega
set_option maxRecDepth 100000 in
set_option maxHeartbeats 2000000 in
theorem part_any (w : World) (k : Nat) (b : List UInt8) (hk : k < 65536) (hb : 4 + b.length < 65536) :
    Calls Try.prog 20 #[.int .i64 k, .string (str b)] w fun x w' => x = .returned (.string (str (partB k b))) ∧ Below w.heap.size w w' := by
  have HP1 := Lib.hid (fun W => iput_any W (k : Int) 2 (by omega) (by decide) (by decide) (by omega))
  have HP2 := Lib.hid (fun W => iput_any W (4 + (b.length : Int)) 2 (by omega) (by decide) (by decide) (by omega))
  have q1 : IntKind.u64.wrap (k : Int) = k := by simp [IntKind.wrap, IntKind.bits, IntKind.signed]; omega
  have q2 : IntKind.u64.wrap (4 + (b.length : Int)) = 4 + (b.length : Int) := by simp [IntKind.wrap, IntKind.bits, IntKind.signed]; omega
  have q3 : IntKind.i64.wrap (4 + (b.length : Int)) = 4 + (b.length : Int) := IntWalk.i64_in _ (by omega)
  have hR : Hid (partB k b = beL 2 k ++ (beL 2 (4 + b.length) ++ b)) := Lib.hid rfl
  have hlt : b.length ≤ 65536 := by omega
  generalize partB k b = R at *
  have K : Hid (KR w.heap.size w [] w) := Lib.hid (KR.start (Below.refl _ _) (Nat.le_refl _))
  clear hk hb
  go_enter Try.func20, Try.ntmps20
  go_wp2_with fail
  refine (HP1.out _).mono ?_
  rintro e w1 ⟨rfl, hb⟩
  replace K := Lib.hid (K.out.call hb)
  clear hb
  go_wp2_with fail
  refine (HP2.out _).mono ?_
  rintro e w2 ⟨rfl, hb⟩
  replace K := Lib.hid (K.out.call hb)
  clear hb HP1 HP2
  go_wp2_with fail
  go_ret
  refine ⟨ret_str ?_, K.out.below⟩
  rw [hR.out]
  try simp only [bs_mk, str_append, List.append_assoc]
def listB (k : Nat) (l : List Action) : List UInt8 := if l = [] then [] else partB k ([0, 0, 0, 0] ++ (actEnc l).1)
theorem actEnc_len (l : List Action) : (actEnc l).1.length ≤ 512 := by
  cases h : l.any (fun a => !rightX a)
  · by_cases h2 : (32 : Int) < l.length
    · rw [actEnc_big h h2]; simp
    · rw [actEnc_ok h h2]
      have := encAs_len l (fun a ha => by
        have := List.any_eq_false.1 h a ha
        simpa using this)
      simp only
      omega
  · rw [actEnc_bad h]; simp
set_option maxRecDepth 100000 in
set_option maxHeartbeats 2000000 in
theorem list_any (w : World) (k : Nat) (v : Value) (l : List Action) (hk : k < 65536) (h : ReadL w 3 encAction v l) (hok : ∀ x ∈ l, okV x) (hlen : l.length ≤ 1000000) :
    Calls Try.prog 22 #[.int .i64 k, v] w fun x w' => x = .returned (.string (str (listB k l))) ∧ Below w.heap.size w w' := by
  have HE := Lib.hid (Encode_any w v l h hok hlen)
  obtain ⟨a, cap, rfl, hcap, hmax⟩ := h.slice
  unfold maxLen at hmax
  have HA := Lib.hid (actEnc_len l)
  have K : Hid (KR w.heap.size w [] w) := Lib.hid (KR.start (Below.refl _ _) (Nat.le_refl _))
  by_cases hl : l = []
  · have hR : Hid (listB k l = []) := Lib.hid (by unfold listB; rw [if_pos hl])
    generalize listB k l = R at *
    have t1 : ((l.length : Int) == 0) = true := by rw [hl]; rfl
    clear HE hl
    go_enter Try.func22, Try.ntmps22
    go_wp2_with fail
    go_ret
    exact ⟨by rw [hR.out]; rfl, K.out.below⟩
  have hR : Hid (listB k l = partB k ([0, 0, 0, 0] ++ (actEnc l).1)) := Lib.hid (by unfold listB; rw [if_neg hl])
  generalize listB k l = R at *
  have t1 : ((l.length : Int) == 0) = false := by
    cases l with
    | nil => exact absurd rfl hl
    | cons x l => simp; omega
  generalize actEnc l = E at *
  obtain ⟨E1, E2⟩ := E
  simp only at HE HA hR
  have HP := Lib.hid (fun W => iput_any W 0 4 (by decide) (by decide) (by decide) (by decide))
  have HPt := Lib.hid (fun W => part_any W k ([0, 0, 0, 0] ++ E1) hk (by have := HA.out; simp; omega))
  have hlt : E1.length ≤ 512 := HA.out
  clear hl hk h
  go_enter Try.func22, Try.ntmps22
  go_wp2_with fail
  refine HE.out.mono ?_
  rintro e w1 ⟨rfl, hb⟩
  replace K := Lib.hid (K.out.call hb)
  clear hb HE
  go_wp2_with fail
  refine (HP.out _).mono ?_
  rintro e w2 ⟨rfl, hb⟩
  replace K := Lib.hid (K.out.call hb)
  clear hb HP
  go_wp2_with fail
  refine (HPt.out _).mono ?_
  rintro e w3 ⟨rfl, hb⟩
  replace K := Lib.hid (K.out.call hb)
  clear hb HPt
  go_wp2_with fail
  go_ret
  exact ⟨by rw [hR.out]; rfl, K.out.below⟩
def placeF (k : Int) : Int := if k = 6 then 1 else if k = 4 then 2 else if k = 5 then 3 else if k = 3 then 4 else if k = 2 then 5 else if k = 1 then 6 else 0
set_option maxRecDepth 100000 in
set_option maxHeartbeats 2000000 in
theorem place_any (w : World) (k : Int) : Calls Try.prog 28 #[.int .i64 k] w fun x w' => x = .returned (.int .i64 (placeF k)) ∧ w = w' := by
  by_cases h : k = 6 ∨ k = 4 ∨ k = 5 ∨ k = 3 ∨ k = 2 ∨ k = 1
  · rcases h with rfl | rfl | rfl | rfl | rfl | rfl
    all_goals
      go_enter Try.func28, Try.ntmps28
      go_wp2_with fail
      go_ret
      exact ⟨rfl, rfl⟩
  · have e : placeF k = 0 := by
      simp only [not_or] at h
      obtain ⟨h1, h2, h3, h4, h5, h6⟩ := h
      unfold placeF
      rw [if_neg h1, if_neg h2, if_neg h3, if_neg h4, if_neg h5, if_neg h6]
    rw [e]
    have t6 : (k == 6) = false := by simp; omega
    have t4 : (k == 4) = false := by simp; omega
    have t5 : (k == 5) = false := by simp; omega
    have t3 : (k == 3) = false := by simp; omega
    have t2 : (k == 2) = false := by simp; omega
    have t1 : (k == 1) = false := by simp; omega
    clear e h
    go_enter Try.func28, Try.ntmps28
    go_wp2_with fail
    go_ret
    exact ⟨rfl, rfl⟩
end Go.Proofs.Ytdjhbahiiabimaa
