/- The walk of MatchBack. (Printed by gen/law05f.py.) -/
import Derived.Test.YtaaadbmhcfjooaaAwake05
import Derived.Test.YtaaadbmhcfjooaaMatchI
import Derived.Test.YtaaadbmhcfjooaaMatchV
namespace Go.Proofs.Ytaaadbmhcfjooaa
open Go.RowKit
set_option linter.unusedVariables false

theorem okT_of {w : World} {t : Test} (h : okTest w t) : okT t := by
  have h1 := wf_u64 h.2.1
  have h2 := wf_u64 h.2.2.1
  exact ⟨h1, h2⟩
theorem same_self (a : List Test) : sameF a a = true := sameF_all rfl (fun i h1 h2 => by unfold eqT; simp)
theorem decF_out (Rl : List UInt8) (m : List Test) (n f : Int) (h : decF (str Rl) = (m, n, f)) :
    (f = 0 → rightF m = 0 ∧ ∃ k : Nat, n = k ∧ k ≤ Rl.length ∧ str (encB m) = (str Rl).extract 0 k) ∧ (¬ f = 0 → m = [] ∧ n = 0) ∧ ∀ t ∈ m, okT t := by
  have hoks := seemsF_ok (lenD (str Rl)) ((str Rl).extract 4 (lenD (str Rl))) 0 [] (by simp)
  have nil : ∀ e : Int, ¬ e = 0 → (([] : List Test), (0 : Int), e) = (m, n, f) → (f = 0 → rightF m = 0 ∧ ∃ k : Nat, n = k ∧ k ≤ Rl.length ∧ str (encB m) = (str Rl).extract 0 k) ∧ (¬ f = 0 → m = [] ∧ n = 0) ∧ ∀ t ∈ m, okT t := by
    intro e he hh
    injection hh with h1 h2
    injection h2 with h2 h3
    subst h1; subst h2; subst h3
    exact ⟨fun h => absurd h he, fun _ => ⟨rfl, rfl⟩, fun t ht => absurd ht List.not_mem_nil⟩
  unfold decF at h
  generalize seemsF (lenD (str Rl)) ((str Rl).extract 4 (lenD (str Rl))) 0 [] = l at *
  by_cases h1 : (str Rl).size < 4
  · rw [if_pos h1] at h; exact nil 10 (by decide) h
  rw [if_neg h1] at h
  by_cases h2 : (str Rl).size < endD (str Rl)
  · rw [if_pos h2] at h; exact nil 10 (by decide) h
  rw [if_neg h2] at h
  by_cases h3 : lenD (str Rl) < 4
  · rw [if_pos h3] at h; exact nil 11 (by decide) h
  rw [if_neg h3] at h
  by_cases h4 : rightF l ≠ 0
  · rw [if_pos h4] at h; exact nil 11 (by decide) h
  rw [if_neg h4] at h
  by_cases h5 : str (encB l) = (str Rl).extract 0 (endD (str Rl))
  · rw [if_pos h5] at h
    injection h with h6 h7
    injection h7 with h7 h8
    subst h6; subst h7; subst h8
    exact ⟨fun _ => ⟨Decidable.not_not.1 h4, _, rfl, by rw [str_size] at h2; omega, h5⟩, fun h => absurd rfl h, hoks⟩
  · rw [if_neg h5] at h; exact nil 11 (by decide) h

set_option maxRecDepth 100000 in
set_option maxHeartbeats 8000000 in
theorem MatchBack_walk (w : World) (v : Value) (l : List Test) (hv : ReadL w 3 encTest v l) (hok0 : ∀ x ∈ l, okTest w x) (t : ByteArray) (ht : t.size ≤ 140737488351232) :
    Calls Try.prog 9 #[v, .string t] w fun x w' => x = .returned (.bool true) ∧ Below w.heap.size w w' := by
  obtain ⟨Rl, rfl⟩ : ∃ R, t = str R := ⟨_, (str_of t).symm⟩
  rw [str_size] at ht
  have hok : ∀ x ∈ l, okT x := fun x hx => okT_of (hok0 x hx)
  clear hok0
  by_cases h1 : 40 < l.length ∨ 1000 < Rl.length
  · obtain ⟨xa, xc, rfl, _, _, _⟩ := hv
    have hd : (∃ x : Unit, decide (40 < l.length) = true ∧ 40 < l.length) ∨ (∃ x : Unit, decide (40 < l.length) = false ∧ decide ((1000 : Int) < Rl.length) = true ∧ l.length ≤ 40 ∧ 1000 < Rl.length) := by
      by_cases h2 : 40 < l.length
      · exact .inl ⟨(), by simpa using h2, h2⟩
      · exact .inr ⟨(), by simpa using h2, by simp; omega, by omega, by omega⟩
    clear h1 hok
    rcases hd with ⟨_, d1, q1⟩ | ⟨_, d1, d2, q1, q2⟩
    all_goals
      go_enter Try.func9, Try.ntmps9
      go_wp2_with fail
      refine (awake05 _).mono ?_
      rintro x w1 ⟨rfl, b1⟩
      have HB1 := Lib.hid b1
      clear b1
      go_wp2
      go_ret
      exact ⟨rfl, HB1.out⟩
  have d1 : decide (40 < l.length) = false := by simp; omega
  have d2 : decide ((1000 : Int) < Rl.length) = false := by simp; omega
  have q1 : l.length ≤ 40 := by omega
  have q2 : Rl.length ≤ 1000 := by omega
  obtain ⟨r0, hr0⟩ : ∃ r, r = decF (str Rl) := ⟨_, rfl⟩
  obtain ⟨m, n, f⟩ := r0
  obtain ⟨z1, z2, z3⟩ := decF_out Rl m n f hr0.symm
  have HZ := Lib.hid z1
  have HNZ := Lib.hid z2
  have HOK := Lib.hid z3
  clear z1 z2 z3
  have HD2 : Hid (∀ W, Below w.heap.size w W → Calls Try.prog 24 #[.string (str Rl)] W fun x w' => ∃ v, x = .returned (.tuple #[v, .int .i64 n, .int .i64 f]) ∧ OwnL w' W.heap.size 48 3 encTest v m ∧ Below W.heap.size W w') := Lib.hid (fun W _ => by
    have := Decode_any W (str Rl) (by rw [str_size]; omega)
    rw [← hr0] at this
    exact this)
  have HE := Lib.hid (Encode_any w v l hv hok)
  by_cases hr : rightF l = 0
  case neg =>
    have tr : (rightF l == 0) = false := beq_eq_false_iff_ne.mpr hr
    have HR := Lib.hid (fun W hW => Right_any W v l (ReadL.below hv hW (Nat.le_refl w.heap.size)))
    rw [if_neg hr] at HE
    obtain ⟨xa, xc, rfl, _, _, _⟩ := hv
    clear hr hok h1 hr0 ht
    generalize rightF l = r at *
    have tr2 : (r != r) = false := by simp
    go_enter Try.func9, Try.ntmps9
    go_wp2_with fail
    refine HE.out.mono ?_
    rintro x w1 ⟨rfl, b1⟩
    have HB1 := Lib.hid b1
    clear b1 HE
    go_wp2_with fail
    refine (HR.out _ HB1.out).mono ?_
    rintro x w2 ⟨rfl, b2⟩
    have HB2 := Lib.hid (HB1.out.trans (b2.mono HB1.out.size))
    clear b2 HB1 HR
    go_wp2_with fail
    refine (HD2.out _ HB2.out).mono ?_
    rintro x w5 ⟨v5, rfl, o5, b5⟩
    have HB5 := Lib.hid (HB2.out.trans (b5.mono HB2.out.size))
    have hO5 := Lib.hid (ReadL.of_own o5 encTest_len)
    clear b5 o5 HB2 HD2
    by_cases hf : f = 0
    · obtain ⟨hrm, k, rfl, hk, hX⟩ := HZ.out hf
      have tf : (f == 0) = true := by simpa using hf
      have tn : (f != 0) = false := by simp [hf]
      have HEm := Lib.hid (Encode_any w5 v5 m hO5.out HOK.out)
      rw [if_pos hrm, hrm, hX] at HEm
      have hk0 : (0 : Int) ≤ k := by omega
      have hk1 : (k : Int) ≤ Rl.length := by omega
      have dk : decide (k ≤ Rl.length) = true := by simpa using hk
      have dki : decide ((k : Int) ≤ (Rl.length : Int)) = true := by simpa using hk
      clear HZ HNZ hrm hX HOK hO5 hf
      go_wp2_with fail
      refine HEm.out.mono ?_
      rintro x w6 ⟨rfl, b6⟩
      have HB6 := Lib.hid (HB5.out.trans (b6.mono HB5.out.size))
      clear b6 HB5 HEm
      go_wp2_with fail
      refine (awake05 _).mono ?_
      rintro x w7 ⟨rfl, b7⟩
      have HB7 := Lib.hid (HB6.out.trans (b7.mono HB6.out.size))
      clear b7 HB6
      go_wp2
      go_ret
      exact ⟨rfl, HB7.out⟩
    obtain ⟨rfl, rfl⟩ := HNZ.out hf
    have tn : (f != 0) = true := by simp [hf]
    obtain ⟨a5, c5, rfl, _, _, _⟩ := hO5.out
    clear HZ HNZ HOK hO5 hf
    go_wp2_with fail
    refine (awake05 _).mono ?_
    rintro x w7 ⟨rfl, b7⟩
    have HB7 := Lib.hid (HB5.out.trans (b7.mono HB5.out.size))
    clear b7 HB5
    go_wp2
    go_ret
    exact ⟨rfl, HB7.out⟩
  obtain ⟨he, h8, hl2⟩ := decF_enc hok hr Rl
  have HD1 : Hid (∀ W, Below w.heap.size w W → Calls Try.prog 24 #[.string (str (encB l ++ Rl))] W fun x w' => ∃ v, x = .returned (.tuple #[v, .int .i64 (encB l).length, .int .i64 0]) ∧ OwnL w' W.heap.size 48 3 encTest v l ∧ Below W.heap.size W w') := Lib.hid (fun W _ => by
    have := Decode_any W (str (encB l ++ Rl)) (by rw [str_size, List.length_append]; omega)
    rw [he] at this
    exact this)
  have HV : Hid (∀ W, Below w.heap.size w W → ReadL W 3 encTest v l) := Lib.hid (fun W hW => ReadL.below hv hW (Nat.le_refl w.heap.size))
  have HSs := Lib.hid (same_self l)
  rw [if_pos hr, hr] at HE
  have hv0 := hv
  obtain ⟨xa, xc, hva, _, _, _⟩ := hv0
  subst hva
  clear hv hr hok h1 hr0 ht he
  generalize encB l = eb at *
  have h8i : (eb.length : Int) % 8 = 0 := by omega
  go_enter Try.func9, Try.ntmps9
  go_wp2_with fail
  refine HE.out.mono ?_
  rintro x w1 ⟨rfl, b1⟩
  have HB1 := Lib.hid b1
  clear b1 HE
  go_wp2_with fail
  refine (HD1.out _ HB1.out).mono ?_
  rintro x w2 ⟨v2, rfl, o2, b2⟩
  have HB2 := Lib.hid (HB1.out.trans (b2.mono HB1.out.size))
  have HSm := Lib.hid (Same_any w2 v2 _ l l (ReadL.of_own o2 encTest_len) (HV.out w2 HB2.out))
  rw [HSs.out] at HSm
  clear b2 o2 HB1 HD1 HV HSs
  go_wp2_with fail
  refine HSm.out.mono ?_
  rintro x w3 ⟨rfl, b3⟩
  have HB3 := Lib.hid (HB2.out.trans (b3.mono HB2.out.size))
  clear b3 HB2 HSm h8 h8i
  go_wp2_with fail
  refine (HD2.out _ HB3.out).mono ?_
  rintro x w5 ⟨v5, rfl, o5, b5⟩
  have HB5 := Lib.hid (HB3.out.trans (b5.mono HB3.out.size))
  have hO5 := Lib.hid (ReadL.of_own o5 encTest_len)
  clear b5 o5 HB3 HD2
  by_cases hf : f = 0
  · obtain ⟨hrm, k, rfl, hk, hX⟩ := HZ.out hf
    have tf : (f == 0) = true := by simpa using hf
    have tn : (f != 0) = false := by simp [hf]
    have HEm := Lib.hid (Encode_any w5 v5 m hO5.out HOK.out)
    rw [if_pos hrm, hrm, hX] at HEm
    have hk0 : (0 : Int) ≤ k := by omega
    have hk1 : (k : Int) ≤ Rl.length := by omega
    have dk : decide (k ≤ Rl.length) = true := by simpa using hk
    have dki : decide ((k : Int) ≤ (Rl.length : Int)) = true := by simpa using hk
    clear HZ HNZ hrm hX HOK hO5 hf
    go_wp2_with fail
    refine HEm.out.mono ?_
    rintro x w6 ⟨rfl, b6⟩
    have HB6 := Lib.hid (HB5.out.trans (b6.mono HB5.out.size))
    clear b6 HB5 HEm
    go_wp2_with fail
    refine (awake05 _).mono ?_
    rintro x w7 ⟨rfl, b7⟩
    have HB7 := Lib.hid (HB6.out.trans (b7.mono HB6.out.size))
    clear b7 HB6
    go_wp2
    go_ret
    exact ⟨rfl, HB7.out⟩
  obtain ⟨rfl, rfl⟩ := HNZ.out hf
  have tn : (f != 0) = true := by simp [hf]
  obtain ⟨a5, c5, rfl, _, _, _⟩ := hO5.out
  clear HZ HNZ HOK hO5 hf
  go_wp2_with fail
  refine (awake05 _).mono ?_
  rintro x w7 ⟨rfl, b7⟩
  have HB7 := Lib.hid (HB5.out.trans (b7.mono HB5.out.size))
  clear b7 HB5
  go_wp2
  go_ret
  exact ⟨rfl, HB7.out⟩
end Go.Proofs.Ytaaadbmhcfjooaa
