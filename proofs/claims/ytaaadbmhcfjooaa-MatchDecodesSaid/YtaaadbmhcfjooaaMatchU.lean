/- match.Decode. -/
import Derived.Test.YtaaadbmhcfjooaaMatchT
import Derived.Test.YtaaadbmhcfjooaaMatchG
namespace Go.Proofs.Ytaaadbmhcfjooaa
open Go.RowKit
set_option linter.unusedVariables false

theorem stepS_ok {s : ByteArray} {e : Int} {t : Test} {s' : ByteArray} {e' : Int} (h : stepS s e = some (t, s', e')) : okT t := by
  unfold stepS at h
  simp only at h
  split at h
  · simp at h
  · split at h
    · injection h with h; injection h with h1 h2; subst h1
      exact ⟨numG_U64 _, numG_U64 _⟩
    · injection h with h; injection h with h1 h2; subst h1
      exact ⟨numG_U64 _, greatF_U64 _⟩
theorem seemsF_ok : ∀ (n : Nat) (s : ByteArray) (e : Int) (acc : List Test), (∀ t ∈ acc, okT t) → ∀ t ∈ seemsF n s e acc, okT t
  | 0, _, _, acc, h => h
  | n + 1, s, e, acc, h => by
    unfold seemsF
    split
    · cases hs : stepS s e with
      | none => intro t ht; simp at ht
      | some r =>
        obtain ⟨t, s', e'⟩ := r
        refine seemsF_ok n s' e' _ ?_
        intro u hu
        rcases List.mem_append.1 hu with h1 | h1
        · exact h u h1
        · rw [List.mem_singleton.1 h1]; exact stepS_ok hs
    · exact h

/-- A byte of a text. -/
def byteA (d : ByteArray) (i : Nat) : Nat := (d.data.toList.getD i 0).toNat
theorem byteA_le (d : ByteArray) (i : Nat) : byteA d i ≤ 255 := by have := (d.data.toList.getD i 0).toNat_lt; unfold byteA; omega
theorem byteA_get (d : ByteArray) (i : Nat) (h : i < d.size) : (d[i]'h).toNat = byteA d i := by
  have : d.data.toList.getD i 0 = d[i]'h := by
    rw [List.getD_eq_getElem?_getD, List.getElem?_eq_getElem (by simpa using h)]; rfl
  unfold byteA
  rw [this]
/-- The length that a match's bytes tell. -/
def lenD (d : ByteArray) : Nat := byteA d 2 * 256 + byteA d 3
def endD (d : ByteArray) : Nat := (lenD d + 7) / 8 * 8
/-- The match that bytes begin with, how many bytes that are, and what is wrong. -/
def decF (d : ByteArray) : List Test × Int × Int :=
  if d.size < 4 then ([], 0, 10) else if d.size < endD d then ([], 0, 10) else if lenD d < 4 then ([], 0, 11) else
    if rightF (seemsF (lenD d) (d.extract 4 (lenD d)) 0 []) ≠ 0 then ([], 0, 11) else
    if str (encB (seemsF (lenD d) (d.extract 4 (lenD d)) 0 [])) = d.extract 0 (endD d) then (seemsF (lenD d) (d.extract 4 (lenD d)) 0 [], (endD d : Int), 0) else ([], 0, 11)

def DecPost (w : World) (r : List Test × Int × Int) (x : Ending) (w' : World) : Prop :=
  ∃ v, x = .returned (.tuple #[v, .int .i64 r.2.1, .int .i64 r.2.2]) ∧ OwnL w' w.heap.size 48 3 encTest v r.1 ∧ Below w.heap.size w w'

theorem OwnL.down {α : Type} {w : World} {B C : Nat} {e : TypeId} {size : Nat} {enc : α → List Value} {v : Value} {xs : List α} (h : OwnL w B e size enc v xs) (hc : C ≤ B) : OwnL w C e size enc v xs := by
  refine ⟨h.1, ?_⟩
  rcases h.2 with ⟨h1, h2⟩ | ⟨g, cap, cur, h1, h2, h3, r⟩
  · exact .inl ⟨h1, h2⟩
  · exact .inr ⟨g, cap, cur, h1, Nat.le_trans hc h2, h3, r⟩
theorem list_ne {Y X : ByteArray} (h : ¬ Y = X) : (Y.toList == X.toList) = false := by
  refine beq_eq_false_iff_ne.mpr (fun e => h ?_)
  rw [ByteArray.toList_eq, ByteArray.toList_eq] at e
  exact ByteArray.ext (Array.toList_inj.mp e)
theorem or_i64 {a b : Nat} (ha : a ≤ 255) (hb : b ≤ 255) : bits .or .i64 ((a : Int) * 256) (b : Int) = ((a * 256 + b : Nat) : Int) := by
  have e : (a : Int) * 256 = ((a * 256 : Nat) : Int) := by omega
  have h1 : a * 256 ||| b = a * 256 + b := by
    have := Nat.two_pow_add_eq_or_of_lt (i := 8) (b := b) (by omega) a
    rw [Nat.mul_comm] at this
    exact this.symm
  rw [e]
  show IntKind.i64.wrap ((BitVec.ofInt 64 ((a * 256 : Nat) : Int) ||| BitVec.ofInt 64 (b : Int)).toNat : Int) = _
  rw [BitVec.toNat_or, ofInt_u64 _ (by omega), ofInt_u64 b (by omega), h1]
  simp [IntKind.wrap, IntKind.bits, IntKind.signed]
  omega
theorem i64_wrap_in {v : Int} (h0 : -1000000 ≤ v) (h1 : v ≤ 1000000) : IntKind.i64.wrap v = v := IntWalk.i64_in v (by omega)

set_option maxRecDepth 100000 in
set_option maxHeartbeats 8000000 in
theorem Decode_any (w : World) (d : ByteArray) (hd : d.size ≤ 1000000) :
    Calls Try.prog 24 #[.string d] w (DecPost w (decF d)) := by
  by_cases h4 : d.size < 4
  · have d1 : decide ((d.size : Int) < 4) = true := by simp; omega
    have hF : decF d = ([], 0, 10) := by unfold decF; rw [if_pos h4]
    rw [hF]
    clear hF h4
    go_enter Try.func24, Try.ntmps24
    go_wp2_with fail
    go_ret3
    exact ⟨_, rfl, OwnL.nil _ _ _ _ _, Below.refl _ _⟩
  have d1 : decide ((d.size : Int) < 4) = false := by simp; omega
  have q1 : 4 ≤ d.size := by omega
  have q2 : 2 < d.size := by omega
  have q3 : 3 < d.size := by omega
  have i2 : (2 : Int) < d.size := by omega
  have i3 : (3 : Int) < d.size := by omega
  have b2 := byteA_get d 2 q2
  have b3 := byteA_get d 3 q3
  have l2 := byteA_le d 2
  have l3 := byteA_le d 3
  have hK := Lib.hid (KR.start (Below.refl w.heap.size w) (Nat.le_refl _))
  have HF : Hid (decF d = if d.size < endD d then ([], 0, 10) else if lenD d < 4 then ([], 0, 11) else
    if rightF (seemsF (lenD d) (d.extract 4 (lenD d)) 0 []) ≠ 0 then ([], 0, 11) else
    if str (encB (seemsF (lenD d) (d.extract 4 (lenD d)) 0 [])) = d.extract 0 (endD d) then (seemsF (lenD d) (d.extract 4 (lenD d)) 0 [], (endD d : Int), 0) else ([], 0, 11)) := Lib.hid (by
      unfold decF; rw [if_neg h4])
  have HN : Hid (lenD d = byteA d 2 * 256 + byteA d 3) := Lib.hid rfl
  have HE : Hid (endD d = (lenD d + 7) / 8 * 8) := Lib.hid rfl
  clear h4
  generalize lenD d = n at *
  generalize endD d = en at *
  generalize byteA d 2 = x2 at *
  generalize byteA d 3 = x3 at *
  generalize decF d = R at *
  go_enter Try.func24, Try.ntmps24
  go_upto_region 3 with fail
  haveI : Nonempty (Keep (KR w.heap.size w [])) := ⟨⟨_, hK.out⟩⟩
  refine wp_region_keep2 (Cl := KR w.heap.size w []) (by kernel_rfl) (by kernel_rfl) hK.out.drew ?_
  intro y' hy
  clear hy hK
  repeat (refine wpQ2_step (fun K hK => ?_)
          go_simp
          first
            | (refine hK _ ?_; clear hK K)
            | fail)
  refine wpQ2_nil ?_
  intro w1 K1
  have HB1 := Lib.hid K1.below
  clear K1
  have hor : bits .or .i64 ((x2 : Int) * 256) (x3 : Int) = (n : Int) := by rw [HN.out]; exact or_i64 l2 l3
  have hn : n ≤ 65535 := by have := HN.out; omega
  have hen : ((n : Int) + 8 - 1) / 8 * 8 = (en : Int) := by have := HE.out; omega
  have w2 : IntKind.i64.wrap (x2 : Int) = x2 := i64_wrap_in (by omega) (by omega)
  have w3 : IntKind.i64.wrap (x3 : Int) = x3 := i64_wrap_in (by omega) (by omega)
  have w4 : IntKind.i64.wrap ((x2 : Int) * 256) = (x2 : Int) * 256 := i64_wrap_in (by omega) (by omega)
  simp only [w2, w3, w4, hor]
  clear w2 w3 w4 hor
  have e0 : (0 : Int) ≤ n := by omega
  clear HN
  by_cases h5 : d.size < en
  · have d2 : decide (d.size < en) = true := by simp; omega
    have hR : Hid (R = ([], 0, 10)) := Lib.hid (by rw [HF.out, if_pos h5])
    clear HF h5 HE
    go_wp2_with fail
    go_ret3
    rw [hR.out]
    exact ⟨_, rfl, OwnL.nil _ _ _ _ _, HB1.out⟩
  have d2 : decide (d.size < en) = false := by simp; omega
  by_cases h6 : n < 4
  · have d3 : decide ((n : Int) < 4) = true := by simp; omega
    have hR : Hid (R = ([], 0, 11)) := Lib.hid (by rw [HF.out, if_neg h5, if_pos h6])
    clear HF h5 HE h6
    go_wp2_with fail
    go_ret3
    rw [hR.out]
    exact ⟨_, rfl, OwnL.nil _ _ _ _ _, HB1.out⟩
  have d3 : decide ((n : Int) < 4) = false := by simp; omega
  have HF2 := HF.out
  rw [if_neg h5, if_neg h6] at HF2
  have HF3 := Lib.hid HF2
  have e1 : n ≤ d.size := by have := HE.out; omega
  have e2 : (4 : Int) ≤ n := by omega
  have e3 : (n : Int) ≤ d.size := by omega
  have e4 : (en : Int) ≤ d.size := by omega
  have e5 : (0 : Int) ≤ en := by omega
  clear HF HF2 h5 h6 HE
  have hoks := Lib.hid (seemsF_ok n (d.extract 4 n) 0 [] (by simp))
  have HS := Lib.hid (fun W => seems_any W (d.extract 4 n) n (by rw [ByteArray.size_extract]; omega) (by omega) _ rfl)
  generalize seemsF n (d.extract 4 n) 0 [] = l at *
  go_wp2_with fail
  refine (HS.out _).mono ?_
  rintro x w2 ⟨v, rfl, o2, b2'⟩
  have hO2 := Lib.hid o2
  have HB2 := Lib.hid (HB1.out.trans (b2'.mono HB1.out.size))
  have hO2' := Lib.hid (o2.down HB1.out.size)
  clear o2 b2' HB1 HS
  have HEn := Lib.hid (Encode_any w2 v l (ReadL.of_own hO2.out encTest_len) hoks.out)
  clear hoks hO2
  by_cases hr : rightF l = 0
  case neg =>
    have t1 : (rightF l != 0) = true := by simp [hr]
    have hR : Hid (R = ([], 0, 11)) := Lib.hid (by rw [HF3.out, if_pos hr])
    rw [if_neg hr] at HEn
    clear HF3 hr
    generalize rightF l = r at *
    go_wp2_with fail
    refine HEn.out.mono ?_
    rintro x w3 ⟨rfl, b3'⟩
    have HB3 := Lib.hid (HB2.out.trans (b3'.mono HB2.out.size))
    clear b3' HB2 HEn
    go_wp2_with fail
    go_ret3
    rw [hR.out]
    exact ⟨_, rfl, OwnL.nil _ _ _ _ _, HB3.out⟩
  rw [if_pos hr, hr] at HEn
  have HF4 := HF3.out
  rw [if_neg (by simp [hr])] at HF4
  have HF5 := Lib.hid HF4
  clear HF3 HF4 hr
  generalize encB l = eb at *
  by_cases hq : str eb = d.extract 0 en
  · have hR : Hid (R = (l, (en : Int), 0)) := Lib.hid (by rw [HF5.out, if_pos hq])
    clear HF5
    rw [hq] at HEn
    clear hq
    generalize hX : d.extract 0 en = X at *
    go_wp2_with fail
    refine HEn.out.mono ?_
    rintro x w3 ⟨rfl, b3'⟩
    have HB3 := Lib.hid (HB2.out.trans (b3'.mono HB2.out.size))
    have hO3 := Lib.hid (hO2'.out.belowAll b3')
    clear b3' HB2 HEn hO2'
    go_wp2_with fail
    go_ret3
    rw [hR.out]
    exact ⟨_, rfl, hO3.out, HB3.out⟩
  have hR : Hid (R = ([], 0, 11)) := Lib.hid (by rw [HF5.out, if_neg hq])
  clear HF5
  generalize str eb = Y at *
  generalize hX : d.extract 0 en = X at *
  have t1 : (Y.toList == X.toList) = false := list_ne hq
  go_wp2_with fail
  refine HEn.out.mono ?_
  rintro x w3 ⟨rfl, b3'⟩
  have HB3 := Lib.hid (HB2.out.trans (b3'.mono HB2.out.size))
  clear b3' HB2 HEn hO2'
  go_wp2_with fail
  go_ret3
  rw [hR.out]
  exact ⟨_, rfl, OwnL.nil _ _ _ _ _, HB3.out⟩
end Go.Proofs.Ytaaadbmhcfjooaa
