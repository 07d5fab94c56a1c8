/- What bytes seem to be, read by the program's reader and by the reference; a right packet's bytes are it. -/
import Derived.Test.YthihncfmimkimaaFrameP
import Derived.Test.YthihncfmimkimaaRdK
namespace Go.Proofs.Ythihncfmimkimaa
open Go.RowKit
set_option linter.unusedVariables false
set_option linter.unusedSimpArgs false

theorem takeR_len (s : ByteArray) (e : Int) (n : Nat) (b : Bool) : (takeR s e n b).1.data.toList.length ≤ n := by
  unfold takeR
  by_cases h1 : e ≠ 0
  · rw [if_pos h1]; exact Nat.zero_le _
  · rw [if_neg h1]
    by_cases h2 : b = false
    · rw [if_pos h2]; exact Nat.zero_le _
    · rw [if_neg h2]
      by_cases h3 : (s.size : Int) < n
      · rw [if_pos h3]; exact Nat.zero_le _
      · rw [if_neg h3]
        have := size_data (s.extract 0 (n : Int).toNat)
        rw [this, ByteArray.size_extract]
        omega
theorem numR_bd (n : Nat) (r : RS) (h : n ≤ 8) : 0 ≤ numR n r ∧ numR n r < ((256 ^ n : Nat) : Int) := by
  unfold numR
  have hl := takeR_len r.1 r.2 n (decide (1 ≤ (n : Int) ∧ (n : Int) ≤ 8))
  generalize (takeR r.1 r.2 n (decide (1 ≤ (n : Int) ∧ (n : Int) ≤ 8))).1.data.toList = l at *
  rw [numG_eq l (by omega)]
  have h1 := numN_lt l
  have h2 : 256 ^ l.length ≤ 256 ^ n := Nat.pow_le_pow_right (by decide) hl
  omega
theorem numR_1 (r : RS) : 0 ≤ numR 1 r ∧ numR 1 r ≤ 255 := by have := numR_bd 1 r (by decide); simp at this; omega
theorem numR_2 (r : RS) : 0 ≤ numR 2 r ∧ numR 2 r ≤ 65535 := by have := numR_bd 2 r (by decide); simp at this; omega
theorem numR_4 (r : RS) : 0 ≤ numR 4 r ∧ numR 4 r ≤ 4294967295 := by have := numR_bd 4 r (by decide); simp at this; omega
theorem numR_6 (r : RS) : 0 ≤ numR 6 r ∧ numR 6 r ≤ 281474976710655 := by have := numR_bd 6 r (by decide); simp at this; omega
theorem numR_ok (x y : List UInt8) (k : Nat) (hk : 1 ≤ k ∧ k ≤ 8) (hx : x.length = k) : numR k (str (x ++ y), 0) = numN x ∧ numS k (str (x ++ y), 0) = (str y, 0) := by
  unfold numR numS
  have hd : decide (1 ≤ (k : Int) ∧ (k : Int) ≤ 8) = true := by simp; omega
  rw [hd, takeR_ok _ _ (by simp; omega)]
  subst hx
  simp only [List.take_left', List.drop_left', str_data]
  exact ⟨numG_eq _ (by omega), trivial⟩
theorem bytS_ok (x y : List UInt8) (k : Nat) (hx : x.length = k) : bytS k (str (x ++ y), 0) = (str y, 0) := by
  unfold bytS
  have hd : decide (0 ≤ (k : Int)) = true := by simp
  rw [hd, takeR_ok _ _ (by simp; omega)]
  subst hx
  simp
theorem numR_be (k n : Nat) (y : List UInt8) (hk : 1 ≤ k ∧ k ≤ 8) (hn : n < 256 ^ k) : numR k (str (beL k n ++ y), 0) = n := by
  rw [(numR_ok _ _ k hk (beL_length _ _)).1, numN_be, Nat.mod_eq_of_lt hn]
theorem numS_be (k n : Nat) (y : List UInt8) (hk : 1 ≤ k ∧ k ≤ 8) : numS k (str (beL k n ++ y), 0) = (str y, 0) := (numR_ok _ _ k hk (beL_length _ _)).2

/-- The part behind the addresses: the tag, the type, the reader. -/
def sVlan (r : RS) : Int := if numR 2 r = 33024 then 4096 + numR 2 (numS 2 r) else 0
def sType (r : RS) : Int := if numR 2 r = 33024 then numR 2 (numS 2 (numS 2 r)) else numR 2 r
def sRest (r : RS) : RS := if numR 2 r = 33024 then numS 2 (numS 2 (numS 2 r)) else numS 2 r
/-- The inner head: Life, Proto, the sum, Src, Dst, the reader. -/
structure InH where
  life : Int
  proto : Int
  head : Int
  src : Int
  dst : Int
  r : RS
def innH (ty : Int) (r : RS) : InH := if ty = 2048 then
    ⟨numR 1 (bytS 8 r), numR 1 (numS 1 (bytS 8 r)), numR 2 (numS 1 (numS 1 (bytS 8 r))), numR 4 (numS 2 (numS 1 (numS 1 (bytS 8 r)))), numR 4 (numS 4 (numS 2 (numS 1 (numS 1 (bytS 8 r))))), numS 4 (numS 4 (numS 2 (numS 1 (numS 1 (bytS 8 r)))))⟩
  else ⟨0, 0, 0, 0, 0, r⟩
/-- The ports: Sport, Dport, the part's sum, the reader. -/
structure InP where
  sport : Int
  dport : Int
  part : Int
  r : RS
def innP (pr : Int) (r : RS) : InP :=
  if pr = 17 then ⟨numR 2 r, numR 2 (numS 2 r), numR 2 (bytS 2 (numS 2 (numS 2 r))), numS 2 (bytS 2 (numS 2 (numS 2 r)))⟩
  else if pr = 6 then ⟨numR 2 r, numR 2 (numS 2 r), numR 2 (bytS 12 (numS 2 (numS 2 r))), bytS 2 (numS 2 (bytS 12 (numS 2 (numS 2 r))))⟩
  else ⟨0, 0, 0, r⟩
def seemsP (s : ByteArray) : Pkt × Int × Int :=
  let r2 := numS 6 (numS 6 (s, 0))
  let h := innH (sType r2) (sRest r2)
  let q := innP h.proto h.r
  (⟨numR 6 (s, 0), numR 6 (numS 6 (s, 0)), sVlan r2, sType r2, h.src, h.dst, h.life, h.proto, q.sport, q.dport, bytR (leftR q.r.1 q.r.2) q.r⟩, h.head, q.part)

/-- The sums that a packet's bytes bear: none, if it has none. -/
def nA (p : Pkt) (a : Nat) : Nat := if p.fType = 2048 then a else 0
def nB (p : Pkt) (b : Nat) : Nat := if p.fProto = 17 ∨ p.fProto = 6 then b else 0
theorem toNat_lt (n : Int) (k : Nat) (h : n < k) (h0 : 0 < k) : n.toNat < k := by omega

theorem bytR_all (l : List UInt8) : bytR (leftR (str l) 0) (str l, 0) = str l := by
  unfold bytR leftR
  simp only [if_true, str_size]
  have hd : decide (0 ≤ (l.length : Int)) = true := by simp
  rw [hd, takeR_ok _ _ (Nat.le_refl _)]
  simp
theorem sRest_tag (n t : Nat) (y : List UInt8) (hn : n < 65536) (ht : t < 65536) :
    sVlan (str (129 :: 0 :: (beL 2 n ++ (beL 2 t ++ y))), 0) = 4096 + n ∧ sType (str (129 :: 0 :: (beL 2 n ++ (beL 2 t ++ y))), 0) = t ∧ sRest (str (129 :: 0 :: (beL 2 n ++ (beL 2 t ++ y))), 0) = (str y, 0) := by
  have e1 : (129 :: 0 :: (beL 2 n ++ (beL 2 t ++ y))) = beL 2 33024 ++ (beL 2 n ++ (beL 2 t ++ y)) := rfl
  rw [e1]
  have h1 : numR 2 (str (beL 2 33024 ++ (beL 2 n ++ (beL 2 t ++ y))), 0) = 33024 := numR_be 2 33024 _ (by decide) (by decide)
  have h2 : numS 2 (str (beL 2 33024 ++ (beL 2 n ++ (beL 2 t ++ y))), 0) = (str (beL 2 n ++ (beL 2 t ++ y)), 0) := numS_be 2 33024 _ (by decide)
  have h3 : numR 2 (str (beL 2 n ++ (beL 2 t ++ y)), 0) = n := numR_be 2 n _ (by decide) hn
  have h4 : numS 2 (str (beL 2 n ++ (beL 2 t ++ y)), 0) = (str (beL 2 t ++ y), 0) := numS_be 2 n _ (by decide)
  have h5 : numR 2 (str (beL 2 t ++ y), 0) = t := numR_be 2 t _ (by decide) ht
  have h6 : numS 2 (str (beL 2 t ++ y), 0) = (str y, 0) := numS_be 2 t _ (by decide)
  unfold sVlan sType sRest
  rw [h1, h2, h3, h4, h5, h6]
  simp
theorem sRest_none (t : Nat) (y : List UInt8) (ht : t < 65536) (h8 : t ≠ 33024) :
    sVlan (str (beL 2 t ++ y), 0) = 0 ∧ sType (str (beL 2 t ++ y), 0) = t ∧ sRest (str (beL 2 t ++ y), 0) = (str y, 0) := by
  have h5 : numR 2 (str (beL 2 t ++ y), 0) = t := numR_be 2 t _ (by decide) ht
  have h6 : numS 2 (str (beL 2 t ++ y), 0) = (str y, 0) := numS_be 2 t _ (by decide)
  unfold sVlan sType sRest
  rw [h5, h6, if_neg (by omega), if_neg (by omega), if_neg (by omega)]
  exact ⟨rfl, rfl, rfl⟩
theorem innH_ok (p : Pkt) (n a : Nat) (y : List UInt8) (h : rightP p) (hu : okU p) (ht : p.fType = 2048) (ha : a < 65536) :
    innH 2048 (str (headB p n a ++ y), 0) = ⟨p.fLife, p.fProto, a, p.fSrc, p.fDst, (str y, 0)⟩ := by
  obtain ⟨l0, l1, q0, q1, _⟩ := h.2.2 ht
  obtain ⟨_, _, u1, u2, u3, u4⟩ := hu
  have e0 : headB p n a ++ y = (69 :: 0 :: (beL 2 (20 + n) ++ [0, 0, 0, 0])) ++ (beL 1 p.fLife.toNat ++ (beL 1 p.fProto.toNat ++ (beL 2 a ++ (beL 4 p.fSrc.toNat ++ (beL 4 p.fDst.toNat ++ y))))) := by
    simp [headB]
  rw [e0]
  have h0 : bytS 8 (str ((69 :: 0 :: (beL 2 (20 + n) ++ [0, 0, 0, 0])) ++ (beL 1 p.fLife.toNat ++ (beL 1 p.fProto.toNat ++ (beL 2 a ++ (beL 4 p.fSrc.toNat ++ (beL 4 p.fDst.toNat ++ y)))))), 0) = _ := bytS_ok _ _ 8 rfl
  have a1 : numR 1 (str (beL 1 p.fLife.toNat ++ (beL 1 p.fProto.toNat ++ (beL 2 a ++ (beL 4 p.fSrc.toNat ++ (beL 4 p.fDst.toNat ++ y))))), 0) = _ := numR_be 1 _ _ (by decide) (by omega)
  have a2 : numS 1 (str (beL 1 p.fLife.toNat ++ (beL 1 p.fProto.toNat ++ (beL 2 a ++ (beL 4 p.fSrc.toNat ++ (beL 4 p.fDst.toNat ++ y))))), 0) = _ := numS_be 1 _ _ (by decide)
  have b1 : numR 1 (str (beL 1 p.fProto.toNat ++ (beL 2 a ++ (beL 4 p.fSrc.toNat ++ (beL 4 p.fDst.toNat ++ y)))), 0) = _ := numR_be 1 _ _ (by decide) (by omega)
  have b2 : numS 1 (str (beL 1 p.fProto.toNat ++ (beL 2 a ++ (beL 4 p.fSrc.toNat ++ (beL 4 p.fDst.toNat ++ y)))), 0) = _ := numS_be 1 _ _ (by decide)
  have c1 : numR 2 (str (beL 2 a ++ (beL 4 p.fSrc.toNat ++ (beL 4 p.fDst.toNat ++ y))), 0) = _ := numR_be 2 _ _ (by decide) (by omega)
  have c2 : numS 2 (str (beL 2 a ++ (beL 4 p.fSrc.toNat ++ (beL 4 p.fDst.toNat ++ y))), 0) = _ := numS_be 2 _ _ (by decide)
  have d1 : numR 4 (str (beL 4 p.fSrc.toNat ++ (beL 4 p.fDst.toNat ++ y)), 0) = _ := numR_be 4 _ _ (by decide) (by omega)
  have d2 : numS 4 (str (beL 4 p.fSrc.toNat ++ (beL 4 p.fDst.toNat ++ y)), 0) = _ := numS_be 4 _ _ (by decide)
  have f1 : numR 4 (str (beL 4 p.fDst.toNat ++ y), 0) = _ := numR_be 4 _ _ (by decide) (by omega)
  have f2 : numS 4 (str (beL 4 p.fDst.toNat ++ y), 0) = _ := numS_be 4 _ _ (by decide)
  unfold innH
  rw [if_pos rfl, h0, a1, a2, b1, b2, c1, c2, d1, d2, f1, f2]
  congr 1 <;> omega
theorem innP_ok (p : Pkt) (b : Nat) (h : rightP p) (ht : p.fType = 2048) (hb : b < 65536) (hl : (dat p).length ≤ 3000) :
    innP p.fProto (str (partB p b), 0) = ⟨p.fSport, p.fDport, nB p b, (str (dat p), 0)⟩ := by
  obtain ⟨_, _, _, _, s0, s1, t0, t1, hp⟩ := h.2.2 ht
  unfold innP partB nB
  by_cases h17 : p.fProto = 17
  · rw [if_pos h17, if_pos h17, if_pos (.inl h17)]
    unfold portsB
    simp only [List.append_assoc]
    have a1 : numR 2 (str (beL 2 p.fSport.toNat ++ (beL 2 p.fDport.toNat ++ (beL 2 (8 + (dat p).length) ++ (beL 2 b ++ dat p)))), 0) = _ := numR_be 2 _ _ (by decide) (by omega)
    have a2 : numS 2 (str (beL 2 p.fSport.toNat ++ (beL 2 p.fDport.toNat ++ (beL 2 (8 + (dat p).length) ++ (beL 2 b ++ dat p)))), 0) = _ := numS_be 2 _ _ (by decide)
    have b1 : numR 2 (str (beL 2 p.fDport.toNat ++ (beL 2 (8 + (dat p).length) ++ (beL 2 b ++ dat p))), 0) = _ := numR_be 2 _ _ (by decide) (by omega)
    have b2 : numS 2 (str (beL 2 p.fDport.toNat ++ (beL 2 (8 + (dat p).length) ++ (beL 2 b ++ dat p))), 0) = _ := numS_be 2 _ _ (by decide)
    have c2 : bytS 2 (str (beL 2 (8 + (dat p).length) ++ (beL 2 b ++ dat p)), 0) = _ := bytS_ok _ _ 2 (beL_length _ _)
    have d1 : numR 2 (str (beL 2 b ++ dat p), 0) = _ := numR_be 2 _ _ (by decide) (by omega)
    have d2 : numS 2 (str (beL 2 b ++ dat p), 0) = _ := numS_be 2 _ _ (by decide)
    rw [a1, a2, b1, b2, c2, d1, d2]
    congr 1 <;> omega
  rw [if_neg h17, if_neg h17]
  by_cases h6 : p.fProto = 6
  · rw [if_pos h6, if_pos h6, if_pos (.inr h6)]
    unfold portsB
    simp only [List.append_assoc]
    have a1 : numR 2 (str (beL 2 p.fSport.toNat ++ (beL 2 p.fDport.toNat ++ (tailB ++ (beL 2 b ++ (0 :: 0 :: dat p))))), 0) = _ := numR_be 2 _ _ (by decide) (by omega)
    have a2 : numS 2 (str (beL 2 p.fSport.toNat ++ (beL 2 p.fDport.toNat ++ (tailB ++ (beL 2 b ++ (0 :: 0 :: dat p))))), 0) = _ := numS_be 2 _ _ (by decide)
    have b1 : numR 2 (str (beL 2 p.fDport.toNat ++ (tailB ++ (beL 2 b ++ (0 :: 0 :: dat p)))), 0) = _ := numR_be 2 _ _ (by decide) (by omega)
    have b2 : numS 2 (str (beL 2 p.fDport.toNat ++ (tailB ++ (beL 2 b ++ (0 :: 0 :: dat p)))), 0) = _ := numS_be 2 _ _ (by decide)
    have c2 : bytS 12 (str (tailB ++ (beL 2 b ++ (0 :: 0 :: dat p))), 0) = _ := bytS_ok _ _ 12 rfl
    have d1 : numR 2 (str (beL 2 b ++ (0 :: 0 :: dat p)), 0) = _ := numR_be 2 _ _ (by decide) (by omega)
    have d2 : numS 2 (str (beL 2 b ++ (0 :: 0 :: dat p)), 0) = _ := numS_be 2 _ _ (by decide)
    have e2 : bytS 2 (str (0 :: 0 :: dat p), 0) = _ := bytS_ok [0, 0] (dat p) 2 rfl
    rw [a1, a2, b1, b2, c2, d1, d2, e2]
    congr 1 <;> omega
  · rw [if_neg h6, if_neg h6, if_neg (by simp [h6, h17])]
    have : p.fSport = 0 ∧ p.fDport = 0 := by
      rcases hp with h | h | h
      · exact absurd h h6
      · exact absurd h h17
      · exact h
    rw [this.1, this.2]
    rfl
theorem seemsP_ok (p : Pkt) (a b : Nat) (h : rightP p) (hu : okU p) (ha : a < 65536) (hb : b < 65536) (hl : (dat p).length ≤ 3000) :
    seemsP (str (laidB p a b)) = (p, (nA p a : Int), (nB p b : Int)) := by
  obtain ⟨c1, c2, c3, c4, c5, c6⟩ := h.1
  have u1 := hu.1
  have u2 := hu.2.1
  unfold laidB
  generalize hY : (if p.fType = 2048 then headB p (partB p b).length a ++ partB p b else dat p) = Y
  have a1 : numR 6 (str (beL 6 p.fTo.toNat ++ (beL 6 p.fFrom.toNat ++ (vlanB p ++ (beL 2 p.fType.toNat ++ Y)))), 0) = _ := numR_be 6 _ _ (by decide) (by omega)
  have a2 : numS 6 (str (beL 6 p.fTo.toNat ++ (beL 6 p.fFrom.toNat ++ (vlanB p ++ (beL 2 p.fType.toNat ++ Y)))), 0) = _ := numS_be 6 _ _ (by decide)
  have b1 : numR 6 (str (beL 6 p.fFrom.toNat ++ (vlanB p ++ (beL 2 p.fType.toNat ++ Y))), 0) = _ := numR_be 6 _ _ (by decide) (by omega)
  have b2 : numS 6 (str (beL 6 p.fFrom.toNat ++ (vlanB p ++ (beL 2 p.fType.toNat ++ Y))), 0) = _ := numS_be 6 _ _ (by decide)
  have hv : sVlan (str (vlanB p ++ (beL 2 p.fType.toNat ++ Y)), 0) = p.fVlan ∧ sType (str (vlanB p ++ (beL 2 p.fType.toNat ++ Y)), 0) = p.fType ∧ sRest (str (vlanB p ++ (beL 2 p.fType.toNat ++ Y)), 0) = (str Y, 0) := by
    unfold vlanB
    by_cases hz : p.fVlan = 0
    · rw [if_pos hz, List.nil_append]
      obtain ⟨v1, v2, v3⟩ := sRest_none p.fType.toNat Y (by omega) (by omega)
      rw [v1, v2, v3]
      exact ⟨by omega, by omega, rfl⟩
    · rw [if_neg hz]
      obtain ⟨v1, v2, v3⟩ := sRest_tag (p.fVlan - 4096).toNat p.fType.toNat Y (by omega) (by omega)
      simp only [List.cons_append]
      rw [v1, v2, v3]
      exact ⟨by omega, by omega, rfl⟩
  have hi : innH p.fType (str Y, 0) = ⟨p.fLife, p.fProto, nA p a, p.fSrc, p.fDst, (str (if p.fType = 2048 then partB p b else dat p), 0)⟩ := by
    unfold nA
    by_cases ht : p.fType = 2048
    · subst hY
      rw [if_pos ht, if_pos ht, if_pos ht, ht]
      exact innH_ok p _ a _ h hu ht ha
    · subst hY
      rw [if_neg ht, if_neg ht, if_neg ht]
      unfold innH
      rw [if_neg ht]
      obtain ⟨z1, z2, z3, z4, z5, z6⟩ := h.2.1 ht
      rw [z1, z2, z3, z4]
      rfl
  have hq : innP p.fProto (str (if p.fType = 2048 then partB p b else dat p), 0) = ⟨p.fSport, p.fDport, nB p b, (str (dat p), 0)⟩ := by
    by_cases ht : p.fType = 2048
    · rw [if_pos ht]; exact innP_ok p b h ht hb hl
    · rw [if_neg ht]
      obtain ⟨z1, z2, z3, z4, z5, z6⟩ := h.2.1 ht
      unfold innP nB
      rw [z4, z5, z6]
      rfl
  unfold seemsP
  simp only [a1, a2, b1, b2, hv.1, hv.2.1, hv.2.2, hi, hq, bytR_all]
  rw [show str (dat p) = p.fData from str_of _, Int.toNat_of_nonneg u1, Int.toNat_of_nonneg u2]
end Go.Proofs.Ythihncfmimkimaa
