/- What bytes seem to be, as the reference reads them; both parse alike; the plain laws. -/
import Derived.Test.YthihncfmimkimaaFrameS
namespace Go.Proofs.Ythihncfmimkimaa
open Go.RowKit
set_option linter.unusedVariables false
set_option linter.unusedSimpArgs false

/-- So many bytes from a place on, noughts behind the last one. -/
def atL (l : List UInt8) (i n : Nat) : List UInt8 := ((l ++ List.replicate 64 0).drop i).take n
theorem atL_skip (x y : List UInt8) (i j n : Nat) (h : x.length + j = i) : atL (x ++ y) i n = atL y j n := by
  unfold atL
  rw [← h, List.append_assoc, ← List.drop_drop, List.drop_left' rfl]
theorem atL_mid (y z : List UInt8) (n : Nat) (h : y.length = n) : atL (y ++ z) 0 n = y := by
  unfold atL
  rw [List.drop_zero, List.append_assoc, ← h, List.take_left']
  rfl
theorem atL_len (l : List UInt8) (i n : Nat) : (atL l i n).length ≤ n := List.length_take_le _ _
theorem num_be (k n : Nat) (hk : k ≤ 8) (hn : n < 256 ^ k) : numG (beL k n) = n := by
  rw [numG_eq _ (by rw [beL_length]; exact hk), numN_be, Nat.mod_eq_of_lt hn]
/-- Where the type is: the tag, the place behind it. -/
def rTag (l : List UInt8) : Bool := decide (atL l 12 2 = [129, 0])
def rVlan (l : List UInt8) : Int := if rTag l then 4096 + numG (atL l 14 2) else 0
def rAt (l : List UInt8) : Nat := if rTag l then 16 else 12
def rType (l : List UInt8) : Int := numG (atL l (rAt l) 2)
def seemsR (l : List UInt8) : Pkt × Int × Int :=
  let i := rAt l + 2
  if rType l ≠ 2048 then (⟨numG (atL l 0 6), numG (atL l 6 6), rVlan l, rType l, 0, 0, 0, 0, 0, 0, str (l.drop i)⟩, 0, 0) else
  let life := numG (atL l (i + 8) 1)
  let proto := numG (atL l (i + 9) 1)
  let a := numG (atL l (i + 10) 2)
  let src := numG (atL l (i + 12) 4)
  let dst := numG (atL l (i + 16) 4)
  if proto = 17 then (⟨numG (atL l 0 6), numG (atL l 6 6), rVlan l, rType l, src, dst, life, proto, numG (atL l (i + 20) 2), numG (atL l (i + 22) 2), str (l.drop (i + 28))⟩, a, numG (atL l (i + 26) 2)) else
  if proto = 6 then (⟨numG (atL l 0 6), numG (atL l 6 6), rVlan l, rType l, src, dst, life, proto, numG (atL l (i + 20) 2), numG (atL l (i + 22) 2), str (l.drop (i + 40))⟩, a, numG (atL l (i + 36) 2)) else
  (⟨numG (atL l 0 6), numG (atL l 6 6), rVlan l, rType l, src, dst, life, proto, 0, 0, str (l.drop (i + 20))⟩, a, 0)
theorem str_dat (p : Pkt) : str (dat p) = p.fData := str_of _
theorem seemsR_ok (p : Pkt) (a b : Nat) (h : rightP p) (hu : okU p) (ha : a < 65536) (hb : b < 65536) (hl : (dat p).length ≤ 3000) :
    seemsR (laidB p a b) = (p, (nA p a : Int), (nB p b : Int)) := by
  obtain ⟨c1, c2, c3, c4, c5, c6⟩ := h.1
  have u1 := hu.1
  have u2 := hu.2.1
  obtain ⟨X, Y, hX, hXl, hY, hYl, hA⟩ : ∃ X Y : List UInt8, X = beL 6 p.fTo.toNat ++ (beL 6 p.fFrom.toNat ++ vlanB p) ∧ X.length = 12 + (vlanB p).length ∧ Y = (if p.fType = 2048 then headB p (partB p b).length a ++ partB p b else dat p) ∧ True ∧
      laidB p a b = X ++ (beL 2 p.fType.toNat ++ Y) := ⟨_, _, rfl, by simp [beL_length]; omega, rfl, trivial, by unfold laidB; simp only [List.append_assoc]⟩
  have hTo : numG (atL (laidB p a b) 0 6) = p.fTo := by
    unfold laidB
    rw [atL_mid _ _ _ (beL_length _ _), num_be _ _ (by decide) (by omega)]; omega
  have hFr : numG (atL (laidB p a b) 6 6) = p.fFrom := by
    unfold laidB
    rw [atL_skip _ _ 6 0 6 (by rw [beL_length]), atL_mid _ _ _ (beL_length _ _), num_be _ _ (by decide) (by omega)]; omega
  have hT : rTag (laidB p a b) = decide (p.fVlan ≠ 0) ∧ rVlan (laidB p a b) = p.fVlan ∧ rAt (laidB p a b) = X.length := by
    have hat : atL (laidB p a b) 12 2 = atL (vlanB p ++ (beL 2 p.fType.toNat ++ Y)) 0 2 := by
      unfold laidB
      rw [atL_skip _ _ 12 6 2 (by rw [beL_length]), atL_skip _ _ 6 0 2 (by rw [beL_length]), hY]
    have hat2 : atL (laidB p a b) 14 2 = atL (vlanB p ++ (beL 2 p.fType.toNat ++ Y)) 2 2 := by
      unfold laidB
      rw [atL_skip _ _ 14 8 2 (by rw [beL_length]), atL_skip _ _ 8 2 2 (by rw [beL_length]), hY]
    unfold rTag rVlan rAt
    unfold rTag
    rw [hat, hat2, hXl]
    unfold vlanB
    by_cases hz : p.fVlan = 0
    · rw [if_pos hz, List.nil_append, atL_mid _ _ _ (beL_length _ _)]
      have hne : ¬ beL 2 p.fType.toNat = [129, 0] := by
        intro e
        have h1 := num_be 2 p.fType.toNat (by decide) (by omega)
        rw [e] at h1
        have h2 : numG [129, 0] = 33024 := num_be 2 33024 (by decide) (by decide)
        omega
      simp [hne, hz]
    · rw [if_neg hz]
      have e1 : atL ((129 :: 0 :: beL 2 (p.fVlan - 4096).toNat) ++ (beL 2 p.fType.toNat ++ Y)) 0 2 = [129, 0] := atL_mid [129, 0] (beL 2 (p.fVlan - 4096).toNat ++ (beL 2 p.fType.toNat ++ Y)) 2 rfl
      have e2 : atL ((129 :: 0 :: beL 2 (p.fVlan - 4096).toNat) ++ (beL 2 p.fType.toNat ++ Y)) 2 2 = beL 2 (p.fVlan - 4096).toNat := by
        have := atL_skip [129, 0] (beL 2 (p.fVlan - 4096).toNat ++ (beL 2 p.fType.toNat ++ Y)) 2 0 2 rfl
        rw [atL_mid _ _ _ (beL_length _ _)] at this
        exact this
      rw [e1, e2, num_be _ _ (by decide) (by omega)]
      simp [hz, beL_length]
      omega
  have hTy : rType (laidB p a b) = p.fType := by
    unfold rType
    rw [hT.2.2, hA, atL_skip _ _ X.length 0 2 rfl, atL_mid _ _ _ (beL_length _ _), num_be _ _ (by decide) (by omega)]; omega
  have hsk : ∀ j n, atL (laidB p a b) (X.length + 2 + j) n = atL Y j n := by
    intro j n
    rw [hA, atL_skip _ _ _ (2 + j) n (by omega), atL_skip _ _ _ j n (by rw [beL_length])]
  have hdr : ∀ j, (laidB p a b).drop (X.length + 2 + j) = Y.drop j := by
    intro j
    rw [hA, show X.length + 2 + j = X.length + (2 + j) by omega, ← List.drop_drop, List.drop_left', ← List.drop_drop, List.drop_left']
    · rw [beL_length]
    · rfl
  unfold seemsR
  simp only [hTo, hFr, hT.2.1, hT.2.2, hTy, hsk]
  have hd0 := hdr 0
  rw [Nat.add_zero, List.drop_zero] at hd0
  rw [hd0]
  by_cases ht : p.fType = 2048
  · rw [if_neg (by simpa using ht)]
    obtain ⟨l0, l1, q0, q1, s0, s1, t0, t1, hp⟩ := h.2.2 ht
    obtain ⟨_, _, v1, v2, v3, v4⟩ := hu
    rw [if_pos ht] at hY
    simp only [hdr]
    have eY : Y = (69 :: 0 :: (beL 2 (20 + (partB p b).length) ++ [0, 0, 0, 0])) ++ (beL 1 p.fLife.toNat ++ (beL 1 p.fProto.toNat ++ (beL 2 a ++ (beL 4 p.fSrc.toNat ++ (beL 4 p.fDst.toNat ++ partB p b))))) := by
      rw [hY]; simp [headB]
    have g1 : numG (atL Y 8 1) = p.fLife := by
      rw [eY, atL_skip _ _ 8 0 1 rfl, atL_mid _ _ _ (beL_length _ _), num_be _ _ (by decide) (by omega)]; omega
    have g2 : numG (atL Y 9 1) = p.fProto := by
      rw [eY, atL_skip _ _ 9 1 1 rfl, atL_skip _ _ 1 0 1 rfl, atL_mid _ _ _ (beL_length _ _), num_be _ _ (by decide) (by omega)]; omega
    have g3 : numG (atL Y 10 2) = a := by
      rw [eY, atL_skip _ _ 10 2 2 rfl, atL_skip _ _ 2 1 2 rfl, atL_skip _ _ 1 0 2 rfl, atL_mid _ _ _ (beL_length _ _), num_be _ _ (by decide) (by omega)]
    have g4 : numG (atL Y 12 4) = p.fSrc := by
      rw [eY, atL_skip _ _ 12 4 4 rfl, atL_skip _ _ 4 3 4 rfl, atL_skip _ _ 3 2 4 rfl, atL_skip _ _ 2 0 4 rfl, atL_mid _ _ _ (beL_length _ _), num_be _ _ (by decide) (by omega)]; omega
    have g5 : numG (atL Y 16 4) = p.fDst := by
      rw [eY, atL_skip _ _ 16 8 4 rfl, atL_skip _ _ 8 7 4 rfl, atL_skip _ _ 7 6 4 rfl, atL_skip _ _ 6 4 4 rfl, atL_skip _ _ 4 0 4 rfl, atL_mid _ _ _ (beL_length _ _), num_be _ _ (by decide) (by omega)]; omega
    have gs : ∀ j n, atL Y (20 + j) n = atL (partB p b) j n := by
      intro j n
      rw [hY, atL_skip _ _ _ j n (by rw [headB_len])]
    have gd : ∀ j, Y.drop (20 + j) = (partB p b).drop j := by
      intro j
      rw [hY, ← List.drop_drop, List.drop_left' (headB_len _ _ _)]
    have gs0 := fun n => gs 0 n
    have gs2 := fun n => gs 2 n
    have gs6 := fun n => gs 6 n
    have gs16 := fun n => gs 16 n
    have gd0 := gd 0
    have gd8 := gd 8
    have gd20 := gd 20
    simp only [Nat.reduceAdd] at gs0 gs2 gs6 gs16 gd0 gd8 gd20
    simp only [g1, g2, g3, g4, g5, gs0, gs2, gs6, gs16, gd0, gd8, gd20]
    unfold nA nB
    rw [if_pos ht]
    by_cases h17 : p.fProto = 17
    · rw [if_pos h17, if_pos (.inl h17)]
      have eP : partB p b = beL 2 p.fSport.toNat ++ (beL 2 p.fDport.toNat ++ (beL 2 (8 + (dat p).length) ++ (beL 2 b ++ dat p))) := by
        unfold partB portsB; rw [if_pos h17]; simp only [List.append_assoc]
      rw [eP]
      rw [atL_mid _ _ _ (beL_length _ _), num_be _ _ (by decide) (by omega), atL_skip _ _ 2 0 2 rfl, atL_mid _ _ _ (beL_length _ _), num_be _ _ (by decide) (by omega),
        atL_skip _ _ 6 4 2 rfl, atL_skip _ _ 4 2 2 rfl, atL_skip _ _ 2 0 2 rfl, atL_mid _ _ _ (beL_length _ _), num_be _ _ (by decide) (by omega)]
      have e8 : (beL 2 p.fSport.toNat ++ (beL 2 p.fDport.toNat ++ (beL 2 (8 + (dat p).length) ++ (beL 2 b ++ dat p)))).drop 8 = dat p := rfl
      rw [e8, str_dat, Int.toNat_of_nonneg s0, Int.toNat_of_nonneg t0]
    rw [if_neg h17]
    by_cases h6 : p.fProto = 6
    · rw [if_pos h6, if_pos (.inr h6)]
      have eP : partB p b = beL 2 p.fSport.toNat ++ (beL 2 p.fDport.toNat ++ (tailB ++ (beL 2 b ++ (0 :: 0 :: dat p)))) := by
        unfold partB portsB; rw [if_neg h17, if_pos h6]; simp only [List.append_assoc]
      rw [eP]
      rw [atL_mid _ _ _ (beL_length _ _), num_be _ _ (by decide) (by omega), atL_skip _ _ 2 0 2 rfl, atL_mid _ _ _ (beL_length _ _), num_be _ _ (by decide) (by omega),
        atL_skip _ _ 16 14 2 rfl, atL_skip _ _ 14 12 2 rfl, atL_skip _ _ 12 0 2 rfl, atL_mid _ _ _ (beL_length _ _), num_be _ _ (by decide) (by omega)]
      have e8 : (beL 2 p.fSport.toNat ++ (beL 2 p.fDport.toNat ++ (tailB ++ (beL 2 b ++ (0 :: 0 :: dat p))))).drop 20 = dat p := rfl
      rw [e8, str_dat, Int.toNat_of_nonneg s0, Int.toNat_of_nonneg t0]
    · rw [if_neg h6, if_neg (by simp [h6, h17])]
      have eP : partB p b = dat p := by unfold partB; rw [if_neg h17, if_neg h6]
      have : p.fSport = 0 ∧ p.fDport = 0 := by
        rcases hp with h | h | h
        · exact absurd h h6
        · exact absurd h h17
        · exact h
      rw [eP, List.drop_zero, str_dat]
      obtain ⟨e1, e2⟩ := this
      obtain ⟨p0, p1, p2, p3, p4, p5, p6, p7, p8, p9, p10⟩ := p
      simp only at e1 e2
      subst e1 e2
      rfl
  · rw [if_pos (by simpa using ht)]
    obtain ⟨z1, z2, z3, z4, z5, z6⟩ := h.2.1 ht
    rw [if_neg ht] at hY
    unfold nA nB
    rw [if_neg ht, if_neg (by omega), hY, str_dat]
    obtain ⟨p0, p1, p2, p3, p4, p5, p6, p7, p8, p9, p10⟩ := p
    simp only at z1 z2 z3 z4 z5 z6
    subst z1 z2 z3 z4 z5 z6
    rfl
def pkt0 : Pkt := ⟨0, 0, 0, 0, 0, 0, 0, 0, 0, 0, ⟨#[]⟩⟩
/-- The packet that bytes are, out of what they seem to be. -/
def parseF (l : List UInt8) (r : Pkt × Int × Int) : Pkt × Int :=
  if 1500 < l.length then (pkt0, 44) else if ¬ rightP r.1 then (pkt0, 11) else if laidB r.1 r.2.1.toNat r.2.2.toNat ≠ l then (pkt0, 11) else
    if laidB r.1 (sumA r.1) (sumB r.1) ≠ l then (pkt0, 13) else (r.1, 0)
/-- What a reading must be for it: the numbers within their bounds. -/
def okR (r : Pkt × Int × Int) : Prop := okU r.1 ∧ 0 ≤ r.2.1 ∧ r.2.1 < 65536 ∧ 0 ≤ r.2.2 ∧ r.2.2 < 65536
theorem dat_le' (p : Pkt) (a b : Nat) (l : List UInt8) (h : laidB p a b = l) (hl : l.length ≤ 1500) : (dat p).length ≤ 3000 := by
  have := dat_le p a b
  rw [h] at this
  omega
/-- Two readings that find each right packet's bytes parse alike. -/
theorem parse_eq (l : List UInt8) (r q : Pkt × Int × Int) (hr : okR r) (hq : okR q)
    (h1 : ∀ (p : Pkt) (a b : Nat), rightP p → okU p → a < 65536 → b < 65536 → (dat p).length ≤ 3000 → l = laidB p a b → r = (p, (nA p a : Int), (nB p b : Int)))
    (h2 : ∀ (p : Pkt) (a b : Nat), rightP p → okU p → a < 65536 → b < 65536 → (dat p).length ≤ 3000 → l = laidB p a b → q = (p, (nA p a : Int), (nB p b : Int))) :
    parseF l r = parseF l q := by
  by_cases hl : 1500 < l.length
  · unfold parseF; rw [if_pos hl, if_pos hl]
  have key : ∀ r q : Pkt × Int × Int, okR r → rightP r.1 → laidB r.1 r.2.1.toNat r.2.2.toNat = l →
      (∀ (p : Pkt) (a b : Nat), rightP p → okU p → a < 65536 → b < 65536 → (dat p).length ≤ 3000 → l = laidB p a b → r = (p, (nA p a : Int), (nB p b : Int))) →
      (∀ (p : Pkt) (a b : Nat), rightP p → okU p → a < 65536 → b < 65536 → (dat p).length ≤ 3000 → l = laidB p a b → q = (p, (nA p a : Int), (nB p b : Int))) → q = r := by
    intro r q hr hR hL h1 h2
    have hb := dat_le' _ _ _ l hL (by omega)
    have e1 := h1 r.1 r.2.1.toNat r.2.2.toNat hR hr.1 (by have := hr.2; omega) (by have := hr.2; omega) hb hL.symm
    have e2 := h2 r.1 r.2.1.toNat r.2.2.toNat hR hr.1 (by have := hr.2; omega) (by have := hr.2; omega) hb hL.symm
    rw [e2]; exact e1.symm
  by_cases hc : rightP r.1 ∧ laidB r.1 r.2.1.toNat r.2.2.toNat = l
  · rw [key r q hr hc.1 hc.2 h1 h2]
  · by_cases hd : rightP q.1 ∧ laidB q.1 q.2.1.toNat q.2.2.toNat = l
    · rw [key q r hq hd.1 hd.2 h2 h1]
    · have e : ∀ r : Pkt × Int × Int, ¬ (rightP r.1 ∧ laidB r.1 r.2.1.toNat r.2.2.toNat = l) → parseF l r = (pkt0, 11) := by
        intro r h
        unfold parseF
        rw [if_neg hl]
        by_cases ha : rightP r.1
        · rw [if_neg (by simpa using ha), if_pos (fun hb => h ⟨ha, hb⟩)]
        · rw [if_pos ha]
      rw [e r hc, e q hd]
end Go.Proofs.Ythihncfmimkimaa
