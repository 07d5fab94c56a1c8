/- Frames as plain bytes: which bytes a packet is, and what bytes seem to be. -/
import Derived.Test.YthihncfmimkimaaNumPlain
import Derived.Test.YthihncfmimkimaaSumPlain
import Derived.Test.YthihncfmimkimaaTPkt
namespace Go.Proofs.Ythihncfmimkimaa
open Go.RowKit
set_option linter.unusedVariables false

def dat (p : Pkt) : List UInt8 := p.fData.data.toList
/-- A packet is right. -/
def rightP (p : Pkt) : Prop :=
  (p.fTo < 281474976710656 ∧ p.fFrom < 281474976710656 ∧ (p.fVlan = 0 ∨ 4096 ≤ p.fVlan ∧ p.fVlan ≤ 8191) ∧ 1536 ≤ p.fType ∧ p.fType ≤ 65535 ∧ p.fType ≠ 33024) ∧
  (p.fType ≠ 2048 → p.fSrc = 0 ∧ p.fDst = 0 ∧ p.fLife = 0 ∧ p.fProto = 0 ∧ p.fSport = 0 ∧ p.fDport = 0) ∧
  (p.fType = 2048 → 0 ≤ p.fLife ∧ p.fLife ≤ 255 ∧ 0 ≤ p.fProto ∧ p.fProto ≤ 255 ∧ 0 ≤ p.fSport ∧ p.fSport ≤ 65535 ∧ 0 ≤ p.fDport ∧ p.fDport ≤ 65535 ∧ (p.fProto = 6 ∨ p.fProto = 17 ∨ p.fSport = 0 ∧ p.fDport = 0))
instance (p : Pkt) : Decidable (rightP p) := by unfold rightP; infer_instance
def okU (p : Pkt) : Prop := 0 ≤ p.fTo ∧ 0 ≤ p.fFrom ∧ 0 ≤ p.fSrc ∧ p.fSrc ≤ 4294967295 ∧ 0 ≤ p.fDst ∧ p.fDst ≤ 4294967295
def portsB (p : Pkt) : List UInt8 := beL 2 p.fSport.toNat ++ beL 2 p.fDport.toNat
def tailB : List UInt8 := [0, 0, 0, 0, 0, 0, 0, 0, 80, 16, 255, 255]
/-- What is behind the inner head, with a sum. -/
def partB (p : Pkt) (s : Nat) : List UInt8 :=
  if p.fProto = 17 then portsB p ++ (beL 2 (8 + (dat p).length) ++ (beL 2 s ++ dat p))
  else if p.fProto = 6 then portsB p ++ (tailB ++ (beL 2 s ++ (0 :: 0 :: dat p))) else dat p
def headB (p : Pkt) (n a : Nat) : List UInt8 :=
  69 :: 0 :: (beL 2 (20 + n) ++ (0 :: 0 :: 0 :: 0 :: (beL 1 p.fLife.toNat ++ (beL 1 p.fProto.toNat ++ (beL 2 a ++ (beL 4 p.fSrc.toNat ++ beL 4 p.fDst.toNat))))))
/-- A packet's bytes, with two sums. -/
def vlanB (p : Pkt) : List UInt8 := if p.fVlan = 0 then [] else 129 :: 0 :: beL 2 (p.fVlan - 4096).toNat
def laidB (p : Pkt) (a b : Nat) : List UInt8 :=
  beL 6 p.fTo.toNat ++ (beL 6 p.fFrom.toNat ++ (vlanB p ++ (beL 2 p.fType.toNat ++
    (if p.fType = 2048 then headB p (partB p b).length a ++ partB p b else dat p))))
def pseudoB (p : Pkt) : List UInt8 := beL 4 p.fSrc.toNat ++ (beL 4 p.fDst.toNat ++ (beL 2 p.fProto.toNat ++ (beL 2 (partB p 0).length ++ partB p 0)))
def sumA (p : Pkt) : Nat := sumR (headB p (partB p 0).length 0)
def sumB (p : Pkt) : Nat := if p.fProto = 17 ∧ sumR (pseudoB p) = 0 then 65535 else sumR (pseudoB p)
theorem sumA_lt (p : Pkt) : sumA p < 65536 := sumR_lt _
theorem sumB_lt (p : Pkt) : sumB p < 65536 := by unfold sumB; split; · omega
                                                 · exact sumR_lt _
/-- A packet as a frame, and what is wrong. -/
def bytesF (p : Pkt) : List UInt8 × Int :=
  if ¬ rightP p then ([], 1) else if 1500 < (dat p).length then ([], 44) else
    if 1500 < (laidB p (sumA p) (sumB p)).length then ([], 44) else (laidB p (sumA p) (sumB p), 0)

theorem partB_len (p : Pkt) (s : Nat) : (partB p s).length = (if p.fProto = 17 then 8 else if p.fProto = 6 then 20 else 0) + (dat p).length := by
  unfold partB portsB tailB
  by_cases h : p.fProto = 17
  · rw [if_pos h, if_pos h]; simp [beL_length]; omega
  · rw [if_neg h, if_neg h]
    by_cases h6 : p.fProto = 6
    · rw [if_pos h6, if_pos h6]; simp [beL_length]; omega
    · rw [if_neg h6, if_neg h6]; omega
theorem partB_len0 (p : Pkt) (s : Nat) : (partB p s).length = (partB p 0).length := by rw [partB_len, partB_len]
theorem headB_len (p : Pkt) (n a : Nat) : (headB p n a).length = 20 := by simp [headB, beL_length]
theorem vlanB_len (p : Pkt) : (vlanB p).length = if p.fVlan = 0 then 0 else 4 := by
  unfold vlanB; split <;> simp [beL_length]
theorem laidB_len (p : Pkt) (a b : Nat) : (laidB p a b).length = 14 + (vlanB p).length + (if p.fType = 2048 then 20 + (partB p 0).length else (dat p).length) := by
  unfold laidB
  simp only [List.length_append, beL_length]
  split
  · rw [List.length_append, headB_len, partB_len0]; omega
  · omega
theorem laidB_len0 (p : Pkt) (a b c d : Nat) : (laidB p a b).length = (laidB p c d).length := by rw [laidB_len, laidB_len]
theorem dat_le (p : Pkt) (a b : Nat) : (dat p).length ≤ (laidB p a b).length := by
  rw [laidB_len]; split
  · rw [partB_len]; omega
  · omega
end Go.Proofs.Ythihncfmimkimaa
