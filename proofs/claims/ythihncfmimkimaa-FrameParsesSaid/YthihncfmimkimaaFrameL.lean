/- The plain laws of frames. -/
import Derived.Test.YthihncfmimkimaaFrameQ
namespace Go.Proofs.Ythihncfmimkimaa
open Go.RowKit
set_option linter.unusedVariables false
set_option linter.unusedSimpArgs false

/-- An inner packet's bytes tell its sums. -/
theorem laid_inj (p : Pkt) (a b c d : Nat) (h : rightP p) (hu : okU p) (ha : a < 65536) (hb : b < 65536) (hc : c < 65536) (hd : d < 65536) (hl : (dat p).length ≤ 3000) :
    laidB p a b = laidB p c d ↔ (p.fType = 2048 → a = c ∧ ((p.fProto = 17 ∨ p.fProto = 6) → b = d)) := by
  constructor
  · intro e ht
    have h1 := seemsP_ok p a b h hu ha hb hl
    have h2 := seemsP_ok p c d h hu hc hd hl
    rw [e, h2] at h1
    simp only [Prod.mk.injEq, true_and] at h1
    obtain ⟨e1, e2⟩ := h1
    unfold nA nB at *
    rw [if_pos ht, if_pos ht] at e1
    refine ⟨by omega, fun hp => ?_⟩
    rw [if_pos hp, if_pos hp] at e2
    omega
  · intro he
    by_cases ht : p.fType = 2048
    · obtain ⟨e1, e2⟩ := he ht
      subst e1
      by_cases hp : p.fProto = 17 ∨ p.fProto = 6
      · rw [e2 hp]
      · have : ∀ s, partB p s = dat p := by
          intro s; unfold partB
          rw [if_neg (fun e => hp (.inl e)), if_neg (fun e => hp (.inr e))]
        unfold laidB
        rw [this, this]
    · unfold laidB
      rw [if_neg ht, if_neg ht]
theorem okR_P (s : ByteArray) : okR (seemsP s) := by
  have k : ∀ ty r, 0 ≤ (innH ty r).head ∧ (innH ty r).head < 65536 ∧ 0 ≤ (innH ty r).src ∧ (innH ty r).src ≤ 4294967295 ∧ 0 ≤ (innH ty r).dst ∧ (innH ty r).dst ≤ 4294967295 := by
    intro ty r
    unfold innH
    split
    · have := numR_2 (numS 1 (numS 1 (bytS 8 r)))
      have h4 := numR_4 (numS 2 (numS 1 (numS 1 (bytS 8 r))))
      have h5 := numR_4 (numS 4 (numS 2 (numS 1 (numS 1 (bytS 8 r)))))
      dsimp only
      exact ⟨by omega, by omega, by omega, by omega, by omega, by omega⟩
    · dsimp only
      decide
  have q : ∀ pr r, 0 ≤ (innP pr r).part ∧ (innP pr r).part < 65536 := by
    intro pr r
    unfold innP
    split
    · have := numR_2 (bytS 2 (numS 2 (numS 2 r)))
      dsimp only
      exact ⟨by omega, by omega⟩
    · split
      · have := numR_2 (bytS 12 (numS 2 (numS 2 r)))
        dsimp only
        exact ⟨by omega, by omega⟩
      · dsimp only
        decide
  unfold okR seemsP okU
  have h1 := numR_6 (s, 0)
  have h2 := numR_6 (numS 6 (s, 0))
  have k1 := k (sType (numS 6 (numS 6 (s, 0)))) (sRest (numS 6 (numS 6 (s, 0))))
  have k2 := q (innH (sType (numS 6 (numS 6 (s, 0)))) (sRest (numS 6 (numS 6 (s, 0))))).proto (innH (sType (numS 6 (numS 6 (s, 0)))) (sRest (numS 6 (numS 6 (s, 0))))).r
  exact ⟨⟨h1.1, h2.1, k1.2.2.1, k1.2.2.2.1, k1.2.2.2.2.1, k1.2.2.2.2.2⟩, k1.1, k1.2.1, k2.1, k2.2⟩
theorem numG_at (l : List UInt8) (i n : Nat) (hn : n ≤ 8) : 0 ≤ numG (atL l i n) ∧ numG (atL l i n) < ((256 ^ n : Nat) : Int) := by
  have hl := atL_len l i n
  rw [numG_eq _ (by omega)]
  have h1 := numN_lt (atL l i n)
  have h2 : 256 ^ (atL l i n).length ≤ 256 ^ n := Nat.pow_le_pow_right (by decide) hl
  omega
theorem okR_R (l : List UInt8) : okR (seemsR l) := by
  have h1 := numG_at l 0 6 (by decide)
  have h2 := numG_at l 6 6 (by decide)
  have a2 : ∀ i, 0 ≤ numG (atL l i 2) ∧ numG (atL l i 2) < 65536 := fun i => numG_at l i 2 (by decide)
  have a4 : ∀ i, 0 ≤ numG (atL l i 4) ∧ numG (atL l i 4) ≤ 4294967295 := fun i => by have := numG_at l i 4 (by decide); simp at this; omega
  have z : (0 : Int) ≤ 0 ∧ (0 : Int) < 65536 := by decide
  have z4 : (0 : Int) ≤ 0 ∧ (0 : Int) ≤ 4294967295 := by decide
  unfold seemsR okR okU
  simp only
  split
  · exact ⟨⟨h1.1, h2.1, z4.1, z4.2, z4.1, z4.2⟩, z.1, z.2, z.1, z.2⟩
  · split
    · exact ⟨⟨h1.1, h2.1, (a4 _).1, (a4 _).2, (a4 _).1, (a4 _).2⟩, (a2 _).1, (a2 _).2, (a2 _).1, (a2 _).2⟩
    · split
      · exact ⟨⟨h1.1, h2.1, (a4 _).1, (a4 _).2, (a4 _).1, (a4 _).2⟩, (a2 _).1, (a2 _).2, (a2 _).1, (a2 _).2⟩
      · exact ⟨⟨h1.1, h2.1, (a4 _).1, (a4 _).2, (a4 _).1, (a4 _).2⟩, (a2 _).1, (a2 _).2, z.1, z.2⟩
/-- Both parse alike. -/
theorem parse_both (l : List UInt8) : parseF l (seemsP (str l)) = parseF l (seemsR l) :=
  parse_eq l _ _ (okR_P _) (okR_R _) (fun p a b h hu ha hb hl e => by rw [e]; exact seemsP_ok p a b h hu ha hb hl) (fun p a b h hu ha hb hl e => by rw [e]; exact seemsR_ok p a b h hu ha hb hl)
/-- The packet of a packet's bytes is it. -/
theorem parse_bytes (p : Pkt) (hu : okU p) (hl : (dat p).length ≤ 3000) (h : (bytesF p).2 = 0) : parseF (bytesF p).1 (seemsP (str (bytesF p).1)) = (p, 0) := by
  unfold bytesF at h ⊢
  by_cases hr : rightP p
  · rw [if_neg (by simpa using hr)] at h ⊢
    by_cases h1 : 1500 < (dat p).length
    · rw [if_pos h1] at h; simp at h
    · rw [if_neg h1] at h ⊢
      by_cases h2 : 1500 < (laidB p (sumA p) (sumB p)).length
      · rw [if_pos h2] at h; simp at h
      · rw [if_neg h2]
        simp only
        rw [seemsP_ok p _ _ hr hu (sumA_lt p) (sumB_lt p) hl]
        have e : laidB p (nA p (sumA p)) (nB p (sumB p)) = laidB p (sumA p) (sumB p) := by
          refine (laid_inj p _ _ _ _ hr hu ?_ ?_ (sumA_lt p) (sumB_lt p) hl).2 (fun ht => ⟨?_, fun hp => ?_⟩)
          · unfold nA; split; exact sumA_lt p; decide
          · unfold nB; split; exact sumB_lt p; decide
          · unfold nA; rw [if_pos ht]
          · unfold nB; rw [if_pos hp]
        unfold parseF
        rw [if_neg h2, if_neg (by simpa using hr)]
        simp only [Int.toNat_natCast]
        rw [if_neg (by simpa using e), if_neg (by simp)]
  · rw [if_pos hr] at h; simp at h
/-- What is read is written again. -/
theorem bytes_parse (l : List UInt8) (r : Pkt × Int × Int) (h : (parseF l r).2 = 0) : bytesF (parseF l r).1 = (l, 0) := by
  unfold parseF at h ⊢
  by_cases h1 : 1500 < l.length
  · rw [if_pos h1] at h; simp at h
  rw [if_neg h1] at h ⊢
  by_cases h2 : rightP r.1
  · rw [if_neg (by simpa using h2)] at h ⊢
    by_cases h3 : laidB r.1 r.2.1.toNat r.2.2.toNat = l
    · rw [if_neg (by simpa using h3)] at h ⊢
      by_cases h4 : laidB r.1 (sumA r.1) (sumB r.1) = l
      · rw [if_neg (by simpa using h4)]
        have := dat_le r.1 (sumA r.1) (sumB r.1)
        unfold bytesF
        rw [h4] at this ⊢
        rw [if_neg (by simpa using h2), if_neg (by simp only; omega), if_neg (by omega)]
      · rw [if_pos h4] at h; simp at h
    · rw [if_pos h3] at h; simp at h
  · rw [if_pos h2] at h; simp at h
theorem parse_bad (l : List UInt8) (r : Pkt × Int × Int) (h : (parseF l r).2 ≠ 0) : (parseF l r).1 = pkt0 := by
  unfold parseF at h ⊢
  split at h
  · rw [if_pos ‹_›]
  · rw [if_neg ‹_›]
    split at h
    · rw [if_pos ‹_›]
    · rw [if_neg ‹_›]
      split at h
      · rw [if_pos ‹_›]
      · rw [if_neg ‹_›]
        split at h
        · rw [if_pos ‹_›]
        · simp at h
theorem bytes_bad (p : Pkt) (h : (bytesF p).2 ≠ 0) : (bytesF p).1 = [] := by
  unfold bytesF at h ⊢
  split at h
  · rw [if_pos ‹_›]
  · rw [if_neg ‹_›]
    split at h
    · rw [if_pos ‹_›]
    · rw [if_neg ‹_›]
      split at h
      · rw [if_pos ‹_›]
      · simp at h
/-- A packet without a tag, and with one. -/
def tagP (p : Pkt) (n : Int) : Pkt := { p with fVlan := 4096 + n }
theorem right_tag (p : Pkt) (n : Int) (hv : p.fVlan = 0) (h0 : 0 ≤ n) (h1 : n ≤ 4095) : rightP (tagP p n) ↔ rightP p := by
  unfold rightP tagP
  simp only
  omega
theorem bytes_tag (p : Pkt) (n : Int) (hv : p.fVlan = 0) (h0 : 0 ≤ n) (h1 : n ≤ 4095) (hl : (dat p).length ≤ 1000) :
    (bytesF p).2 = (bytesF (tagP p n)).2 ∧ ((bytesF p).2 = 0 → 14 ≤ (bytesF p).1.length ∧
      (bytesF (tagP p n)).1 = (bytesF p).1.take 12 ++ (129 :: 0 :: UInt8.ofNat (n.toNat / 256) :: UInt8.ofNat n.toNat :: (bytesF p).1.drop 12)) := by
  have hb : ∀ q : Pkt, dat q = dat p → rightP q → bytesF q = (laidB q (sumA q) (sumB q), 0) := by
    intro q hq hr
    have hlen := laidB_len q (sumA q) (sumB q)
    have hv := vlanB_len q
    have hp := partB_len q 0
    unfold bytesF
    rw [if_neg (by simpa using hr), if_neg (by rw [hq]; omega), if_neg ?_]
    rw [hq] at hlen hp
    split at hlen <;> split at hv <;> (try split at hp) <;> (try split at hp) <;> omega
  by_cases hr : rightP p
  · have hr2 : rightP (tagP p n) := (right_tag p n hv h0 h1).2 hr
    rw [hb p rfl hr, hb (tagP p n) rfl hr2]
    refine ⟨rfl, fun _ => ⟨?_, ?_⟩⟩
    · simp only; rw [laidB_len]; omega
    · have e1 : partB (tagP p n) = partB p := rfl
      have e2 : headB (tagP p n) = headB p := rfl
      have e3 : sumA (tagP p n) = sumA p := rfl
      have e4 : sumB (tagP p n) = sumB p := rfl
      simp only
      rw [e3, e4]
      unfold laidB vlanB
      rw [e1, e2, if_pos hv, if_neg (by show ¬ (4096 + n) = 0; omega)]
      have e5 : (tagP p n).fVlan - 4096 = n := by show 4096 + n - 4096 = n; omega
      rw [e5]
      have e6 : beL 2 n.toNat = [UInt8.ofNat (n.toNat / 256), UInt8.ofNat n.toNat] := by simp [beL]
      rw [e6]
      rfl
  · have hr2 : ¬ rightP (tagP p n) := fun h => hr ((right_tag p n hv h0 h1).1 h)
    unfold bytesF
    rw [if_pos hr, if_pos hr2]
    exact ⟨rfl, fun h => by simp at h⟩
/-- Sixteen bits as two bytes count as they are. -/
theorem wS_be (n i : Nat) (hn : n < 65536) (hi : i % 2 = 0) : wS i (beL 2 n) = n := by
  simp only [beL, wS, UInt8.toNat_ofNat']
  rw [if_pos hi, if_neg (by omega)]
  omega
theorem head_sum (p : Pkt) (n : Nat) : sumR (headB p n (sumR (headB p n 0))) = 0 := by
  have hs : ∀ a, a < 65536 → wS 0 (headB p n a) = wS 0 (headB p n 0) + a := by
    intro a ha
    have e : ∀ a, headB p n a = (69 :: 0 :: (beL 2 (20 + n) ++ (0 :: 0 :: 0 :: 0 :: (beL 1 p.fLife.toNat ++ beL 1 p.fProto.toNat)))) ++ (beL 2 a ++ (beL 4 p.fSrc.toNat ++ beL 4 p.fDst.toNat)) := by
      intro a; simp [headB]
    rw [e a, e 0]
    simp only [wS_append]
    rw [wS_be a _ ha (by simp [beL_length]), wS_be 0 _ (by decide) (by simp [beL_length])]
    simp only [beL_length]
    omega
  have hpos : 0 < wS 0 (headB p n 0) := by
    unfold headB
    simp only [wS]
    have : (69 : UInt8).toNat = 69 := rfl
    rw [this]
    simp
    omega
  unfold sumR
  rw [hs _ (by omega)]
  have h1 := fold16_mod (wS 0 (headB p n 0))
  have h2 := fold16_lt (wS 0 (headB p n 0))
  generalize fold16 (wS 0 (headB p n 0)) = f at *
  generalize wS 0 (headB p n 0) = s at *
  have h3 := fold16_mod (s + (65535 - f))
  have h4 := fold16_zero (s + (65535 - f))
  have h5 := fold16_lt (s + (65535 - f))
  generalize fold16 (s + (65535 - f)) = g at *
  omega
theorem bytes_sums (p : Pkt) (hv : p.fVlan = 0) (ht : p.fType = 2048) (hl : (dat p).length ≤ 1000) (h : (bytesF p).2 = 0) :
    34 ≤ (bytesF p).1.length ∧ sumR (((bytesF p).1.drop 14).take 20) = 0 ∧ 256 * ((bytesF p).1.getD 16 0).toNat + ((bytesF p).1.getD 17 0).toNat = (bytesF p).1.length - 14 := by
  have hr : rightP p := by
    unfold bytesF at h
    by_cases hr : rightP p
    · exact hr
    · rw [if_pos hr] at h; simp at h
  have hlen := laidB_len p (sumA p) (sumB p)
  have hv' := vlanB_len p
  rw [if_pos hv] at hv'
  rw [if_pos ht, hv'] at hlen
  have hp := partB_len p 0
  have hp2 : (partB p 0).length ≤ 1020 := by rw [hp]; split; omega; split <;> omega
  have hb : bytesF p = (laidB p (sumA p) (sumB p), 0) := by
    unfold bytesF
    rw [if_neg (by simpa using hr), if_neg (by omega), if_neg (by omega)]
  rw [hb]
  simp only
  have e : laidB p (sumA p) (sumB p) = (beL 6 p.fTo.toNat ++ (beL 6 p.fFrom.toNat ++ beL 2 p.fType.toNat)) ++ (headB p (partB p (sumB p)).length (sumA p) ++ partB p (sumB p)) := by
    unfold laidB vlanB
    rw [if_pos hv, if_pos ht]
    simp
  refine ⟨by omega, ?_, ?_⟩
  · rw [e, List.drop_left' (by simp [beL_length]), List.take_left' (headB_len _ _ _), partB_len0]
    exact head_sum p _
  · rw [hlen]
    have g : ∀ (X H T : List UInt8) (i : Nat), X.length = 14 → H.length = 20 → i < 20 → (X ++ (H ++ T))[14 + i]? = H[i]? := by
      intro X H T i hX hH hi
      rw [List.getElem?_append_right (by omega), List.getElem?_append_left (by omega), hX, Nat.add_sub_cancel_left]
    have g16 := g (beL 6 p.fTo.toNat ++ (beL 6 p.fFrom.toNat ++ beL 2 p.fType.toNat)) (headB p (partB p (sumB p)).length (sumA p)) (partB p (sumB p)) 2 (by simp [beL_length]) (headB_len _ _ _) (by decide)
    have g17 := g (beL 6 p.fTo.toNat ++ (beL 6 p.fFrom.toNat ++ beL 2 p.fType.toNat)) (headB p (partB p (sumB p)).length (sumA p)) (partB p (sumB p)) 3 (by simp [beL_length]) (headB_len _ _ _) (by decide)
    rw [e]
    simp only [List.getD_eq_getElem?_getD]
    rw [g16, g17, partB_len0]
    unfold headB
    have e2 : ∀ n, beL 2 n = [UInt8.ofNat (n / 256), UInt8.ofNat n] := fun n => by simp [beL]
    rw [e2]
    simp only [List.cons_append, List.getElem?_cons_succ, List.getElem?_cons_zero, Option.getD_some, UInt8.toNat_ofNat']
    omega
end Go.Proofs.Ythihncfmimkimaa
