/- The reference's Decode and match.Decode say the same: the plain law. -/
import Derived.Test.YtaaadbmhcfjooaaMatchX
namespace Go.Proofs.Ytaaadbmhcfjooaa
open Go.RowKit
set_option linter.unusedVariables false

theorem stepP_test {p : Int} {t : Test} (h : FitT t) (hp : CodeT p t) (more : List UInt8) : stepP (testB p t ++ more) = some (t, more) := by
  obtain ⟨tf, tv, tm⟩ := t
  have hsz := sizeF_val h.1
  have hnm := namedF_code h.1 hp
  have hcl := codeF_le tf p
  have hv : tv.toNat < 256 ^ sizeF tf := by
    have h1 : 0 ≤ tv := h.2.1.1
    have h2 : tv ≤ greatF tf := h.2.1.2
    have h3 := hsz.2.2
    have h4 : ((256 ^ sizeF tf : Nat) : Int) = 256 ^ sizeF tf := by rw [Int.natCast_pow]; rfl
    simp only at h3
    omega
  have hm : tm.toNat < 256 ^ sizeF tf := by
    have h1 : 0 ≤ tm := h.2.2.1
    have h2 : tm ≤ greatF tf := h.2.2.2
    have h3 := hsz.2.2
    have h4 : ((256 ^ sizeF tf : Nat) : Int) = 256 ^ sizeF tf := by rw [Int.natCast_pow]; rfl
    simp only at h3
    omega
  have hv0 : (tv.toNat : Int) = tv := Int.toNat_of_nonneg h.2.1.1
  have hm0 : (tm.toNat : Int) = tm := Int.toNat_of_nonneg h.2.2.1
  have hf1 : (1 : Int) ≤ tf := h.1.1
  have hnm' : ((namedF (codeF tf p : Nat) : Nat) : Int) = tf := hnm
  have hs1 : 1 ≤ sizeF tf := hsz.1
  have hs8 : sizeF tf ≤ 8 := hsz.2.1
  have be : ∀ m, m < 256 ^ sizeF tf → numG (beL (sizeF tf) m) = (m : Int) := fun m hm => by
    have := numG_be (sizeF tf) m hs8 hm
    rwa [str_data] at this
  have hc33 : codeB p ⟨tf, tv, tm⟩ < 256 := by unfold codeB; split <;> simp only <;> omega
  have hbl : (bodyB ⟨tf, tv, tm⟩).length < 256 := by have := bodyB_len (t := ⟨tf, tv, tm⟩) h; omega
  have form : testB p ⟨tf, tv, tm⟩ ++ more = 128 :: 0 :: UInt8.ofNat (codeB p ⟨tf, tv, tm⟩) :: UInt8.ofNat (bodyB ⟨tf, tv, tm⟩).length :: (bodyB ⟨tf, tv, tm⟩ ++ more) := by
    unfold testB
    rw [beL_class, beL_one, beL_one]
    rfl
  rw [form]
  unfold stepP
  simp only [List.getD_cons_succ, List.getD_cons_zero, List.drop_succ_cons, List.drop_zero, List.length_cons, List.length_append]
  rw [UInt8.toNat_ofNat', UInt8.toNat_ofNat', Nat.mod_eq_of_lt (by omega), Nat.mod_eq_of_lt (by omega)]
  by_cases hw : tm = greatF tf
  · have ec : codeB p ⟨tf, tv, tm⟩ = 2 * codeF tf p := by unfold codeB; rw [if_pos hw]
    have eb : bodyB ⟨tf, tv, tm⟩ = beL (sizeF tf) tv.toNat := by unfold bodyB; rw [if_pos hw]
    have e1 : (2 * codeF tf p) / 2 = codeF tf p := by omega
    have e2 : ¬ (2 * codeF tf p) % 2 = 1 := by omega
    rw [ec, eb, e1, if_neg e2, if_neg e2]
    generalize hq : namedF (codeF tf p : Nat) = q at *
    subst hnm'
    rw [beL_length, if_neg (by omega), List.take_left' (beL_length _ _), Nat.add_comm 4, ]
    simp only [List.drop_succ_cons]
    rw [List.drop_left' (beL_length _ _), be _ hv, hv0, hw]
  · have ec : codeB p ⟨tf, tv, tm⟩ = 2 * codeF tf p + 1 := by unfold codeB; rw [if_neg hw]
    have eb : bodyB ⟨tf, tv, tm⟩ = beL (sizeF tf) tv.toNat ++ beL (sizeF tf) tm.toNat := by unfold bodyB; rw [if_neg hw]
    have e1 : (2 * codeF tf p + 1) / 2 = codeF tf p := by omega
    have e2 : (2 * codeF tf p + 1) % 2 = 1 := by omega
    rw [ec, eb, e1, if_pos e2, if_pos e2]
    generalize hq : namedF (codeF tf p : Nat) = q at *
    subst hnm'
    rw [List.length_append, beL_length, beL_length, if_neg (by omega), List.append_assoc, List.take_left' (beL_length _ _), Nat.add_comm 4, Nat.add_comm 4]
    simp only [List.drop_succ_cons]
    rw [List.drop_left' (beL_length _ _), List.take_left' (beL_length _ _), ← List.append_assoc, List.drop_left' (by rw [List.length_append, beL_length, beL_length]; omega), be _ hv, be _ hm, hv0, hm0]
theorem refF_inner {p : Int} : ∀ (l : List Test) (n : Nat) (acc : List Test), l.length ≤ n → (∀ t ∈ l, FitT t) → (∀ t ∈ l, CodeT p t) → refF n (innerB p l) acc = some (acc ++ l)
  | [], n, acc, _, _, _ => by
    cases n with
    | zero => simp [refF]
    | succ n =>
      unfold refF
      rw [if_neg (by simp [innerB])]
      simp
  | t :: l, n, acc, hn, hf, hc => by
    cases n with
    | zero => simp at hn
    | succ n =>
      have e : innerB p (t :: l) = testB p t ++ innerB p l := by unfold innerB; rw [List.flatMap_cons]
      have h4 : 4 ≤ (testB p t).length := by unfold testB; simp only [List.length_append, beL_length]; omega
      unfold refF
      rw [e, if_pos (by rw [List.length_append]; omega), stepP_test (hf t List.mem_cons_self) (hc t List.mem_cons_self)]
      simp only
      rw [refF_inner l n _ (by simpa using hn) (fun x hx => hf x (List.mem_cons_of_mem _ hx)) (fun x hx => hc x (List.mem_cons_of_mem _ hx))]
      simp
theorem stepP_ok {s : List UInt8} {t : Test} {s' : List UInt8} (h : stepP s = some (t, s')) : okT t := by
  unfold stepP at h
  simp only at h
  split at h
  · split at h
    · cases h
    · injection h with h; injection h with h1 h2; subst h1
      exact ⟨numG_U64 _, numG_U64 _⟩
  · split at h
    · cases h
    · injection h with h; injection h with h1 h2; subst h1
      exact ⟨numG_U64 _, greatF_U64 _⟩
theorem refF_ok : ∀ (n : Nat) (s : List UInt8) (acc l : List Test), (∀ t ∈ acc, okT t) → refF n s acc = some l → ∀ t ∈ l, okT t
  | 0, _, acc, l, h, e => by
    have : acc = l := by simpa [refF] using e
    exact this ▸ h
  | n + 1, s, acc, l, h, e => by
    unfold refF at e
    split at e
    · cases hs : stepP s with
      | none => rw [hs] at e; simp at e
      | some r =>
        obtain ⟨t, s'⟩ := r
        rw [hs] at e
        refine refF_ok n s' _ l ?_ e
        intro u hu
        rcases List.mem_append.1 hu with h1 | h1
        · exact h u h1
        · rw [List.mem_singleton.1 h1]; exact stepP_ok hs
    · have : acc = l := by simpa using e
      exact this ▸ h
theorem inner_of (l : List Test) (hok : ∀ t ∈ l, okT t) (hr : rightF l = 0) (rest : List UInt8) :
    ((encB l ++ rest).drop 4).take (lenD (str (encB l ++ rest)) - 4) = innerB (wholeF l 7).1 l := by
  obtain ⟨hfit, hlen⟩ := right_fit hok hr
  obtain ⟨inner, hi⟩ : ∃ x, x = innerB (wholeF l 7).1 l := ⟨_, rfl⟩
  obtain ⟨pad, hp, hm, he⟩ := encB_form l inner rest hi
  have hil := innerB_len (p := (wholeF l 7).1) l hfit
  rw [← hi] at hil
  have b2 : byteA (str (encB l ++ rest)) 2 = (4 + inner.length) / 256 := by
    unfold byteA
    rw [str_data, he]
    simp only [beL, List.cons_append, List.nil_append, List.getD_cons_succ, List.getD_cons_zero]
    rw [UInt8.toNat_ofNat']
    omega
  have b3 : byteA (str (encB l ++ rest)) 3 = (4 + inner.length) % 256 := by
    unfold byteA
    rw [str_data, he]
    simp only [beL, List.cons_append, List.nil_append, List.getD_cons_succ, List.getD_cons_zero]
    rw [UInt8.toNat_ofNat']
    omega
  have hn : lenD (str (encB l ++ rest)) = 4 + inner.length := by unfold lenD; rw [b2, b3]; omega
  rw [hn, he, ← hi, show beL 2 1 ++ beL 2 (4 + inner.length) ++ inner ++ pad ++ rest = (beL 2 1 ++ beL 2 (4 + inner.length)) ++ (inner ++ (pad ++ rest)) by simp, List.drop_left' (by simp only [List.length_append, beL_length]), Nat.add_sub_cancel_left, List.take_left' rfl]
theorem take_of_enc {d : List UInt8} {l : List Test} {en : Nat} (h : str (encB l) = (str d).extract 0 en) : d = encB l ++ d.drop en := by
  rw [str_extract, List.drop_zero, Nat.sub_zero] at h
  have : encB l = d.take en := by have := congrArg (fun x => x.data.toList) h; simpa [str_data] using this
  rw [this, List.take_append_drop]
theorem refD_eq (d : List UInt8) : refD d = decF (str d) := by
  unfold refD
  by_cases h1 : d.length < 4
  · rw [if_pos h1]; unfold decF; rw [if_pos (by rw [str_size]; exact h1)]
  rw [if_neg h1]
  by_cases h2 : d.length < endD (str d)
  · rw [if_pos h2]; unfold decF; rw [if_neg (by rw [str_size]; exact h1), if_pos (by rw [str_size]; exact h2)]
  rw [if_neg h2]
  by_cases h3 : lenD (str d) < 4
  · rw [if_pos h3]; unfold decF; rw [if_neg (by rw [str_size]; exact h1), if_neg (by rw [str_size]; exact h2), if_pos h3]
  rw [if_neg h3]
  -- what decF may be
  have hd : decF (str d) = ([], 0, 11) ∨ ∃ l, decF (str d) = (l, (endD (str d) : Int), 0) ∧ (∀ t ∈ l, okT t) ∧ rightF l = 0 ∧ str (encB l) = (str d).extract 0 (endD (str d)) := by
    have hoks := seemsF_ok (lenD (str d)) ((str d).extract 4 (lenD (str d))) 0 [] (by simp)
    unfold decF
    rw [if_neg (by rw [str_size]; exact h1), if_neg (by rw [str_size]; exact h2), if_neg h3]
    generalize seemsF (lenD (str d)) ((str d).extract 4 (lenD (str d))) 0 [] = l at *
    by_cases h4 : rightF l ≠ 0
    · exact .inl (by rw [if_pos h4])
    by_cases h5 : str (encB l) = (str d).extract 0 (endD (str d))
    · exact .inr ⟨l, by rw [if_neg h4, if_pos h5], hoks, Decidable.not_not.1 h4, h5⟩
    · exact .inl (by rw [if_neg h4, if_neg h5])
  -- what the reference says
  have hT : ∀ l, (∀ t ∈ l, okT t) → rightF l = 0 → str (encB l) = (str d).extract 0 (endD (str d)) → decF (str d) = (l, (endD (str d) : Int), 0) := by
    intro l hok hr he
    have e := take_of_enc he
    have hl : (encB l).length = endD (str d) := by
      have := congrArg (fun x => x.size) he
      simp only [str_size, ByteArray.size_extract] at this
      omega
    have := (decF_enc hok hr (d.drop (endD (str d)))).1
    rw [← e, hl] at this
    exact this
  rcases hd with hd | ⟨l, hd, hok, hr, he⟩
  · rw [hd]
    unfold refT
    cases hrf : refF 10 ((d.drop 4).take (lenD (str d) - 4)) [] with
    | none => rfl
    | some l =>
      simp only
      have hok := refF_ok _ _ _ _ (by simp) hrf
      by_cases h4 : rightF l ≠ 0
      · rw [if_pos h4]
      rw [if_neg h4]
      by_cases h5 : str (encB l) = (str d).extract 0 (endD (str d))
      · have := hT l hok (Decidable.not_not.1 h4) h5
        rw [hd] at this
        simp at this
      · rw [if_neg h5]
  · have e := take_of_enc he
    have hin := inner_of l hok hr (d.drop (endD (str d)))
    rw [← e] at hin
    obtain ⟨hfit, hlen⟩ := right_fit hok hr
    have hcode := rightFrom_code l [] 0 hok hr
    rw [List.nil_append] at hcode
    rw [hd, hin, refF_inner l 10 [] (by omega) hfit hcode]
    unfold refT
    simp only [List.nil_append]
    rw [if_neg (by simp [hr]), if_pos he]
end Go.Proofs.Ytaaadbmhcfjooaa
