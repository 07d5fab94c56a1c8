/- What is encoded is decoded: the plain law. -/
import Derived.Test.YtaaadbmhcfjooaaMatchU
import Derived.Test.YtaaadbmhcfjooaaNumPlain
namespace Go.Proofs.Ytaaadbmhcfjooaa
open Go.RowKit
set_option linter.unusedVariables false

theorem rdN_app (a b : List UInt8) (n : Nat) (h : a.length = n) (h1 : 1 ≤ n) (h8 : n ≤ 8) : rdN n (str (a ++ b)) 0 = (str a, str b, 0) := by
  unfold rdN
  have hd : decide (1 ≤ (n : Int) ∧ (n : Int) ≤ 8) = true := by simp; omega
  rw [hd, takeR_ok _ _ (by rw [List.length_append, h]; omega), List.take_left' h, List.drop_left' h]
theorem rdN_two (a b : List UInt8) (h : a.length = 2) : rdN 2 (str (a ++ b)) 0 = (str a, str b, 0) := rdN_app a b 2 h (by omega) (by omega)
theorem rdN_one (a b : List UInt8) (h : a.length = 1) : rdN 1 (str (a ++ b)) 0 = (str a, str b, 0) := rdN_app a b 1 h (by omega) (by omega)
theorem numG_be (c m : Nat) (hc : c ≤ 8) (hm : m < 256 ^ c) : numG (str (beL c m)).data.toList = (m : Int) := by
  rw [str_data, numG_eq _ (by rw [beL_length]; omega), numN_be, Nat.mod_eq_of_lt hm]
theorem namedF_code {f p : Int} (h : 1 ≤ f ∧ f ≤ 9) (hp : 8 ≤ f → p = 6 ∨ p = 17) : ((namedF (codeF f p : Nat) : Nat) : Int) = f := by
  by_cases h8 : 8 ≤ f
  · rcases hp h8 with rfl | rfl <;> rcases (by omega : f = 8 ∨ f = 9) with rfl | rfl <;> decide
  · rcases (by omega : f = 1 ∨ f = 2 ∨ f = 3 ∨ f = 4 ∨ f = 5 ∨ f = 6 ∨ f = 7) with rfl | rfl | rfl | rfl | rfl | rfl | rfl <;>
      · unfold codeF
        simp only [Int.reduceEq, if_true, if_false]
        decide
/-- What has a code. -/
def CodeT (p : Int) (t : Test) : Prop := 8 ≤ t.fField → p = 6 ∨ p = 17
theorem stepS_test {p : Int} {t : Test} (h : FitT t) (hp : CodeT p t) (more : List UInt8) : stepS (str (testB p t ++ more)) 0 = some (t, str more, 0) := by
  obtain ⟨tf, tv, tm⟩ := t
  have hsz := sizeF_val h.1
  have hnm := namedF_code h.1 hp
  have hcl := codeF_le tf p
  have hv : tv.toNat < 256 ^ sizeF tf := by
    have h1 : 0 ≤ tv := h.2.1.1
    have h2 : tv ≤ greatF tf := h.2.1.2
    have h3 := hsz.2.2
    have h4 : ((256 ^ sizeF tf : Nat) : Int) = 256 ^ sizeF tf := by rw [Int.natCast_pow]; rfl
    simp only at h3
    omega
  have hm : tm.toNat < 256 ^ sizeF tf := by
    have h1 : 0 ≤ tm := h.2.2.1
    have h2 : tm ≤ greatF tf := h.2.2.2
    have h3 := hsz.2.2
    have h4 : ((256 ^ sizeF tf : Nat) : Int) = 256 ^ sizeF tf := by rw [Int.natCast_pow]; rfl
    simp only at h3
    omega
  have hv0 : (tv.toNat : Int) = tv := Int.toNat_of_nonneg h.2.1.1
  have hm0 : (tm.toNat : Int) = tm := Int.toNat_of_nonneg h.2.2.1
  have hf1 : (1 : Int) ≤ tf := h.1.1
  have hnm' : ((namedF (codeF tf p : Nat) : Nat) : Int) = tf := hnm
  have hs1 : 1 ≤ sizeF tf := hsz.1
  have hs8 : sizeF tf ≤ 8 := hsz.2.1
  unfold stepS testB
  simp only [List.append_assoc]
  rw [rdN_two (beL 2 32768) _ (beL_length _ _)]
  simp only
  rw [rdN_one (beL 1 _) _ (beL_length _ _)]
  simp only
  rw [rdN_one (beL 1 _) _ (beL_length _ _)]
  simp only
  have hc33 : codeB p ⟨tf, tv, tm⟩ < 256 ^ 1 := by unfold codeB; split <;> simp only <;> omega
  rw [numG_be 1 _ (by omega) hc33]
  by_cases hw : tm = greatF tf
  · have ec : codeB p ⟨tf, tv, tm⟩ = 2 * codeF tf p := by unfold codeB; rw [if_pos hw]
    have eb : bodyB ⟨tf, tv, tm⟩ = beL (sizeF tf) tv.toNat := by unfold bodyB; rw [if_pos hw]
    have e1 : ((2 * codeF tf p : Nat) : Int) / 2 = (codeF tf p : Nat) := by omega
    have e2 : ¬ ((2 * codeF tf p : Nat) : Int) % 2 = 1 := by omega
    rw [ec, eb, e1]
    generalize hq : namedF (codeF tf p : Nat) = q at *
    subst hnm'
    rw [if_neg (by omega), if_neg e2, rdN_app _ _ (sizeF (q : Int)) (beL_length _ _) hs1 hs8]
    simp only
    rw [numG_be _ _ hs8 hv, hv0, hw]
  · have ec : codeB p ⟨tf, tv, tm⟩ = 2 * codeF tf p + 1 := by unfold codeB; rw [if_neg hw]
    have eb : bodyB ⟨tf, tv, tm⟩ = beL (sizeF tf) tv.toNat ++ beL (sizeF tf) tm.toNat := by unfold bodyB; rw [if_neg hw]
    have e1 : ((2 * codeF tf p + 1 : Nat) : Int) / 2 = (codeF tf p : Nat) := by omega
    have e2 : ((2 * codeF tf p + 1 : Nat) : Int) % 2 = 1 := by omega
    rw [ec, eb, e1]
    generalize hq : namedF (codeF tf p : Nat) = q at *
    subst hnm'
    rw [if_neg (by omega), if_pos e2, List.append_assoc, rdN_app _ _ (sizeF (q : Int)) (beL_length _ _) hs1 hs8]
    simp only
    rw [rdN_app _ _ (sizeF (q : Int)) (beL_length _ _) hs1 hs8]
    simp only
    rw [numG_be _ _ hs8 hv, numG_be _ _ hs8 hm, hv0, hm0]
theorem seemsF_inner {p : Int} : ∀ (l : List Test) (n : Nat) (acc : List Test), l.length ≤ n → (∀ t ∈ l, FitT t) → (∀ t ∈ l, CodeT p t) → seemsF n (str (innerB p l)) 0 acc = acc ++ l
  | [], n, acc, _, _, _ => by
    cases n with
    | zero => simp [seemsF]
    | succ n =>
      unfold seemsF
      rw [if_neg (by simp [leftR, innerB, str_size])]
      simp
  | t :: l, n, acc, hn, hf, hc => by
    cases n with
    | zero => simp at hn
    | succ n =>
      have e : innerB p (t :: l) = testB p t ++ innerB p l := by unfold innerB; rw [List.flatMap_cons]
      have h4 : 4 ≤ (testB p t).length := by unfold testB; simp only [List.length_append, beL_length]; omega
      unfold seemsF
      rw [e, if_pos (by unfold leftR; rw [if_pos rfl, str_size, List.length_append]; omega), stepS_test (hf t List.mem_cons_self) (hc t List.mem_cons_self)]
      simp only
      rw [seemsF_inner l n _ (by simpa using hn) (fun x hx => hf x (List.mem_cons_of_mem _ hx)) (fun x hx => hc x (List.mem_cons_of_mem _ hx))]
      simp
theorem rightC_code {ahead : List Test} {last : Int} {t : Test} (hok : okT t) (more : List Test) (h : rightC ahead last t = 0) : CodeT (wholeF (ahead ++ more) 7).1 t := by
  have hf := (rightC_fit hok h).1.1
  intro h8
  unfold rightC at h
  split at h
  · cases h
  rename_i hw
  split at h
  · cases h
  rename_i hb
  have hb' : badT ahead last t = false := by cases hq : badT ahead last t <;> simp_all
  unfold badT at hb'
  simp only [Bool.or_eq_false_iff, Bool.not_eq_false'] at hb'
  have hb2 := hb'.2
  unfold basedF at hb2
  rw [if_neg (by omega), if_pos (by omega)] at hb2
  simp only [Bool.and_eq_true, Bool.or_eq_true, beq_iff_eq] at hb2
  unfold wholeF at hb2 ⊢
  rw [List.find?_append]
  cases hfd : ahead.find? (isW 7) with
  | none => rw [hfd] at hb2; simp at hb2
  | some u => rw [hfd] at hb2; simpa using hb2.2
theorem rightFrom_code (ts : List Test) : ∀ (ahead : List Test) (last : Int), (∀ t ∈ ts, okT t) → rightFrom ahead last ts = 0 → ∀ t ∈ ts, CodeT (wholeF (ahead ++ ts) 7).1 t := by
  induction ts with
  | nil => intro ahead last _ _ t ht; exact absurd ht List.not_mem_nil
  | cons t ts ih =>
    intro ahead last hok h
    unfold rightFrom at h
    by_cases hc : rightC ahead last t = 0
    · rw [if_pos hc] at h
      have g1 := ih (ahead ++ [t]) t.fField (fun x hx => hok x (List.mem_cons_of_mem _ hx)) h
      have e : ahead ++ [t] ++ ts = ahead ++ t :: ts := by simp
      rw [e] at g1
      intro x hx
      rcases List.mem_cons.1 hx with rfl | hx
      · exact rightC_code (hok x List.mem_cons_self) _ hc
      · exact g1 x hx
    · rw [if_neg hc] at h; exact absurd h hc
theorem encB_form (l : List Test) (inner rest : List UInt8) (hi : inner = innerB (wholeF l 7).1 l) : ∃ pad : List UInt8, pad.length < 8 ∧ (4 + inner.length + pad.length) % 8 = 0 ∧ encB l = beL 2 1 ++ beL 2 (4 + inner.length) ++ inner ++ pad := by
  subst hi
  refine ⟨List.replicate ((8 - (headB (innerB (wholeF l 7).1 l)).length % 8) % 8) 0, ?_, ?_, rfl⟩
  · rw [List.length_replicate]; omega
  · have : (headB (innerB (wholeF l 7).1 l)).length = 4 + (innerB (wholeF l 7).1 l).length := by unfold headB; simp only [List.length_append, beL_length]
    rw [List.length_replicate, this]; omega
set_option maxRecDepth 100000 in
theorem decF_enc {l : List Test} (hok : ∀ t ∈ l, okT t) (hr : rightF l = 0) (rest : List UInt8) : decF (str (encB l ++ rest)) = (l, ((encB l).length : Int), 0) ∧ (encB l).length % 8 = 0 ∧ (encB l).length ≤ 200 := by
  obtain ⟨hfit, hlen⟩ := right_fit hok hr
  have hcode := rightFrom_code l [] 0 hok hr
  rw [List.nil_append] at hcode
  obtain ⟨inner, hi⟩ : ∃ x, x = innerB (wholeF l 7).1 l := ⟨_, rfl⟩
  obtain ⟨pad, hp, hm, he⟩ := encB_form l inner rest hi
  have hil := innerB_len (p := (wholeF l 7).1) l hfit
  rw [← hi] at hil
  have hll : l.length ≤ (innerB (wholeF l 7).1 l).length := by
    clear hcode hil he hi hm hp
    generalize (wholeF l 7).1 = p
    clear hr hlen hok hfit
    induction l with
    | nil => simp [innerB]
    | cons t l ih =>
      unfold innerB at *
      rw [List.flatMap_cons, List.length_append, List.length_cons]
      unfold testB at *
      simp only [List.length_append, beL_length] at *
      omega
  rw [← hi] at hll
  have hse := seemsF_inner (p := (wholeF l 7).1) l (4 + inner.length) [] (by omega) hfit hcode
  rw [← hi, List.nil_append] at hse
  have hEL : (encB l).length = 4 + inner.length + pad.length := by rw [he]; simp only [List.length_append, beL_length]
  have b2 : byteA (str (encB l ++ rest)) 2 = (4 + inner.length) / 256 := by
    unfold byteA
    rw [str_data, he]
    simp only [beL, List.cons_append, List.nil_append, List.getD_cons_succ, List.getD_cons_zero]
    rw [UInt8.toNat_ofNat']
    omega
  have b3 : byteA (str (encB l ++ rest)) 3 = (4 + inner.length) % 256 := by
    unfold byteA
    rw [str_data, he]
    simp only [beL, List.cons_append, List.nil_append, List.getD_cons_succ, List.getD_cons_zero]
    rw [UInt8.toNat_ofNat']
    omega
  have hn : lenD (str (encB l ++ rest)) = 4 + inner.length := by unfold lenD; rw [b2, b3]; omega
  have hen : endD (str (encB l ++ rest)) = (encB l).length := by unfold endD; rw [hn, hEL]; omega
  have hx : (str (encB l ++ rest)).extract 4 (4 + inner.length) = str inner := by
    rw [str_extract, he]
    rw [show beL 2 1 ++ beL 2 (4 + inner.length) ++ inner ++ pad ++ rest = (beL 2 1 ++ beL 2 (4 + inner.length)) ++ (inner ++ (pad ++ rest)) by simp, List.drop_left' (by simp only [List.length_append, beL_length]), Nat.add_sub_cancel_left, List.take_left' rfl]
  have hx0 : (str (encB l ++ rest)).extract 0 (encB l).length = str (encB l) := by
    rw [str_extract, List.drop_zero, Nat.sub_zero, List.take_left' rfl]
  refine ⟨?_, by omega, by omega⟩
  unfold decF
  rw [hn, hen, hx, hx0, hse, str_size, List.length_append, if_neg (by omega), if_neg (by omega), if_neg (by omega), if_neg (by simp [hr]), if_pos rfl]
end Go.Proofs.Ytaaadbmhcfjooaa
