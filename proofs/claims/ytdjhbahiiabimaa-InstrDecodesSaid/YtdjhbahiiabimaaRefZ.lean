/- droverref06.Encode. droverref07.list. The reference's and the law's small functions: few, code, size. Plain: a metadata's bits lie within its mask, said in two ways. droverref07.Right, of what droverref06.Encode is told to answer (an argument; its own walk is not built yet). droverref07.Encode. -/
import Derived.Test.YtdjhbahiiabimaaRefG
import Derived.Test.YtdjhbahiiabimaaInsC
import Derived.Test.YtdjhbahiiabimaaInsB
namespace Go.Proofs.Ytdjhbahiiabimaa
section
open Go.RowKit
set_option linter.unusedVariables false
set_option linter.unusedSimpArgs false

theorem any_take_false {α : Type} {p : α → Bool} {l : List α} (h : ∀ (k : Nat) (hk : k < l.length), p l[k] = false) : l.any p = false := by
  rw [List.any_eq_false]
  intro x hx
  obtain ⟨i, hi, rfl⟩ := List.mem_iff_getElem.1 hx
  simp [h i hi]
theorem any_at {α : Type} {p : α → Bool} {l : List α} {k : Nat} (hk : k < l.length) (h : p l[k] = true) : l.any p = true := by
  rw [List.any_eq_true]
  exact ⟨_, List.getElem_mem hk, h⟩
set_option maxRecDepth 100000 in
set_option maxHeartbeats 8000000 in
theorem r6Encode_any (w : World) (v : Value) (l : List Action) (h : ReadL w 3 encAction v l) (hok : ∀ x ∈ l, okV x) (hlen : l.length ≤ 1000000) :
    Calls Try.prog 18 #[v] w fun e w' => e = .returned (.tuple #[.string (str (actEnc l).1), .int .i64 (actEnc l).2]) ∧ Below w.heap.size w w' := by
  have HRd := Lib.hid h
  obtain ⟨a, cap, rfl, hcap, hmax⟩ := h.slice
  unfold maxLen at hmax
  have HOk := Lib.hid hok
  have HE1 : Hid (l.any (fun a => !rightX a) = true → actEnc l = ([], 22)) := Lib.hid actEnc_bad
  have HE2 : Hid (l.any (fun a => !rightX a) = false → (32 : Int) < l.length → actEnc l = ([], 44)) := Lib.hid actEnc_big
  have HE3 : Hid (l.any (fun a => !rightX a) = false → (l.length : Int) ≤ 32 → actEnc l = (encAs l, 0)) := Lib.hid (fun h1 h2 => actEnc_ok h1 (by omega))
  generalize actEnc l = R at *
  obtain ⟨R1, R2⟩ := R
  simp only
  clear h hok
  have K0 := Lib.hid (Below.refl w.heap.size w)
  go_enter Try.func18, Try.ntmps18
  go_wp2_with fail
  go_loopw [4] (fun iv wr => ∃ k : Nat, k ≤ l.length ∧ iv = .int .i64 k ∧ Hid (∀ (i : Nat) (hi : i < l.length), i < k → rightX l[i] = true) ∧ Hid (Below w.heap.size w wr)) (fun iv _ => l.length - (intOf iv).toNat)
  case atStart => exact ⟨0, Nat.zero_le _, rfl, Lib.hid (fun i hi h0 => absurd h0 (Nat.not_lt_zero _)), K0⟩
  case round =>
    obtain ⟨k, hk, rfl, HG, HB⟩ := hrel
    clear K0
    by_cases hlt : k < l.length
    · have d2 : decide (k < l.length) = true := by simpa using hlt
      obtain ⟨a0, cap0, hv0, hc1, hc2, hc3⟩ := HRd.out
      obtain ⟨rfl, rfl⟩ : a = a0 ∧ cap = cap0 := by simpa using hv0
      rcases hc3 with hnil | ⟨b, off, rfl, hblt, hcell⟩
      · rw [hnil] at hlt; simp at hlt
      have r1 := range_of hcell HB.out hblt k hlt
      have hx := HOk.out _ (List.getElem_mem hlt)
      have HX : Hid (rightX l[k] = true → ∀ (i : Nat) (hi : i < l.length), i < k + 1 → rightX l[i] = true) := Lib.hid (fun hr i hi h1 => by
        by_cases e : i = k
        · subst e; exact hr
        · exact HG.out i hi (by omega))
      have HY : Hid (rightX l[k] = false → l.any (fun a => !rightX a) = true) := Lib.hid (fun hr => any_at hlt (by simp [hr]))
      clear hv0 hc1 hc2 hcell HG
      generalize l[k] = x at *
      have HRt : Hid (∀ W : World, _) := Lib.hid (fun W => rright_any W x.fKind x.fField x.fValue hx.1 hx.2)
      have hR : rightX x = rightA x.fKind x.fField x.fValue := rfl
      rw [hR] at HX HY
      clear hR
      obtain ⟨x1, x2, x3⟩ := x
      simp only [encAction] at r1
      simp only at HRt HX HY
      generalize rightA x1 x2 x3 = T at *
      clear hx
      go_wp2_with (first
        | (refine wpList_load_mid rfl 67 _ rfl _ _ rfl _ _ r1 Try.underlying67 rfl (by kernel_rfl) ?_)
        | fail)
      refine (HRt.out _).mono ?_
      rintro e w3 ⟨rfl, hb⟩
      have HB1 := Lib.hid (HB.out.trans (hb.mono HB.out.size))
      clear hb HRt HB r1
      cases T
      · obtain ⟨rfl, rfl⟩ := Prod.mk.inj (HE1.out (HY.out rfl))
        clear HE1 HE2 HE3 HX HY
        go_wp2_with fail
        go_ret2
        exact ⟨rfl, HB1.out⟩
      · clear HY
        go_wp2_with fail
        go_roundw
        case rel => exact ⟨k + 1, by omega, by go_num, Lib.hid (HX.out trivial), HB1⟩
        case measure => simp [intOf]; omega
    · have d2 : decide (k < l.length) = false := by simpa using hlt
      obtain rfl : k = l.length := by omega
      have HA : Hid (l.any (fun a => !rightX a) = false) := Lib.hid (any_take_false (fun i hi => by simp [HG.out i hi hi]))
      by_cases h32 : (32 : Int) < l.length
      · have t1 : decide ((32 : Int) < (l.length : Int)) = true := decide_eq_true h32
        obtain ⟨rfl, rfl⟩ := Prod.mk.inj (HE2.out HA.out h32)
        clear HE1 HE2 HE3 HG h32
        go_wp2_with fail
        go_ret2
        exact ⟨rfl, HB.out⟩
      have t1 : decide ((32 : Int) < (l.length : Int)) = false := decide_eq_false h32
      obtain ⟨rfl, rfl⟩ := Prod.mk.inj (HE3.out HA.out (by omega))
      have HLe : Hid (l.length ≤ 32) := Lib.hid (by omega)
      clear HE1 HE2 HE3 h32 HA
      go_wp2_with fail
      go_loopw [6, 5] (fun iv sv wr => ∃ k : Nat, k ≤ l.length ∧ iv = .int .i64 k ∧ sv = .string (str (encAs (l.take k))) ∧ Hid (Below w.heap.size w wr)) (fun iv _ _ => l.length - (intOf iv).toNat)
      case atStart => exact ⟨0, Nat.zero_le _, rfl, rfl, HB⟩
      case round =>
        obtain ⟨k, hk, rfl, rfl, HB⟩ := hrel
        by_cases hlt : k < l.length
        · have d3 : decide (k < l.length) = true := by simpa using hlt
          obtain ⟨a0, cap0, hv0, hc1, hc2, hc3⟩ := HRd.out
          obtain ⟨rfl, rfl⟩ : a = a0 ∧ cap = cap0 := by simpa using hv0
          rcases hc3 with hnil | ⟨b, off, rfl, hblt, hcell⟩
          · rw [hnil] at hlt; simp at hlt
          have r1 := range_of hcell HB.out hblt k hlt
          have hx := HOk.out _ (List.getElem_mem hlt)
          have hrx := HG.out k hlt hlt
          have HT := Lib.hid (encAs_take hlt)
          have HLn : Hid ((encAs (l.take k)).length ≤ 1000) := Lib.hid (by
            have h1 := encAs_len (l.take k) (fun y hy => by
              obtain ⟨i, hi, rfl⟩ := List.mem_iff_getElem.1 (List.mem_of_mem_take hy)
              exact HG.out i hi hi)
            have h2 := HLe.out
            rw [List.length_take] at h1
            omega)
          clear hv0 hc1 hc2 hcell
          generalize l[k] = x at *
          have HLd : Hid (∀ W : World, _) := Lib.hid (fun W => r6bytes_any W x.fKind x.fField x.fValue hrx hx.1)
          have HXl := Lib.hid (laidX_len x hrx)
          have HTx : Hid (encAs (l.take (k + 1)) = encAs (l.take k) ++ laidA x.fKind x.fField x.fValue) := HT
          have HXl' : Hid ((laidA x.fKind x.fField x.fValue).length ≤ 16) := HXl
          clear HT HXl
          obtain ⟨x1, x2, x3⟩ := x
          simp only [encAction] at r1
          simp only at HLd HTx HXl'
          clear hx hrx
          have hl1 := HLn.out
          have hl2 := HXl'.out
          generalize laidA x1 x2 x3 = Y at *
          generalize encAs (l.take k) = X at *
          clear HLn HXl'
          go_wp2_with (first
            | (refine wpList_load_mid rfl 67 _ rfl _ _ rfl _ _ r1 Try.underlying67 rfl (by kernel_rfl) ?_)
            | fail)
          refine (HLd.out _).mono ?_
          rintro e w3 ⟨rfl, hb⟩
          have HB1 := Lib.hid (HB.out.trans (hb.mono HB.out.size))
          clear hb HLd HB r1
          go_wp2_with fail
          go_roundw
          case rel => exact ⟨k + 1, by omega, by go_num, by rw [HTx.out], HB1⟩
          case measure => simp [intOf]; omega
        · have d3 : decide (k < l.length) = false := by simpa using hlt
          obtain rfl : k = l.length := by omega
          rw [List.take_length]
          go_wp2_with fail
          go_ret2
          exact ⟨rfl, HB.out⟩
end
section
open Go.RowKit
set_option linter.unusedVariables false
set_option linter.unusedSimpArgs false
attribute [local go_sem] beL_length

theorem lay07 (b : UInt8) (p s : List UInt8) : str [0, b] ++ str p ++ (⟨#[0, 0, 0, 0]⟩ : ByteArray) ++ str s = str ([0, b] ++ (p ++ ([0, 0, 0, 0] ++ s))) := by
  rw [show (⟨#[0, 0, 0, 0]⟩ : ByteArray) = str [0, 0, 0, 0] from rfl]
  simp only [str_append, List.append_assoc]
set_option maxRecDepth 100000 in
set_option maxHeartbeats 4000000 in
theorem r7list_any (w : World) (b : UInt8) (k : Nat) (hk : beL 2 k = [0, b]) (v : Value) (l : List Action) (h : ReadL w 3 encAction v l) (hok : ∀ x ∈ l, okV x) (hlen : l.length ≤ 1000000) :
    Calls Try.prog 25 #[.string (str [0, b]), v] w fun e w' => e = .returned (.string (str (listB k l))) ∧ Below w.heap.size w w' := by
  have HE := Lib.hid (r6Encode_any w v l h hok hlen)
  have HLn : Hid ((actEnc l).1.length ≤ 512) := Lib.hid (actEnc_len l)
  have HL : Hid (listB k l = if l = [] then [] else [0, b] ++ (beL 2 (8 + (actEnc l).1.length) ++ ([0, 0, 0, 0] ++ (actEnc l).1))) := Lib.hid (by
    unfold listB partB
    rw [hk]
    have e : 4 + ([0, 0, 0, 0] ++ (actEnc l).1).length = 8 + (actEnc l).1.length := by simp; omega
    rw [e])
  obtain ⟨a, cap, rfl, hcap, hmax⟩ := h.slice
  generalize actEnc l = R at *
  obtain ⟨S, e⟩ := R
  simp only at HE HLn HL
  clear h hok hk
  by_cases h0 : l = []
  · have t0 : ((l.length : Int) == 0) = true := by rw [h0]; rfl
    have HL' : Hid (listB k l = []) := Lib.hid (by rw [HL.out, if_pos h0])
    clear HL h0 HE HLn
    generalize listB k l = X at *
    generalize l.length = n at *
    go_enter Try.func25, Try.ntmps25
    go_wp2_with fail
    go_ret
    exact ⟨by rw [HL'.out]; rfl, Below.refl _ _⟩
  · have t0 : ((l.length : Int) == 0) = false := by
      have : 0 < l.length := List.length_pos_iff.2 h0
      simp
      omega
    have HL' : Hid (listB k l = [0, b] ++ (beL 2 (8 + S.length) ++ ([0, 0, 0, 0] ++ S))) := Lib.hid (by rw [HL.out, if_neg h0])
    clear HL h0
    generalize listB k l = X at *
    generalize l.length = n at *
    generalize hn : S.length = m at *
    have hm := HLn.out
    have q0 : IntKind.i64.wrap (8 + (m : Int)) = 8 + (m : Int) := by simp [IntKind.wrap, IntKind.bits, IntKind.signed]; omega
    have q1 : IntKind.u64.wrap (8 + (m : Int)) = 8 + (m : Int) := by simp [IntKind.wrap, IntKind.bits, IntKind.signed]; omega
    have HP : Hid (∀ W : World, Calls Try.prog 24 #[.int .u64 (8 + (m : Int)), .int .i64 2] W fun x w' => x = .returned (.string (str (beL 2 (8 + m)))) ∧ Below W.heap.size W w') := Lib.hid (fun W => by
      have := r3Put_any W (8 + (m : Int)) 2 (by omega) (by decide) (by decide)
      have e : (8 + (m : Int)).toNat = 8 + m := by omega
      rw [e] at this
      exact this)
    have hpl : (beL 2 (8 + m)).length = 2 := beL_length _ _
    generalize beL 2 (8 + m) = P at *
    clear HLn
    go_enter Try.func25, Try.ntmps25
    go_wp2_with fail
    refine HE.out.mono ?_
    rintro x w1 ⟨rfl, hb⟩
    have HB := Lib.hid hb
    clear hb HE
    go_wp2_with fail
    refine (HP.out _).mono ?_
    rintro x w2 ⟨rfl, hb⟩
    have HB2 := Lib.hid (HB.out.trans (hb.mono HB.out.size))
    clear hb HP HB
    go_wp2_with fail
    go_ret
    exact ⟨ret_str (by rw [HL'.out]; exact lay07 _ _ _), HB2.out⟩
end
section
open Go.RowKit
set_option linter.unusedVariables false
set_option linter.unusedSimpArgs false

def fewE (x : Entry) : Bool := decide (x.fApply.length ≤ 60) && decide (x.fWrite.length ≤ 60)
set_option maxRecDepth 100000 in
set_option maxHeartbeats 4000000 in
theorem few_any (w : World) (x : Entry) (hA : ReadL w 3 encAction x.vApply x.fApply) (hW : ReadL w 3 encAction x.vWrite x.fWrite) : Calls Try.prog 8 #[valEntry x] w fun e w' => e = .returned (.bool (fewE x)) ∧ Below w.heap.size w w' := by
  obtain ⟨aa, ac, hva, _, _⟩ := hA.slice
  obtain ⟨wa, wcap, hvw, _, _⟩ := hW.slice
  have HF : Hid (fewE x = _) := Lib.hid (by unfold fewE; rfl)
  generalize fewE x = F at *
  obtain ⟨tb, pr, vT, fT, vA, fA, vW, fW, cl, me, mk, mt, gt⟩ := x
  simp only at *
  subst hva hvw
  clear hA hW
  generalize fA.length = n1 at *
  generalize fW.length = n2 at *
  by_cases h1 : n1 ≤ 60
  · have t1 : decide ((n1 : Int) ≤ 60) = true := decide_eq_true (by omega)
    by_cases h2 : n2 ≤ 60
    · have t2 : decide ((n2 : Int) ≤ 60) = true := decide_eq_true (by omega)
      have hF : F = true := by rw [HF.out]; simp [h1, h2]
      subst hF
      clear h1 h2 HF
      go_enter Try.func8, Try.ntmps8
      go_upto_region 1 with fail
      refine one_box_wp ?_
      intro W hb1 hbel hsz
      have K : Hid (KR w.heap.size w [(w.heap.size, 26, entC tb pr vT (.slice aa n1 ac) (.slice wa n2 wcap) cl me mk mt gt)] W) := Lib.hid ((KR.start hbel hbel.size).add hb1)
      clear hb1 hbel hsz
      have c3 := (K.out.at 0 rfl).cell 3 _ rfl
      have c4 := (K.out.at 0 rfl).cell 4 _ rfl
      go_wp2_with fail
      go_ret
      exact ⟨rfl, K.out.below⟩
    · have t2 : decide ((n2 : Int) ≤ 60) = false := decide_eq_false (by omega)
      have hF : F = false := by rw [HF.out]; simp [h1, h2]
      subst hF
      clear h1 h2 HF
      go_enter Try.func8, Try.ntmps8
      go_upto_region 1 with fail
      refine one_box_wp ?_
      intro W hb1 hbel hsz
      have K : Hid (KR w.heap.size w [(w.heap.size, 26, entC tb pr vT (.slice aa n1 ac) (.slice wa n2 wcap) cl me mk mt gt)] W) := Lib.hid ((KR.start hbel hbel.size).add hb1)
      clear hb1 hbel hsz
      have c3 := (K.out.at 0 rfl).cell 3 _ rfl
      have c4 := (K.out.at 0 rfl).cell 4 _ rfl
      go_wp2_with fail
      go_ret
      exact ⟨rfl, K.out.below⟩
  · have t1 : decide ((n1 : Int) ≤ 60) = false := decide_eq_false (by omega)
    have hF : F = false := by rw [HF.out]; simp [h1]
    subst hF
    clear h1 HF
    go_enter Try.func8, Try.ntmps8
    go_upto_region 1 with fail
    refine one_box_wp ?_
    intro W hb1 hbel hsz
    have K : Hid (KR w.heap.size w [(w.heap.size, 26, entC tb pr vT (.slice aa n1 ac) (.slice wa n2 wcap) cl me mk mt gt)] W) := Lib.hid ((KR.start hbel hbel.size).add hb1)
    clear hb1 hbel hsz
    have c3 := (K.out.at 0 rfl).cell 3 _ rfl
    have c4 := (K.out.at 0 rfl).cell 4 _ rfl
    go_wp2_with fail
    go_ret
    exact ⟨rfl, K.out.below⟩
end
section
open Go.RowKit
set_option linter.unusedVariables false
set_option linter.unusedSimpArgs false

theorem and_iff_andNot (x y : BitVec 64) : x &&& y = x ↔ x &&& ~~~y = 0#64 := by
  constructor
  · intro h
    rw [← h]
    ext i hi
    simp
  · intro h
    ext i hi
    have h1 := congrArg (fun z : BitVec 64 => z[i]) h
    simp at h1
    simp
    exact h1
theorem u64_wrap_toNat (x : BitVec 64) : IntKind.u64.wrap (x.toNat : Int) = (x.toNat : Int) := by
  have : ∀ v : Int, IntKind.u64.wrap v = v % 18446744073709551616 := fun v => by simp [IntKind.wrap, IntKind.bits, IntKind.signed]
  rw [this]
  have := x.isLt
  omega
theorem ofInt_toNat (a : Int) (h0 : 0 ≤ a) (h1 : a ≤ 18446744073709551615) : ((BitVec.ofInt 64 a).toNat : Int) = a := by
  rw [BitVec.toNat_ofInt]
  omega
theorem mask_iff (a b : Int) (ha : 0 ≤ a ∧ a ≤ 18446744073709551615) : Go.bits .and .u64 a b = a ↔ Go.bits .andNot .u64 a b = 0 := by
  have e1 : Go.bits .and .u64 a b = ((BitVec.ofInt 64 a &&& BitVec.ofInt 64 b).toNat : Int) := u64_wrap_toNat _
  have e2 : Go.bits .andNot .u64 a b = ((BitVec.ofInt 64 a &&& ~~~ BitVec.ofInt 64 b).toNat : Int) := u64_wrap_toNat _
  have e3 := ofInt_toNat a ha.1 ha.2
  rw [e1, e2]
  constructor
  · intro h
    have : BitVec.ofInt 64 a &&& BitVec.ofInt 64 b = BitVec.ofInt 64 a := BitVec.eq_of_toNat_eq (by omega)
    rw [(and_iff_andNot _ _).1 this]
    rfl
  · intro h
    have : BitVec.ofInt 64 a &&& ~~~ BitVec.ofInt 64 b = 0#64 := BitVec.eq_of_toNat_eq (by simp only [BitVec.toNat_ofNat]; omega)
    rw [(and_iff_andNot _ _).2 this]
    exact e3
end
section
open Go.RowKit
set_option linter.unusedVariables false
set_option linter.unusedSimpArgs false

set_option maxRecDepth 100000 in
set_option maxHeartbeats 8000000 in
theorem r7Right_of (w : World) (x : Entry) (h : EntOk w x) (hE : ∀ (W : World) (v : Value) (l : List Action), ReadL W 3 encAction v l → (∀ x ∈ l, okV x) → l.length ≤ 1000000 → Calls Try.prog 18 #[v] W fun e w' => e = .returned (.tuple #[.string (str (actEnc l).1), .int .i64 (actEnc l).2]) ∧ Below W.heap.size W w') : Calls Try.prog 10 #[valEntry x] w fun e w' => e = .returned (.int .i64 (rightE x)) ∧ Below w.heap.size w w' := by
  have HR : Hid (rightE x = _) := Lib.hid (by unfold rightE; rfl)
  have HEa : Hid (∀ W : World, Below w.heap.size w W → _) := Lib.hid (fun W hW => hE W x.vApply x.fApply (h.ap.below hW (Nat.le_refl _)) h.okA (Nat.le_trans h.lenA (by decide)))
  have HEw : Hid (∀ W : World, Below w.heap.size w W → _) := Lib.hid (fun W hW => hE W x.vWrite x.fWrite (h.wr.below hW (Nat.le_refl _)) h.okW (Nat.le_trans h.lenW (by decide)))
  obtain ⟨aa, ac, hva, _, _⟩ := h.ap.slice
  obtain ⟨wa, wc, hvw, _, _⟩ := h.wr.slice
  generalize rightE x = R at *
  have HMk := Lib.hid (mask_iff x.fMeta x.fMetaMask h.meta0)
  obtain ⟨tb, pr, vT, fT, vA, fA, vW, fW, cl, me, mk, mt, gt⟩ := x
  simp only at *
  subst hva hvw
  generalize actEnc fA = EA at *
  generalize actEnc fW = EW at *
  obtain ⟨ea1, ea⟩ := EA
  obtain ⟨ew1, ew⟩ := EW
  simp only at *
  clear h hE
  by_cases ht : tb < 0 ∨ 7 < tb
  · have hr : Hid (R = 26) := Lib.hid (by rw [HR.out]; simp only [ht, Bool.or_eq_true, decide_eq_true_eq, if_true])
    clear HR
    by_cases ht0 : tb < 0
    · have t1 : decide (tb < 0) = true := decide_eq_true ht0
      clear ht
      go_enter Try.func10, Try.ntmps10
      go_upto_region 1 with fail
      refine one_box_wp ?_
      intro W hb1 hbel hsz
      have K : Hid (KR w.heap.size w [(w.heap.size, 26, entC tb pr vT (.slice aa fA.length ac) (.slice wa fW.length wc) cl me mk mt gt)] W) := Lib.hid ((KR.start hbel hbel.size).add hb1)
      clear hb1 hbel hsz
      have c0 := (K.out.at 0 rfl).cell 0 _ rfl
      go_wp2_with fail
      go_ret
      exact ⟨by rw [hr.out]; rfl, K.out.below⟩
    · have t1 : decide (tb < 0) = false := decide_eq_false ht0
      have t2 : decide (7 < tb) = true := decide_eq_true (ht.resolve_left ht0)
      clear ht
      go_enter Try.func10, Try.ntmps10
      go_upto_region 1 with fail
      refine one_box_wp ?_
      intro W hb1 hbel hsz
      have K : Hid (KR w.heap.size w [(w.heap.size, 26, entC tb pr vT (.slice aa fA.length ac) (.slice wa fW.length wc) cl me mk mt gt)] W) := Lib.hid ((KR.start hbel hbel.size).add hb1)
      clear hb1 hbel hsz
      have c0 := (K.out.at 0 rfl).cell 0 _ rfl
      go_wp2_with fail
      go_ret
      exact ⟨by rw [hr.out]; rfl, K.out.below⟩
  have t1 : decide (tb < 0) = false := decide_eq_false (by omega)
  have t2 : decide (7 < tb) = false := decide_eq_false (by omega)
  have HR2 : Hid (R = if (ea != 0) = true then ea else if (ew != 0) = true then ew else if (decide (mt < 0) || decide (16 < mt)) = true then 25 else if (metaBad me mk || gotoBad tb gt) = true then 23 else 0) := Lib.hid (by rw [HR.out, t1, t2]; rfl)
  clear HR ht
  go_enter Try.func10, Try.ntmps10
  go_upto_region 1 with fail
  refine one_box_wp ?_
  intro W hb1 hbel hsz
  have K : Hid (KR w.heap.size w [(w.heap.size, 26, entC tb pr vT (.slice aa fA.length ac) (.slice wa fW.length wc) cl me mk mt gt)] W) := Lib.hid ((KR.start hbel hbel.size).add hb1)
  clear hb1 hbel hsz
  have c0 := (K.out.at 0 rfl).cell 0 _ rfl
  have c3 := (K.out.at 0 rfl).cell 3 _ rfl
  go_wp2_with fail
  refine (HEa.out _ K.out.below).mono ?_
  rintro e w1 ⟨rfl, hb⟩
  replace K := Lib.hid (K.out.call hb)
  clear hb c0 c3
  cases he1 : (ea != 0)
  case true =>
    have hr : Hid (R = ea) := Lib.hid (by rw [HR2.out, he1]; rfl)
    clear HR2
    go_wp2_with fail
    go_ret
    exact ⟨by rw [hr.out]; rfl, K.out.below⟩
  have HR3 : Hid (R = if (ew != 0) = true then ew else if (decide (mt < 0) || decide (16 < mt)) = true then 25 else if (metaBad me mk || gotoBad tb gt) = true then 23 else 0) := Lib.hid (by rw [HR2.out, he1]; rfl)
  clear HR2
  have c4 := (K.out.at 0 rfl).cell 4 _ rfl
  go_wp2_with fail
  refine (HEw.out _ K.out.below).mono ?_
  rintro e w2 ⟨rfl, hb⟩
  replace K := Lib.hid (K.out.call hb)
  clear hb c4 he1
  cases he2 : (ew != 0)
  case true =>
    have hr : Hid (R = ew) := Lib.hid (by rw [HR3.out, he2]; rfl)
    clear HR3
    go_wp2_with fail
    go_ret
    exact ⟨by rw [hr.out]; rfl, K.out.below⟩
  have HR4 : Hid (R = if (decide (mt < 0) || decide (16 < mt)) = true then 25 else if (metaBad me mk || gotoBad tb gt) = true then 23 else 0) := Lib.hid (by rw [HR3.out, he2]; rfl)
  clear HR3
  have c0 := (K.out.at 0 rfl).cell 0 _ rfl
  have c6 := (K.out.at 0 rfl).cell 6 _ rfl
  have c7 := (K.out.at 0 rfl).cell 7 _ rfl
  have c8 := (K.out.at 0 rfl).cell 8 _ rfl
  have c9 := (K.out.at 0 rfl).cell 9 _ rfl
  by_cases hm0 : mt < 0
  · have t3 : decide (mt < 0) = true := decide_eq_true hm0
    have hr : Hid (R = 25) := Lib.hid (by rw [HR4.out, t3]; rfl)
    clear HR4 hm0
    go_wp2_with fail
    go_ret
    exact ⟨by rw [hr.out]; rfl, K.out.below⟩
  have t3 : decide (mt < 0) = false := decide_eq_false hm0
  by_cases hm1 : 16 < mt
  · have t4 : decide (16 < mt) = true := decide_eq_true hm1
    have hr : Hid (R = 25) := Lib.hid (by rw [HR4.out, t3, t4]; rfl)
    clear HR4 hm0 hm1
    go_wp2_with fail
    go_ret
    exact ⟨by rw [hr.out]; rfl, K.out.below⟩
  have t4 : decide (16 < mt) = false := decide_eq_false hm1
  have HR5 : Hid (R = if (metaBad me mk || gotoBad tb gt) = true then 23 else 0) := Lib.hid (by rw [HR4.out, t3, t4]; rfl)
  clear HR4 hm0 hm1
  unfold metaBad gotoBad at HR5
  have HMq : Hid ((Go.bits .and .u64 me mk != me) = (Go.bits .andNot .u64 me mk != 0)) := Lib.hid (by have := HMk.out; rw [Bool.eq_iff_iff]; simp only [bne_iff_ne, ne_eq]; exact not_congr this)
  cases hmb : (Go.bits .andNot .u64 me mk != 0)
  case true =>
    have tm : (Go.bits .and .u64 me mk != me) = true := by rw [HMq.out, hmb]
    clear HMq HMk
    have hr : Hid (R = 23) := Lib.hid (by rw [HR5.out, hmb]; rfl)
    clear HR5
    go_wp2_with fail
    go_ret
    exact ⟨by rw [hr.out]; rfl, K.out.below⟩
  have tm : (Go.bits .and .u64 me mk != me) = false := by rw [HMq.out, hmb]
  clear HMq HMk
  cases hg0 : (gt != 0)
  case false =>
    have hr : Hid (R = 0) := Lib.hid (by rw [HR5.out, hmb, hg0]; rfl)
    clear HR5
    go_wp2_with fail
    go_ret
    exact ⟨by rw [hr.out]; rfl, K.out.below⟩
  cases hg1 : decide (gt ≤ tb)
  case true =>
    have hr : Hid (R = 23) := Lib.hid (by rw [HR5.out, hmb, hg0, hg1]; rfl)
    clear HR5
    go_wp2_with fail
    go_ret
    exact ⟨by rw [hr.out]; rfl, K.out.below⟩
  cases hg2 : decide (7 < gt)
  case true =>
    have hr : Hid (R = 23) := Lib.hid (by rw [HR5.out, hmb, hg0, hg1, hg2]; rfl)
    clear HR5
    go_wp2_with fail
    go_ret
    exact ⟨by rw [hr.out]; rfl, K.out.below⟩
  have hr : Hid (R = 0) := Lib.hid (by rw [HR5.out, hmb, hg0, hg1, hg2]; rfl)
  clear HR5
  go_wp2_with fail
  go_ret
  exact ⟨by rw [hr.out]; rfl, K.out.below⟩
end
section
open Go.RowKit
set_option linter.unusedVariables false
set_option linter.unusedSimpArgs false
attribute [local go_sem] beL_length

theorem encM_lit {mt : Int} (h : mt ≠ 0) : encM mt = [0, 6, 0, 8] ++ beL 4 mt.toNat := by
  unfold encM partB
  rw [if_neg h, beL_length]
  rfl
theorem encCl_lit : encCl true = [0, 5, 0, 8, 0, 0, 0, 0] := by kernel_rfl
theorem encMe_lit {me mk : Int} (h : mk ≠ 0) : encMe me mk = [0, 2, 0, 24, 0, 0, 0, 0] ++ (beL 8 me.toNat ++ beL 8 mk.toNat) := by
  unfold encMe partB
  rw [if_neg h, List.length_append, List.length_append, beL_length, beL_length]
  rfl
theorem encG_lit {gt : Int} (h : gt ≠ 0) : encG gt = [0, 1, 0, 8] ++ (beL 1 gt.toNat ++ [0, 0, 0]) := by
  unfold encG partB
  rw [if_neg h, List.length_append, beL_length]
  rfl
theorem one_str (W : World) (gt : Int) (h0 : 0 ≤ gt) (h1 : gt ≤ 255) : (convert 43 9 (.slice (some ⟨W.heap.size, 0, none⟩) 1 1)).run Try.prog (W.alloc (.cells #[.int .u8 gt] 5)) = .ok (.string (str (beL 1 gt.toNat))) (W.alloc (.cells #[.int .u8 gt] 5)) := by
  have e : str (beL 1 gt.toNat) = strOfNums [gt] := by
    unfold str strOfNums
    simp [beL]
  rw [e]
  refine run_convert_bytes_arg (P := Try.prog) _ 43 5 Try.underlying43 Try.underlying5 W.heap.size 0 1 1 [gt] rfl (fun i hi => ?_) 9 Try.underlying9
  obtain rfl : i = 0 := by simpa using hi
  exact (cell_of_row _ _ 0 _ _ (0, 0) (BlkAt.new W 5 #[.int .u8 gt])).trans rfl
theorem str_lit_add (x : ByteArray) (a : List UInt8) (h : x = str a) (b : List UInt8) : x ++ str b = str (a ++ b) := by rw [h, str_append]
theorem lay8 (b p q : List UInt8) : str b ++ (⟨#[0, 2, 0, 24, 0, 0, 0, 0]⟩ : ByteArray) ++ str p ++ str q = str (b ++ ([0, 2, 0, 24, 0, 0, 0, 0] ++ (p ++ q))) := by
  rw [show (⟨#[0, 2, 0, 24, 0, 0, 0, 0]⟩ : ByteArray) = str [0, 2, 0, 24, 0, 0, 0, 0] from rfl]
  simp only [str_append, List.append_assoc]
theorem lay1 (b p : List UInt8) : str b ++ (⟨#[0, 1, 0, 8]⟩ : ByteArray) ++ str p ++ (⟨#[0, 0, 0]⟩ : ByteArray) = str (b ++ ([0, 1, 0, 8] ++ (p ++ [0, 0, 0]))) := by
  rw [show (⟨#[0, 1, 0, 8]⟩ : ByteArray) = str [0, 1, 0, 8] from rfl, show (⟨#[0, 0, 0]⟩ : ByteArray) = str [0, 0, 0] from rfl]
  simp only [str_append, List.append_assoc]
theorem ret_str2 {a b : ByteArray} {v : Value} (h : a = b) : Ending.returned (.tuple #[.string a, v]) = .returned (.tuple #[.string b, v]) := by rw [h]
set_option maxRecDepth 100000 in
set_option maxHeartbeats 8000000 in
theorem r7Encode_of (w : World) (x : Entry) (h : EntOk w x) (HRt : Hid (∀ W : World, Below w.heap.size w W → Calls Try.prog 10 #[valEntry x] W fun e w' => e = .returned (.int .i64 (rightE x)) ∧ Below W.heap.size W w')) : Calls Try.prog 13 #[valEntry x] w fun e w' => e = .returned (.tuple #[.string (str (encR x).1), .int .i64 (encR x).2]) ∧ Below w.heap.size w w' := by
  have HLa : Hid (∀ W : World, Below w.heap.size w W → Calls Try.prog 25 #[.string ⟨#[0, 4]⟩, x.vApply] W fun e w' => e = .returned (.string (str (listB 4 x.fApply))) ∧ Below W.heap.size W w') := Lib.hid (fun W hW => r7list_any W 4 4 rfl x.vApply x.fApply (h.ap.below hW (Nat.le_refl _)) h.okA (Nat.le_trans h.lenA (by decide)))
  have HLw : Hid (∀ W : World, Below w.heap.size w W → Calls Try.prog 25 #[.string ⟨#[0, 3]⟩, x.vWrite] W fun e w' => e = .returned (.string (str (listB 3 x.fWrite))) ∧ Below W.heap.size W w') := Lib.hid (fun W hW => r7list_any W 3 3 rfl x.vWrite x.fWrite (h.wr.below hW (Nat.le_refl _)) h.okW (Nat.le_trans h.lenW (by decide)))
  have HRe : Hid (rightE x ≠ 0 → encR x = ([], rightE x)) := Lib.hid (fun hr => by unfold encR; rw [if_neg hr])
  have HRo : Hid (rightE x = 0 → encR x = (encE x, 0)) := Lib.hid (fun hr => by unfold encR; rw [if_pos hr])
  have HFt := Lib.hid (rightE_fits (x := x))
  have HE : Hid (encE x = _) := Lib.hid (by unfold encE; rfl)
  obtain ⟨aa, ac, hva, _, _⟩ := h.ap.slice
  obtain ⟨wa, wcap, hvw, _, _⟩ := h.wr.slice
  have hm := h.meta0
  have hk := h.mask0
  generalize encR x = E at *
  obtain ⟨E1, E2⟩ := E
  generalize rightE x = R at *
  generalize encE x = EE at *
  have HAl := Lib.hid (listB_len 4 x.fApply)
  have HWl := Lib.hid (listB_len 3 x.fWrite)
  obtain ⟨tb, pr, vT, fT, vA, fA, vW, fW, cl, me, mk, mt, gt⟩ := x
  simp only at *
  subst hva hvw
  generalize listB 4 fA = LA at *
  generalize listB 3 fW = LW at *
  clear h
  go_enter Try.func13, Try.ntmps13
  go_upto_region 1 with fail
  refine one_box_wp ?_
  intro W hb1 hbel hsz
  have K : Hid (KR w.heap.size w [(w.heap.size, 26, entC tb pr vT (.slice aa fA.length ac) (.slice wa fW.length wcap) cl me mk mt gt)] W) := Lib.hid ((KR.start hbel hbel.size).add hb1)
  clear hb1 hbel hsz
  go_wp2_with (first
    | (refine wpList_load_row rfl 26 _ rfl _ rfl _ _ _ _ (K.out.at 0 rfl) Try.underlying26 rfl (by kernel_rfl) ?_)
    | fail)
  refine (HRt.out _ K.out.below).mono ?_
  rintro e w1 ⟨rfl, hb⟩
  replace K := Lib.hid (K.out.call hb)
  clear hb HRt
  cases hr : (R != 0)
  case true =>
    obtain ⟨rfl, rfl⟩ := Prod.mk.inj (HRe.out (by simpa using hr))
    clear HRe HRo HFt HE
    go_wp2_with fail
    go_ret2
    exact ⟨rfl, K.out.below⟩
  have hR0 : R = 0 := by simpa using hr
  obtain ⟨rfl, rfl⟩ := Prod.mk.inj (HRo.out hR0)
  obtain ⟨f1, f2, f3, _⟩ := HFt.out hR0
  clear HRe HRo HFt hR0
  have c8 := (K.out.at 0 rfl).cell 8 _ rfl
  go_upto_if 13 with fail
  clear hr
  go_cut [5] from 13 (fun s5 wx => s5 = .string (str (encM mt)) ∧ Hid (KR w.heap.size w [(w.heap.size, 26, entC tb pr vT (.slice aa fA.length ac) (.slice wa fW.length wcap) cl me mk mt gt)] wx))
  case first =>
    cases tm : (mt != 0)
    · have HEq : Hid (encM mt = []) := Lib.hid (by unfold encM; rw [if_pos (by simpa using tm)])
      go_wp2_with fail
      go_meet
      case rel => exact ⟨by rw [HEq.out]; rfl, K⟩
    · have hg : mt ≠ 0 := by simpa using tm
      have HEq := Lib.hid (encM_lit hg)
      have q1 : IntKind.u64.wrap mt = mt := by simp [IntKind.wrap, IntKind.bits, IntKind.signed]; omega
      have HP : Hid (∀ W : World, Calls Try.prog 24 #[.int .u64 mt, .int .i64 4] W fun x w' => x = .returned (.string (str (beL 4 mt.toNat))) ∧ Below W.heap.size W w') := Lib.hid (fun W => r3Put_any W mt 4 f1.1 (by decide) (by decide))
      have hpl : (beL 4 mt.toNat).length = 4 := beL_length _ _
      generalize beL 4 mt.toNat = P at *
      clear hg
      go_wp2_with fail
      refine (HP.out _).mono ?_
      rintro e wq ⟨rfl, hb⟩
      replace K := Lib.hid (K.out.call hb)
      clear hb HP
      go_wp2_with fail
      go_meet
      case rel => exact ⟨congrArg Value.string (by rw [HEq.out]; exact str_lit_add _ _ rfl _), K⟩
  case rest =>
    obtain ⟨rfl, K⟩ := hcut
    have hB1 : (encM mt).length ≤ 8 := encM_len mt
    generalize encM mt = B1 at *
    clear c8
    have c3 := (K.out.at 0 rfl).cell 3 _ rfl
    go_wp2_with fail
    refine (HLa.out _ K.out.below).mono ?_
    rintro e wq ⟨rfl, hb⟩
    replace K := Lib.hid (K.out.call hb)
    have hAl := HAl.out
    clear hb HLa c3
    have c5 := (K.out.at 0 rfl).cell 5 _ rfl
    go_upto_if 25 with fail
    have HAl2 : Hid (B1.length ≤ 8 ∧ LA.length ≤ 520) := Lib.hid ⟨hB1, HAl.out⟩
    clear hAl hB1 HAl
    go_cut [5] from 25 (fun s5 wx => s5 = .string (str ((B1 ++ LA) ++ encCl cl)) ∧ Hid (KR w.heap.size w [(w.heap.size, 26, entC tb pr vT (.slice aa fA.length ac) (.slice wa fW.length wcap) cl me mk mt gt)] wx))
    case first =>
      cases cl
      · go_wp2_with fail
        go_meet
        case rel => exact ⟨congrArg Value.string (by simp [encCl]), K⟩
      · have h1 : (B1 ++ LA).length ≤ 600 := by rw [List.length_append]; have := HAl2.out; omega
        generalize B1 ++ LA = BL at *
        go_wp2_with fail
        go_meet
        case rel => exact ⟨congrArg Value.string (by rw [encCl_lit]; exact str_append BL [0, 5, 0, 8, 0, 0, 0, 0]), K⟩
    case rest =>
      obtain ⟨rfl, K⟩ := hcut
      have HB2 : Hid (((B1 ++ LA) ++ encCl cl).length ≤ 700) := Lib.hid (by have := HAl2.out; have := encCl_len cl; rw [List.length_append, List.length_append]; omega)
      generalize (B1 ++ LA) ++ encCl cl = B2 at *
      clear c5 HAl2
      have c4 := (K.out.at 0 rfl).cell 4 _ rfl
      have hB2 := HB2.out
      have hWl := HWl.out
      go_wp2_with fail
      refine (HLw.out _ K.out.below).mono ?_
      rintro e wq ⟨rfl, hb⟩
      replace K := Lib.hid (K.out.call hb)
      clear hb HLw c4
      have c7 := (K.out.at 0 rfl).cell 7 _ rfl
      go_upto_if 35 with fail
      have HB4 : Hid ((B2 ++ LW).length ≤ 1300) := Lib.hid (by rw [List.length_append]; omega)
      clear hB2 hWl HB2 HWl
      generalize B2 ++ LW = B4 at *
      go_cut [5] from 35 (fun s5 wx => s5 = .string (str (B4 ++ encMe me mk)) ∧ Hid (KR w.heap.size w [(w.heap.size, 26, entC tb pr vT (.slice aa fA.length ac) (.slice wa fW.length wcap) cl me mk mt gt)] wx))
      case first =>
        cases tm : (mk != 0)
        · have HEq : Hid (encMe me mk = []) := Lib.hid (by unfold encMe; rw [if_pos (by simpa using tm)])
          go_wp2_with fail
          go_meet
          case rel => exact ⟨by rw [HEq.out, List.append_nil], K⟩
        · have hmk : mk ≠ 0 := by simpa using tm
          have HEq := Lib.hid (encMe_lit (me := me) hmk)
          have HP1 : Hid (∀ W : World, Calls Try.prog 24 #[.int .u64 me, .int .i64 8] W fun x w' => x = .returned (.string (str (beL 8 me.toNat))) ∧ Below W.heap.size W w') := Lib.hid (fun W => r3Put_any W me 8 hm.1 (by decide) (by decide))
          have HP2 : Hid (∀ W : World, Calls Try.prog 24 #[.int .u64 mk, .int .i64 8] W fun x w' => x = .returned (.string (str (beL 8 mk.toNat))) ∧ Below W.heap.size W w') := Lib.hid (fun W => r3Put_any W mk 8 hk.1 (by decide) (by decide))
          have hl1 : (beL 8 me.toNat).length = 8 := beL_length _ _
          have hl2 : (beL 8 mk.toNat).length = 8 := beL_length _ _
          generalize beL 8 me.toNat = P1 at *
          generalize beL 8 mk.toNat = P2 at *
          have hB4 := HB4.out
          clear hmk c7
          haveI : Nonempty (Keep (KR w.heap.size w [(w.heap.size, 26, entC tb pr vT (.slice aa fA.length ac) (.slice wa fW.length wcap) cl me mk mt gt)])) := ⟨⟨_, K.out⟩⟩
          have kc0 := fun q : Keep (KR w.heap.size w [(w.heap.size, 26, entC tb pr vT (.slice aa fA.length ac) (.slice wa fW.length wcap) cl me mk mt gt)]) => (KR.at q.h 0 rfl).cell 6 _ rfl
          have kc1 := fun q : Keep (KR w.heap.size w [(w.heap.size, 26, entC tb pr vT (.slice aa fA.length ac) (.slice wa fW.length wcap) cl me mk mt gt)]) => (KR.at q.h 0 rfl).cell 7 _ rfl
          go_upto_region 12 with fail
          refine wp_region_keep2 (Cl := KR w.heap.size w [(w.heap.size, 26, entC tb pr vT (.slice aa fA.length ac) (.slice wa fW.length wcap) cl me mk mt gt)]) (by kernel_rfl) (by kernel_rfl) K.out.drew ?_
          intro y' hy'
          clear hy' K
          repeat
            first
              | (refine wpQ2_step (fun K hK => ?_)
                 go_simp
                 first
                   | (refine hK _ ?_; clear hK K)
                   | (apply Exists.intro
                      refine ⟨fun _ => ?_, hK _ ?_⟩
                      (rw [if_neg (by omega)]; exact ⟨rfl, rfl⟩)
                      clear hK K)
                   | (apply Exists.intro
                      refine ⟨fun _ => ?_, hK _ ?_⟩
                      ((with_reducible refine Calls.keep (HP1.out _) ?_); exact (fun w' hb => KR.call (Keep.h _) hb))
                      clear hK K)
                   | (apply Exists.intro
                      refine ⟨fun _ => ?_, hK _ ?_⟩
                      ((with_reducible refine Calls.keep (HP2.out _) ?_); exact (fun w' hb => KR.call (Keep.h _) hb))
                      clear hK K))
          refine wpQ2_nil ?_
          clear kc0 kc1
          intro Wk Kk
          have K := Lib.hid Kk
          clear Kk
          go_wp2_with fail
          go_meet
          case rel => exact ⟨congrArg Value.string (by rw [HEq.out]; exact lay8 _ _ _), K⟩
      case rest =>
        obtain ⟨rfl, K⟩ := hcut
        have HB5 : Hid ((B4 ++ encMe me mk).length ≤ 1400) := Lib.hid (by have := HB4.out; have := encMe_len me mk; rw [List.length_append]; omega)
        have HEE : Hid (E1 = (B4 ++ encMe me mk) ++ encG gt) := HE
        generalize B4 ++ encMe me mk = B5 at *
        clear HB4 HE c7
        have c9 := (K.out.at 0 rfl).cell 9 _ rfl
        go_upto_if 48 with fail
        cases tm : (gt != 0)
        · have HEq : Hid (encG gt = []) := Lib.hid (by unfold encG; rw [if_pos (by simpa using tm)])
          go_wp2_with fail
          go_ret2
          exact ⟨by rw [HEE.out, HEq.out, List.append_nil]; rfl, K.out.below⟩
        · have hg : gt ≠ 0 := by simpa using tm
          have HEq := Lib.hid (encG_lit hg)
          have q1 : IntKind.u8.wrap gt = gt := by simp [IntKind.wrap, IntKind.bits, IntKind.signed]; omega
          have hz := one_str wc gt (by omega) (by omega)
          have hB5 := HB5.out
          have hl1 : (beL 1 gt.toNat).length = 1 := beL_length _ _
          generalize beL 1 gt.toNat = P1 at *
          clear hg
          go_wp2_with fail
          go_ret2
          exact ⟨ret_str2 (by rw [HEE.out, HEq.out]; exact lay1 _ _), K.out.below.alloc K.out.below.size _⟩
end
end Go.Proofs.Ytdjhbahiiabimaa
