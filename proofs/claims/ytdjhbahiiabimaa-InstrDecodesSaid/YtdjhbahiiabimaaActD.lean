/- act.Encode. -/
import Derived.Test.YtdjhbahiiabimaaActC
namespace Go.Proofs.Ytdjhbahiiabimaa
open Go.RowKit
set_option linter.unusedVariables false
set_option linter.unusedSimpArgs false

def okV (x : Action) : Prop := 0 ≤ x.fValue ∧ x.fValue ≤ 18446744073709551615
theorem okV_of {w : World} {x : Action} (h : okAction w x) : okV x := by
  have := h.2.2.1
  simp [Lit.wf, IntKind.min, IntKind.max, IntKind.signed, IntKind.bits] at this
  unfold okV
  omega
def rightX (a : Action) : Bool := rightA a.fKind a.fField a.fValue
def laidX (a : Action) : List UInt8 := laidA a.fKind a.fField a.fValue
def encAs (l : List Action) : List UInt8 := l.flatMap laidX
def errAs (l : List Action) : Int := if l.any (fun a => !rightX a) = true then 22 else if (32 : Int) < l.length then 44 else 0
def actEnc (l : List Action) : List UInt8 × Int := if errAs l = 0 then (encAs l, 0) else ([], errAs l)
theorem actEnc_bad {l : List Action} (h : l.any (fun a => !rightX a) = true) : actEnc l = ([], 22) := by
  have e : errAs l = 22 := by unfold errAs; rw [if_pos h]
  unfold actEnc
  rw [e]; rfl
theorem actEnc_big {l : List Action} (h : l.any (fun a => !rightX a) = false) (h2 : (32 : Int) < l.length) : actEnc l = ([], 44) := by
  have e : errAs l = 44 := by unfold errAs; rw [h, if_neg (by simp), if_pos h2]
  unfold actEnc
  rw [e]; rfl
theorem actEnc_ok {l : List Action} (h : l.any (fun a => !rightX a) = false) (h2 : ¬ (32 : Int) < l.length) : actEnc l = (encAs l, 0) := by
  have e : errAs l = 0 := by unfold errAs; rw [h, if_neg (by simp), if_neg h2]
  unfold actEnc
  rw [e]; rfl
theorem laidX_len (a : Action) (h : rightX a = true) : (laidX a).length ≤ 16 := by
  unfold laidX laidA
  have hc := rightA_cases h
  rcases hc with ⟨h1, _⟩ | ⟨h1, _⟩ | ⟨h1, _⟩ | ⟨h1, _⟩ | ⟨h1, h2⟩
  · rw [h1]; simp [beL_length]
  · rw [h1]; simp [beL_length]
  · rw [h1]; simp
  · rw [h1]; simp
  · rw [h1]
    have : (codeF a.fField).2.toNat ≤ 8 := by
      rcases h2 with ⟨h, _⟩ | ⟨h | h, _⟩ | ⟨h | h, _⟩ <;> rw [h] <;> decide
    simp [beL_length]
    omega
theorem encAs_len : ∀ (l : List Action), (∀ a ∈ l, rightX a = true) → (encAs l).length ≤ 16 * l.length
  | [], _ => by simp [encAs]
  | a :: l, h => by
    have h1 := laidX_len a (h a (List.mem_cons_self ..))
    have h2 := encAs_len l (fun x hx => h x (List.mem_cons_of_mem _ hx))
    unfold encAs at *
    rw [List.flatMap_cons, List.length_append, List.length_cons]
    omega
theorem encAs_take {l : List Action} {k : Nat} (h : k < l.length) : encAs (l.take (k + 1)) = encAs (l.take k) ++ laidX l[k] := by
  unfold encAs
  rw [List.take_succ_eq_append_getElem h, List.flatMap_append]
  simp

set_option maxRecDepth 100000 in
set_option maxHeartbeats 4000000 in
theorem enc1_any (w : World) (x : Action) (hx : okV x) : Calls Try.prog 34 #[.agg (encAction x).toArray] w fun e w' => e = .returned (.bool (!rightX x)) ∧ Below w.heap.size w w' := by
  have HA : Hid (∀ W : World, _) := Lib.hid (fun W => right_any W x.fKind x.fField x.fValue hx.1 hx.2)
  unfold rightX
  generalize rightA x.fKind x.fField x.fValue = R at *
  simp only [encAction]
  clear hx
  go_enter Try.func34, Try.ntmps34
  go_upto_region 1 with fail
  refine one_box_wp ?_
  intro W hb1 hbel hsz
  have K : Hid (KR w.heap.size w [(w.heap.size, 67, #[.int .i64 x.fKind, .int .i64 x.fField, .int .u64 x.fValue])] W) := Lib.hid ((KR.start hbel hbel.size).add hb1)
  clear hb1 hbel hsz
  go_wp2_with (first
    | (refine wpList_load_row rfl 67 _ rfl _ rfl _ _ _ _ (K.out.at 0 rfl) Try.underlying67 rfl (by kernel_rfl) ?_)
    | fail)
  refine (HA.out _).mono ?_
  rintro e w' ⟨rfl, hb⟩
  have HB := Lib.hid (K.out.below.trans (hb.mono K.out.size))
  clear hb
  go_wp2_with fail
  go_ret
  exact ⟨rfl, HB.out⟩

set_option maxRecDepth 100000 in
set_option maxHeartbeats 8000000 in
theorem Encode_any (w : World) (v : Value) (l : List Action) (h : ReadL w 3 encAction v l) (hok : ∀ x ∈ l, okV x) (hlen : l.length ≤ 1000000) :
    Calls Try.prog 17 #[v] w fun e w' => e = .returned (.tuple #[.string (str (actEnc l).1), .int .i64 (actEnc l).2]) ∧ Below w.heap.size w w' := by
  have HCF := Lib.hid (containsFuncA w v l _ #[] (fun a => !rightX a) (fun _ => True) okV (fun W x _ hx => enc1_any W x hx) (fun _ _ _ _ => trivial) trivial
    (enters_of Try.func34 (by kernel_rfl) rfl) h hok)
  have HRd := Lib.hid h
  obtain ⟨a, cap, rfl, hcap, hmax⟩ := h.slice
  unfold maxLen at hmax
  have HOk := Lib.hid hok
  have HE1 : Hid (l.any (fun a => !rightX a) = true → actEnc l = ([], 22)) := Lib.hid actEnc_bad
  have HE2 : Hid (l.any (fun a => !rightX a) = false → (32 : Int) < l.length → actEnc l = ([], 44)) := Lib.hid actEnc_big
  have HE3 : Hid (l.any (fun a => !rightX a) = false → (l.length : Int) ≤ 32 → actEnc l = (encAs l, 0)) := Lib.hid (fun h1 h2 => actEnc_ok h1 (by omega))
  have HRt : Hid (l.any (fun a => !rightX a) = false → ∀ a ∈ l, rightX a = true) := Lib.hid (fun hh a ha => by
    have := List.any_eq_false.1 hh a ha
    simpa using this)
  generalize actEnc l = R at *
  obtain ⟨R1, R2⟩ := R
  simp only
  generalize hA : l.any (fun a => !rightX a) = A at *
  clear h hok hA
  go_enter Try.func17, Try.ntmps17
  go_wp2_with fail
  refine HCF.out.mono ?_
  rintro e w1 ⟨rfl, hb⟩
  have HB := Lib.hid hb
  clear hb HCF
  cases A
  case true =>
    obtain ⟨rfl, rfl⟩ := Prod.mk.inj (HE1.out rfl)
    clear HE1 HE2 HE3 HRt
    go_wp2_with fail
    go_ret2
    exact ⟨rfl, HB.out⟩
  by_cases h32 : (32 : Int) < l.length
  · have t1 : decide ((32 : Int) < (l.length : Int)) = true := decide_eq_true h32
    obtain ⟨rfl, rfl⟩ := Prod.mk.inj (HE2.out rfl h32)
    clear HE1 HE2 HE3 HRt h32
    go_wp2_with fail
    go_ret2
    exact ⟨rfl, HB.out⟩
  have t1 : decide ((32 : Int) < (l.length : Int)) = false := decide_eq_false h32
  obtain ⟨rfl, rfl⟩ := Prod.mk.inj (HE3.out rfl (by omega))
  have HRg := Lib.hid (HRt.out rfl)
  have HLe : Hid (l.length ≤ 32) := Lib.hid (by omega)
  clear HE1 HE2 HE3 HRt h32
  have K : Hid (KR w.heap.size w [] w1) := Lib.hid (KR.start HB.out HB.out.size)
  clear HB
  go_wp2_with fail
  have L0 := Lib.hid (LK.new K.out (BlkAt.new w1 45 #[.pointer none, .slice none 0 0]) ((Below.refl _ _).alloc (Nat.le_refl _) _))
  generalize w1.alloc (.cells #[.pointer none, .slice none 0 0] 45) = w2 at *
  generalize w1.heap.size = g at *
  clear K
  go_loopw [16] (fun iv wr => ∃ k : Nat, k ≤ l.length ∧ iv = .int .i64 k ∧ Hid (LK w [] g (encAs (l.take k)) wr)) (fun iv _ => l.length - (intOf iv).toNat)
  case atStart => exact ⟨0, Nat.zero_le _, rfl, L0⟩
  case round =>
    obtain ⟨k, hk, rfl, L⟩ := hrel
    clear L0
    by_cases hlt : k < l.length
    · have d2 : decide (k < l.length) = true := by simpa using hlt
      obtain ⟨a0, cap0, hv0, hc1, hc2, hc3⟩ := HRd.out
      obtain ⟨rfl, rfl⟩ : a = a0 ∧ cap = cap0 := by simpa using hv0
      rcases hc3 with hnil | ⟨b, off, rfl, hblt, hcell⟩
      · rw [hnil] at hlt; simp at hlt
      have r1 := range_of hcell L.out.below hblt k hlt
      have hx := HOk.out _ (List.getElem_mem hlt)
      have hrx := HRg.out _ (List.getElem_mem hlt)
      have HT := Lib.hid (encAs_take hlt)
      have HLn : Hid ((encAs (l.take k)).length ≤ 1000) := Lib.hid (by
        have h1 := encAs_len (l.take k) (fun y hy => HRg.out y (List.mem_of_mem_take hy))
        have h2 := HLe.out
        rw [List.length_take] at h1
        omega)
      clear hv0 hc1 hc2 hcell
      generalize l[k] = x at *
      have HLd : Hid (∀ W : World, _) := Lib.hid (fun W => laid_any W x.fKind x.fField x.fValue hrx hx.1)
      have HXl := Lib.hid (laidX_len x hrx)
      obtain ⟨x1, x2, x3⟩ := x
      simp only [encAction] at r1
      simp only at HLd
      clear hx hrx
      go_wp2_with (first
        | (refine wpList_load_mid rfl 67 _ rfl _ _ rfl _ _ r1 Try.underlying67 rfl (by kernel_rfl) ?_)
        | (refine wpList_store_row rfl 67 _ _ rfl _ rfl #[.int .i64 x1, .int .i64 x2, .int .u64 x3] rfl _ _ (BlkAt.new wr 67 _) rfl (by kernel_rfl) (by simp [Value.oneCell']) ?_)
        | fail)
      intro Wi hbi hbari
      have L1 := Lib.hid (L.out.call (hbari.below ((Below.refl wr.heap.size wr).alloc (Nat.le_refl _) _) (Nat.le_refl _) (by simp)))
      clear hbari r1 L
      go_wp2_with (first
        | (refine wpList_load_row rfl 67 _ rfl _ rfl _ _ _ _ hbi Try.underlying67 rfl (by kernel_rfl) ?_)
        | fail)
      refine (HLd.out _).mono ?_
      rintro e w3 ⟨rfl, hb⟩
      have L2 := Lib.hid (L1.out.call hb)
      clear hb L1 HLd hbi
      go_wp2_with fail
      refine (L2.out.write (laidA x1 x2 x3) (by have h1 := HXl.out; have h2 := HLn.out; unfold laidX at h1; simp only at h1; omega)).mono ?_
      rintro e w4 ⟨rfl, hL⟩
      have L3 : Hid (LK w [] g (encAs (l.take (k + 1))) w4) := Lib.hid (by rw [HT.out]; exact hL)
      clear hL L2 HT HXl HLn
      go_wp2_with fail
      go_roundw
      case rel => exact ⟨k + 1, by omega, by go_num, L3⟩
      case measure => simp [intOf]; omega
    · have d2 : decide (k < l.length) = false := by simpa using hlt
      obtain rfl : k = l.length := by omega
      rw [List.take_length] at L
      go_wp2_with fail
      refine L.out.string.mono ?_
      rintro e w3 ⟨rfl, hb⟩
      have HB := Lib.hid hb
      clear hb L
      go_wp2_with fail
      go_ret2
      exact ⟨rfl, HB.out⟩
end Go.Proofs.Ytdjhbahiiabimaa
