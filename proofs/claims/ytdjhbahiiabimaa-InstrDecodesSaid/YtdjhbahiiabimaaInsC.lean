/- instr.Encode. -/
import Derived.Test.YtdjhbahiiabimaaInsB
namespace Go.Proofs.Ytdjhbahiiabimaa
open Go.RowKit
set_option linter.unusedVariables false
set_option linter.unusedSimpArgs false
attribute [local go_sem] beL_length

def encM (mt : Int) : List UInt8 := if mt = 0 then [] else partB 6 (beL 4 mt.toNat)
def encCl (cl : Bool) : List UInt8 := if cl = true then partB 5 [0, 0, 0, 0] else []
def encMe (me mk : Int) : List UInt8 := if mk = 0 then [] else partB 2 ([0, 0, 0, 0] ++ (beL 8 me.toNat ++ beL 8 mk.toNat))
def encG (gt : Int) : List UInt8 := if gt = 0 then [] else partB 1 (beL 1 gt.toNat ++ [0, 0, 0])
/-- What an entry does, as bytes. -/
def encE (x : Entry) : List UInt8 := ((((encM x.fMeter ++ listB 4 x.fApply) ++ encCl x.fClear) ++ listB 3 x.fWrite) ++ encMe x.fMeta x.fMetaMask) ++ encG x.fGoto
def encR (x : Entry) : List UInt8 × Int := if rightE x = 0 then (encE x, 0) else ([], rightE x)
theorem rightE_fits {x : Entry} (h : rightE x = 0) : (0 ≤ x.fMeter ∧ x.fMeter ≤ 16) ∧ (0 ≤ x.fTable ∧ x.fTable ≤ 7) ∧ (x.fGoto = 0 ∨ x.fTable < x.fGoto ∧ x.fGoto ≤ 7) ∧ Go.bits .andNot .u64 x.fMeta x.fMetaMask = 0 ∧ (actEnc x.fApply).2 = 0 ∧ (actEnc x.fWrite).2 = 0 := by
  unfold rightE at h
  split at h
  · cases h
  · rename_i h1
    split at h
    · rename_i h2; rw [h] at h2; cases h2
    · rename_i h2
      split at h
      · rename_i h3; rw [h] at h3; cases h3
      · rename_i h3
        split at h
        · cases h
        · rename_i h4
          split at h
          · cases h
          · rename_i h5
            unfold metaBad gotoBad at h5
            simp only [Bool.or_eq_true, decide_eq_true_eq, not_or, bne_iff_ne, ne_eq, Decidable.not_not, Bool.and_eq_true, not_and] at h1 h2 h3 h4 h5
            refine ⟨by omega, by omega, ?_, h5.1, h2, h3⟩
            by_cases hg : x.fGoto = 0
            · exact .inl hg
            · have := h5.2 hg; exact .inr (by omega)
theorem listB_len (k : Nat) (l : List Action) : (listB k l).length ≤ 520 := by
  unfold listB
  split
  · simp
  · rw [partB_len]
    have := actEnc_len l
    simp
    omega
theorem encM_len (mt : Int) : (encM mt).length ≤ 8 := by unfold encM; split <;> simp [partB_len, beL_length]
theorem encCl_len (cl : Bool) : (encCl cl).length ≤ 8 := by unfold encCl; split <;> simp [partB_len]
theorem encMe_len (me mk : Int) : (encMe me mk).length ≤ 24 := by unfold encMe; split <;> simp [partB_len, beL_length]
set_option maxRecDepth 100000 in
set_option maxHeartbeats 8000000 in
theorem IEncode_any (w : World) (x : Entry) (h : EntOk w x) : Calls Try.prog 12 #[valEntry x] w fun e w' => e = .returned (.tuple #[.string (str (encR x).1), .int .i64 (encR x).2]) ∧ Below w.heap.size w w' := by
  have HRt : Hid (∀ W : World, Below w.heap.size w W → _) := Lib.hid (fun W hW => Right_any W x (h.below hW (Nat.le_refl _)))
  have HLa : Hid (∀ W : World, Below w.heap.size w W → _) := Lib.hid (fun W hW => list_any W 4 x.vApply x.fApply (by decide) (h.ap.below hW (Nat.le_refl _)) h.okA (Nat.le_trans h.lenA (by decide)))
  have HLw : Hid (∀ W : World, Below w.heap.size w W → _) := Lib.hid (fun W hW => list_any W 3 x.vWrite x.fWrite (by decide) (h.wr.below hW (Nat.le_refl _)) h.okW (Nat.le_trans h.lenW (by decide)))
  have HRe : Hid (rightE x ≠ 0 → encR x = ([], rightE x)) := Lib.hid (fun hr => by unfold encR; rw [if_neg hr])
  have HRo : Hid (rightE x = 0 → encR x = (encE x, 0)) := Lib.hid (fun hr => by unfold encR; rw [if_pos hr])
  have HFt := Lib.hid (rightE_fits (x := x))
  have HE : Hid (encE x = _) := Lib.hid (by unfold encE; rfl)
  obtain ⟨aa, ac, hva, _, _⟩ := h.ap.slice
  obtain ⟨wa, wcap, hvw, _, _⟩ := h.wr.slice
  have hm := h.meta0
  have hk := h.mask0
  generalize encR x = E at *
  obtain ⟨E1, E2⟩ := E
  generalize rightE x = R at *
  generalize encE x = EE at *
  have HAl := Lib.hid (listB_len 4 x.fApply)
  have HWl := Lib.hid (listB_len 3 x.fWrite)
  obtain ⟨tb, pr, vT, fT, vA, fA, vW, fW, cl, me, mk, mt, gt⟩ := x
  simp only at *
  subst hva hvw
  generalize listB 4 fA = LA at *
  generalize listB 3 fW = LW at *
  clear h
  go_enter Try.func12, Try.ntmps12
  go_upto_region 1 with fail
  refine one_box_wp ?_
  intro W hb1 hbel hsz
  have K : Hid (KR w.heap.size w [(w.heap.size, 26, entC tb pr vT (.slice aa fA.length ac) (.slice wa fW.length wcap) cl me mk mt gt)] W) := Lib.hid ((KR.start hbel hbel.size).add hb1)
  clear hb1 hbel hsz
  go_wp2_with (first
    | (refine wpList_load_row rfl 26 _ rfl _ rfl _ _ _ _ (K.out.at 0 rfl) Try.underlying26 rfl (by kernel_rfl) ?_)
    | fail)
  refine (HRt.out _ K.out.below).mono ?_
  rintro e w1 ⟨rfl, hb⟩
  replace K := Lib.hid (K.out.call hb)
  clear hb HRt
  cases hr : (R != 0)
  case true =>
    obtain ⟨rfl, rfl⟩ := Prod.mk.inj (HRe.out (by simpa using hr))
    clear HRe HRo HFt HE
    go_wp2_with fail
    go_ret2
    exact ⟨rfl, K.out.below⟩
  have hR0 : R = 0 := by simpa using hr
  obtain ⟨rfl, rfl⟩ := Prod.mk.inj (HRo.out hR0)
  obtain ⟨f1, f2, f3, _⟩ := HFt.out hR0
  clear HRe HRo HFt hR0
  go_upto_region 5 with fail
  have L := Lib.hid (LK.new K.out (BlkAt.new w1 45 #[.pointer none, .slice none 0 0]) ((Below.refl _ _).alloc (Nat.le_refl _) _))
  generalize w1.alloc (.cells #[.pointer none, .slice none 0 0] 45) = w2 at *
  generalize w1.heap.size = g at *
  clear K hr
  have c8 := (L.out.at 0 rfl).cell 8 _ rfl
  go_upto_if 13 with fail
  go_cut [] from 13 (fun wx => Hid (LK w [(w.heap.size, 26, entC tb pr vT (.slice aa fA.length ac) (.slice wa fW.length wcap) cl me mk mt gt)] g (encM mt) wx))
  case first =>
    cases tm : (mt != 0)
    · have HEq : Hid (encM mt = []) := Lib.hid (by unfold encM; rw [if_pos (by simpa using tm)])
      go_wp2_with fail
      go_meet
      case rel => rw [HEq.out]; exact L
    · have hmt : mt ≠ 0 := by simpa using tm
      have HEq : Hid (encM mt = partB 6 (beL 4 mt.toNat)) := Lib.hid (by unfold encM; rw [if_neg hmt])
      have HP := Lib.hid (fun W => iput_any W mt 4 f1.1 (by decide) (by decide) (by omega))
      have HPt := Lib.hid (fun W => part_any W 6 (beL 4 mt.toNat) (by decide) (by rw [beL_length]; decide))
      have q1 : IntKind.u64.wrap mt = mt := by simp [IntKind.wrap, IntKind.bits, IntKind.signed]; omega
      have hw : ([] : List UInt8).length + (partB 6 (beL 4 mt.toNat)).length ≤ 140737488355328 := by rw [partB_len, beL_length]; decide
      have HW := Lib.hid hw
      clear hmt hw
      go_wp2_with fail
      refine (HP.out _).mono ?_
      rintro e w3 ⟨rfl, hb⟩
      replace L := Lib.hid (L.out.call hb)
      clear hb HP
      go_wp2_with fail
      refine (HPt.out _).mono ?_
      rintro e w4 ⟨rfl, hb⟩
      replace L := Lib.hid (L.out.call hb)
      clear hb HPt c8
      generalize partB 6 (beL 4 mt.toNat) = P at *
      go_wp2_with fail
      refine (L.out.write P HW.out).mono ?_
      rintro e w5 ⟨rfl, hL⟩
      replace L := Lib.hid hL
      clear hL
      go_wp2_with fail
      go_meet
      case rel => rw [HEq.out]; exact L
  case rest =>
    have L := hcut
    clear hcut c8
    have HMl := Lib.hid (encM_len mt)
    generalize encM mt = B1 at *
    have c3 := (L.out.at 0 rfl).cell 3 _ rfl
    go_wp2_with fail
    refine (HLa.out _ L.out.below).mono ?_
    rintro e w3 ⟨rfl, hb⟩
    replace L := Lib.hid (L.out.call hb)
    clear hb HLa c3
    go_wp2_with fail
    refine (L.out.write LA (by have := HMl.out; have := HAl.out; omega)).mono ?_
    rintro e w4 ⟨rfl, hL⟩
    have L := Lib.hid hL
    clear hL
    have HB2 : Hid ((B1 ++ LA).length ≤ 600) := Lib.hid (by have := HMl.out; have := HAl.out; simp; omega)
    generalize B1 ++ LA = B2 at *
    clear HMl HAl
    have c5 := (L.out.at 0 rfl).cell 5 _ rfl
    go_upto_if 25 with fail
    go_cut [] from 25 (fun wx => Hid (LK w [(w.heap.size, 26, entC tb pr vT (.slice aa fA.length ac) (.slice wa fW.length wcap) cl me mk mt gt)] g (B2 ++ encCl cl) wx))
    case first =>
      cases cl
      · go_wp2_with fail
        go_meet
        case rel => rw [show encCl false = [] from rfl, List.append_nil]; exact L
      · have HP := Lib.hid (fun W => iput_any W 0 4 (by decide) (by decide) (by decide) (by decide))
        have HPt := Lib.hid (fun W => part_any W 5 [0, 0, 0, 0] (by decide) (by decide))
        have HEq : Hid (encCl true = partB 5 [0, 0, 0, 0]) := Lib.hid rfl
        have HW : Hid (B2.length + (partB 5 [0, 0, 0, 0]).length ≤ 140737488355328) := Lib.hid (by have := HB2.out; rw [partB_len]; simp; omega)
        go_wp2_with fail
        refine (HP.out _).mono ?_
        rintro e wq ⟨rfl, hb⟩
        replace L := Lib.hid (L.out.call hb)
        clear hb HP
        go_wp2_with fail
        refine (HPt.out _).mono ?_
        rintro e wq ⟨rfl, hb⟩
        replace L := Lib.hid (L.out.call hb)
        clear hb HPt
        clear c5
        generalize partB 5 [0, 0, 0, 0] = P at *
        go_wp2_with fail
        refine (L.out.write P HW.out).mono ?_
        rintro e wq ⟨rfl, hL⟩
        replace L := Lib.hid hL
        clear hL
        go_wp2_with fail
        go_meet
        case rel => rw [HEq.out]; exact L
    case rest =>
      have L := hcut
      clear hcut c5
      have HB3 : Hid ((B2 ++ encCl cl).length ≤ 700) := Lib.hid (by have := HB2.out; have := encCl_len cl; rw [List.length_append]; omega)
      generalize B2 ++ encCl cl = B3 at *
      clear HB2
      have c4 := (L.out.at 0 rfl).cell 4 _ rfl
      go_wp2_with fail
      refine (HLw.out _ L.out.below).mono ?_
      rintro e w3 ⟨rfl, hb⟩
      replace L := Lib.hid (L.out.call hb)
      clear hb HLw c4
      go_wp2_with fail
      refine (L.out.write LW (by have := HB3.out; have := HWl.out; omega)).mono ?_
      rintro e wq ⟨rfl, hL⟩
      replace L := Lib.hid hL
      clear hL
      have HB4 : Hid ((B3 ++ LW).length ≤ 1300) := Lib.hid (by have := HB3.out; have := HWl.out; rw [List.length_append]; omega)
      generalize B3 ++ LW = B4 at *
      clear HB3 HWl
      have c7 := (L.out.at 0 rfl).cell 7 _ rfl
      go_upto_if 35 with fail
      go_cut [] from 35 (fun wx => Hid (LK w [(w.heap.size, 26, entC tb pr vT (.slice aa fA.length ac) (.slice wa fW.length wcap) cl me mk mt gt)] g (B4 ++ encMe me mk) wx))
      case first =>
        cases tm : (mk != 0)
        · have HEq : Hid (encMe me mk = []) := Lib.hid (by unfold encMe; rw [if_pos (by simpa using tm)])
          go_wp2_with fail
          go_meet
          case rel => rw [HEq.out, List.append_nil]; exact L
        · have hmk : mk ≠ 0 := by simpa using tm
          have HEq : Hid (encMe me mk = partB 2 ([0, 0, 0, 0] ++ (beL 8 me.toNat ++ beL 8 mk.toNat))) := Lib.hid (by unfold encMe; rw [if_neg hmk])
          have HP := Lib.hid (fun W => iput_any W 0 4 (by decide) (by decide) (by decide) (by decide))
          have HP1 := Lib.hid (fun W => iput_any W me 8 hm.1 (by decide) (by decide) (by omega))
          have HP2 := Lib.hid (fun W => iput_any W mk 8 hk.1 (by decide) (by decide) (by omega))
          have HPt := Lib.hid (fun W => part_any W 2 ([0, 0, 0, 0] ++ (beL 8 me.toNat ++ beL 8 mk.toNat)) (by decide) (by simp [beL_length]))
          have HW : Hid (B4.length + (partB 2 ([0, 0, 0, 0] ++ (beL 8 me.toNat ++ beL 8 mk.toNat))).length ≤ 140737488355328) := Lib.hid (by have := HB4.out; rw [partB_len]; simp [beL_length]; omega)
          clear c7 hmk
          go_upto_region 12 with fail
          refine wp_region_noPanic ?_
          refine wp_region_G 10 (LK w [(w.heap.size, 26, entC tb pr vT (.slice aa fA.length ac) (.slice wa fW.length wcap) cl me mk mt gt)] g B4) (by kernel_rfl) ?_
          change wpG _ _ _ _ _ 11 #[false, false, false, false, false, false, false, false, false, false, false] _ (World.drew _)
          replace L := Lib.hid L.out.drew
          refine wpG_pure (i := 1) (v := ?_) rfl (by kernel_rfl) (by kernel_rfl) (by kernel_rfl) (fun _ _ _ h => h) (Or.inl ⟨by rfl, ?_⟩) ?_
          rotate_left
          · (intro w_ hS; clear hS; go_simp; try with_reducible rfl)
          try simp only [List.getElem_toArray, List.getElem_cons_zero, List.getElem_cons_succ, Act.put, List.setIfInBounds_toArray, List.set_cons_zero, List.set_cons_succ]
          refine wpG_take (i := 2) (v := ?_) rfl (by kernel_rfl) (by kernel_rfl) (by kernel_rfl) (fun _ _ _ h => h) (Or.inl ⟨by rfl, ?_⟩) L.out ?_
          rotate_left
          · (intro w_ hS; have cq_ := (hS.at 0 rfl).cell 6 _ rfl; clear hS; go_simp; try with_reducible rfl)
          try simp only [List.getElem_toArray, List.getElem_cons_zero, List.getElem_cons_succ, Act.put, List.setIfInBounds_toArray, List.set_cons_zero, List.set_cons_succ]
          refine wpG_pure (i := 5) (v := ?_) rfl (by kernel_rfl) (by kernel_rfl) (by kernel_rfl) (fun _ _ _ h => h) (Or.inl ⟨by rfl, ?_⟩) ?_
          rotate_left
          · (intro w_ hS; clear hS; go_simp; try with_reducible rfl)
          try simp only [List.getElem_toArray, List.getElem_cons_zero, List.getElem_cons_succ, Act.put, List.setIfInBounds_toArray, List.set_cons_zero, List.set_cons_succ]
          refine wpG_take (i := 6) (v := ?_) rfl (by kernel_rfl) (by kernel_rfl) (by kernel_rfl) (fun _ _ _ h => h) (Or.inl ⟨by rfl, ?_⟩) L.out ?_
          rotate_left
          · (intro w_ hS; have cq_ := (hS.at 0 rfl).cell 7 _ rfl; clear hS; go_simp; try with_reducible rfl)
          try simp only [List.getElem_toArray, List.getElem_cons_zero, List.getElem_cons_succ, Act.put, List.setIfInBounds_toArray, List.set_cons_zero, List.set_cons_succ]
          refine wpG_ready (i := 0) rfl (by kernel_rfl) (fun K_ hK => ?_)
          go_simp
          refine (HP.out _).mono ?_
          rintro x wq ⟨rfl, hb⟩
          replace L := Lib.hid (L.out.call hb)
          refine hK.out _ _ (fun h_ _ => L.out) ?_
          clear hK K_
          try simp only [List.getElem_toArray, List.getElem_cons_zero, List.getElem_cons_succ, Act.put, List.setIfInBounds_toArray, List.set_cons_zero, List.set_cons_succ]
          refine wpG_ready (i := 3) rfl (by kernel_rfl) (fun K_ hK => ?_)
          go_simp
          refine (HP1.out _).mono ?_
          rintro x wq ⟨rfl, hb⟩
          replace L := Lib.hid (L.out.call hb)
          refine hK.out _ _ (fun h_ _ => L.out) ?_
          clear hK K_
          try simp only [List.getElem_toArray, List.getElem_cons_zero, List.getElem_cons_succ, Act.put, List.setIfInBounds_toArray, List.set_cons_zero, List.set_cons_succ]
          refine wpG_pure (i := 4) (v := ?_) rfl (by kernel_rfl) (by kernel_rfl) (by kernel_rfl) (fun _ _ _ h => h) (Or.inl ⟨by rfl, ?_⟩) ?_
          rotate_left
          · (intro w_ hS; clear hS; go_simp; try with_reducible rfl)
          try simp only [List.getElem_toArray, List.getElem_cons_zero, List.getElem_cons_succ, Act.put, List.setIfInBounds_toArray, List.set_cons_zero, List.set_cons_succ]
          refine wpG_ready (i := 7) rfl (by kernel_rfl) (fun K_ hK => ?_)
          go_simp
          refine (HP2.out _).mono ?_
          rintro x wq ⟨rfl, hb⟩
          replace L := Lib.hid (L.out.call hb)
          refine hK.out _ _ (fun h_ _ => L.out) ?_
          clear hK K_
          try simp only [List.getElem_toArray, List.getElem_cons_zero, List.getElem_cons_succ, Act.put, List.setIfInBounds_toArray, List.set_cons_zero, List.set_cons_succ]
          refine wpG_pure (i := 8) (v := ?_) rfl (by kernel_rfl) (by kernel_rfl) (by kernel_rfl) (fun _ _ _ h => h) (Or.inl ⟨by rfl, ?_⟩) ?_
          rotate_left
          · (intro w_ hS; clear hS; go_simp; try with_reducible rfl)
          try simp only [List.getElem_toArray, List.getElem_cons_zero, List.getElem_cons_succ, Act.put, List.setIfInBounds_toArray, List.set_cons_zero, List.set_cons_succ]
          clear HP HP1 HP2
          refine wpG_ready (i := 9) rfl (by kernel_rfl) (fun K_ hK => ?_)
          go_simp
          refine (HPt.out _).mono ?_
          rintro x wq ⟨rfl, hb⟩
          replace L := Lib.hid (L.out.call hb)
          refine hK.out _ _ (fun h_ _ => L.out) ?_
          clear hK K_
          try simp only [List.getElem_toArray, List.getElem_cons_zero, List.getElem_cons_succ, Act.put, List.setIfInBounds_toArray, List.set_cons_zero, List.set_cons_succ]
          generalize partB 2 ([0, 0, 0, 0] ++ (beL 8 me.toNat ++ beL 8 mk.toNat)) = P at *
          refine wpG_ready (i := 10) rfl (by kernel_rfl) (fun K_ hK => ?_)
          go_simp
          refine (L.out.write P HW.out).mono ?_
          rintro x wq ⟨rfl, hL⟩
          replace L := Lib.hid (hL)
          refine hK.out _ _ (fun h_ _ => absurd h_ (by decide)) ?_
          clear hK K_
          try simp only [List.getElem_toArray, List.getElem_cons_zero, List.getElem_cons_succ, Act.put, List.setIfInBounds_toArray, List.set_cons_zero, List.set_cons_succ]
          refine wpG_done (by kernel_rfl) ?_ _
          refine NoPanic.normal ?_
          go_wp2_with fail
          go_meet
          case rel => rw [HEq.out]; exact L
      case rest =>
        have L := hcut
        clear hcut c7
        have HB5 : Hid ((B4 ++ encMe me mk).length ≤ 1400) := Lib.hid (by have := HB4.out; have := encMe_len me mk; rw [List.length_append]; omega)
        have HEE : Hid (E1 = (B4 ++ encMe me mk) ++ encG gt) := HE
        generalize B4 ++ encMe me mk = B5 at *
        clear HB4 HE
        have c9 := (L.out.at 0 rfl).cell 9 _ rfl
        go_upto_if 49 with fail
        go_cut [] from 49 (fun wx => Hid (LK w [(w.heap.size, 26, entC tb pr vT (.slice aa fA.length ac) (.slice wa fW.length wcap) cl me mk mt gt)] g (B5 ++ encG gt) wx))
        case first =>
          cases tm : (gt != 0)
          · have HEq : Hid (encG gt = []) := Lib.hid (by unfold encG; rw [if_pos (by simpa using tm)])
            go_wp2_with fail
            go_meet
            case rel => rw [HEq.out, List.append_nil]; exact L
          · have hg : gt ≠ 0 := by simpa using tm
            have HEq : Hid (encG gt = partB 1 (beL 1 gt.toNat ++ [0, 0, 0])) := Lib.hid (by unfold encG; rw [if_neg hg])
            have HP := Lib.hid (fun W => iput_any W gt 1 (by omega) (by decide) (by decide) (by omega))
            have HP1 := Lib.hid (fun W => iput_any W 0 3 (by decide) (by decide) (by decide) (by decide))
            have HPt := Lib.hid (fun W => part_any W 1 (beL 1 gt.toNat ++ [0, 0, 0]) (by decide) (by simp [beL_length]))
            have q1 : IntKind.u64.wrap gt = gt := by simp [IntKind.wrap, IntKind.bits, IntKind.signed]; omega
            have HW : Hid (B5.length + (partB 1 (beL 1 gt.toNat ++ [0, 0, 0])).length ≤ 140737488355328) := Lib.hid (by have := HB5.out; rw [partB_len]; simp [beL_length]; omega)
            clear hg
            go_wp2_with fail
            refine (HP.out _).mono ?_
            rintro e wq ⟨rfl, hb⟩
            replace L := Lib.hid (L.out.call hb)
            clear hb HP
            go_wp2_with fail
            refine (HP1.out _).mono ?_
            rintro e wq ⟨rfl, hb⟩
            replace L := Lib.hid (L.out.call hb)
            clear hb HP1
            go_wp2_with fail
            refine (HPt.out _).mono ?_
            rintro e wq ⟨rfl, hb⟩
            replace L := Lib.hid (L.out.call hb)
            clear hb HPt
            clear c9
            generalize partB 1 (beL 1 gt.toNat ++ [0, 0, 0]) = P at *
            go_wp2_with fail
            refine (L.out.write P HW.out).mono ?_
            rintro e wq ⟨rfl, hL⟩
            replace L := Lib.hid hL
            clear hL
            go_wp2_with fail
            go_meet
            case rel => rw [HEq.out]; exact L
        case rest =>
          have L := hcut
          clear hcut c9
          rw [← HEE.out] at L
          go_wp2_with fail
          refine L.out.string.mono ?_
          rintro e wq ⟨rfl, hb⟩
          have HB := Lib.hid hb
          clear hb L
          go_wp2_with fail
          go_ret2
          exact ⟨rfl, HB.out⟩
end Go.Proofs.Ytdjhbahiiabimaa
