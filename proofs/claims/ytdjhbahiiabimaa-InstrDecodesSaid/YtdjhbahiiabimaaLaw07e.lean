/- InstrBack. -/
import Derived.Test.YtdjhbahiiabimaaLaw07b
import Derived.Test.YtdjhbahiiabimaaInsP
import Derived.Test.YtdjhbahiiabimaaRefS
namespace Go.Proofs.Ytdjhbahiiabimaa
open Go.RowKit
set_option linter.unusedVariables false
set_option linter.unusedSimpArgs false

def decT (tb : Int) (d : ByteArray) : Part × Int := if (decide (tb < 0) || decide (7 < tb)) = true then (noPart, 26) else decI tb (d.size + 1) d noPart 0
theorem emptyP0 : EmptyP noPart 0 := ⟨fun _ => rfl, fun _ => rfl, fun _ => rfl, fun _ => rfl, fun _ => ⟨rfl, rfl⟩, fun _ => rfl⟩
theorem decT_err {tb : Int} {d : ByteArray} (h : (decT tb d).2 ≠ 0) : (decT tb d).1 = noPart := by
  unfold decT at h ⊢
  split
  · rfl
  · rename_i h1
    rw [if_neg h1] at h
    exact decI_err _ _ _ _ h
theorem decT_in (tb : Int) (d : ByteArray) : PartIn 6 (decT tb d).1 := by
  unfold decT
  split
  · exact noPart_inN 6 (by decide)
  · exact decI_in _ _ _ _ noPart_in (by decide) (by decide)
theorem decT_ok {tb : Int} {d : ByteArray} (h : (decT tb d).2 = 0) : rightE (entP tb (decT tb d).1) = 0 ∧ encE (entP tb (decT tb d).1) = d.data.toList := by
  unfold decT at h ⊢
  split
  · rename_i h1; rw [if_pos h1] at h; cases h
  · rename_i h1
    rw [if_neg h1] at h
    have := decI_raw (tb := tb) (d.size + 1) d noPart 0 (decI tb (d.size + 1) d noPart 0).1 (Nat.lt_succ_self _) emptyP0 (by decide) noPart_in (Prod.ext rfl h)
    exact ⟨this.2, by rw [this.1]; rfl⟩
theorem decT_enc (x : Entry) (hr : rightE x = 0) (h : ∃ w, EntOk w x) : decT x.fTable (str (encE x)) = (partOf x, 0) := by
  obtain ⟨w, h⟩ := h
  obtain ⟨_, ht, _⟩ := rightE_fits hr
  unfold decT
  rw [if_neg (by simp; omega), decI_enc x hr h.okA h.okW h.meta0 h.mask0 _ (by rw [str_size]; omega)]
theorem entOk_part {w : World} {tb : Int} {vA vW : Value} {p : Part} (hp : PartIn 6 p) (hA : ReadL w 3 encAction vA p.pA) (hW : ReadL w 3 encAction vW p.pW) : EntOk w ⟨tb, 0, .slice none 0 0, [], vA, p.pA, vW, p.pW, p.cl, p.me, p.ma, p.mt, p.gt⟩ :=
  ⟨hA, hW, hp.okA, hp.okW, by have := hp.lenA; simp only; omega, by have := hp.lenW; simp only; omega, hp.me, hp.ma⟩
set_option maxRecDepth 100000 in
set_option maxHeartbeats 8000000 in
theorem InstrBack_walk (w : World) (x : Entry) (hok : okEntry w x) (table : Int) (wt : (Lit.int .i64 table).wf = true) (data : ByteArray) (hds : data.size ≤ 140737488351232) :
    Calls Try.prog 6 #[valEntry x, .int .i64 table, .string data] w fun e w' => e = .returned (.bool true) ∧ Below w.heap.size w w' := by
  have HA := Lib.hid awake07
  have HFw : Hid (∀ W : World, Below w.heap.size w W → _) := Lib.hid (fun W hb => few_any W x (hok.2.2.2.1.1.below hb (Nat.le_refl _)) (hok.2.2.2.2.1.1.below hb (Nat.le_refl _)))
  have HOk : Hid (fewE x = true → EntOk w x) := Lib.hid (fun hf => entOk_of hok hf)
  generalize fewE x = F at *
  have hxA := hok.2.2.2.1.1
  have hxW := hok.2.2.2.2.1.1
  clear hok wt
  cases F
  · clear HOk
    obtain ⟨tb, pr, vT, fT, vA, fA, vW, fW, cl, me, mk, mt, gt⟩ := x
    clear hxA hxW
    go_enter Try.func6, Try.ntmps6
    go_upto_region 1 with fail
    refine one_box_wp ?_
    intro W hb1 hbel hsz
    have K : Hid (KR w.heap.size w [(w.heap.size, 26, entC tb pr vT vA vW cl me mk mt gt)] W) := Lib.hid ((KR.start hbel hbel.size).add hb1)
    clear hb1 hbel hsz
    go_wp2_with (first
      | (refine wpList_load_row rfl 26 _ rfl _ rfl _ _ _ _ (K.out.at 0 rfl) Try.underlying26 rfl (by kernel_rfl) ?_)
      | fail)
    refine (HFw.out _ K.out.below).mono ?_
    rintro e w1 ⟨rfl, hb⟩
    replace K := Lib.hid (K.out.call hb)
    clear hb HFw
    go_wp2_with fail
    refine (HA.out _).mono ?_
    rintro e w2 ⟨rfl, hb⟩
    replace K := Lib.hid (K.out.call hb)
    clear hb
    go_wp2_with fail
    go_ret
    exact ⟨rfl, K.out.below⟩
  replace HOk := Lib.hid (HOk.out rfl)
  by_cases h2 : 2000 < data.size
  · have t1 : decide ((2000 : Int) < (data.size : Int)) = true := by simp; omega
    clear HOk
    obtain ⟨tb, pr, vT, fT, vA, fA, vW, fW, cl, me, mk, mt, gt⟩ := x
    clear hxA hxW h2
    go_enter Try.func6, Try.ntmps6
    go_upto_region 1 with fail
    refine one_box_wp ?_
    intro W hb1 hbel hsz
    have K : Hid (KR w.heap.size w [(w.heap.size, 26, entC tb pr vT vA vW cl me mk mt gt)] W) := Lib.hid ((KR.start hbel hbel.size).add hb1)
    clear hb1 hbel hsz
    go_wp2_with (first
      | (refine wpList_load_row rfl 26 _ rfl _ rfl _ _ _ _ (K.out.at 0 rfl) Try.underlying26 rfl (by kernel_rfl) ?_)
      | fail)
    refine (HFw.out _ K.out.below).mono ?_
    rintro e w1 ⟨rfl, hb⟩
    replace K := Lib.hid (K.out.call hb)
    clear hb HFw
    go_wp2_with fail
    refine (HA.out _).mono ?_
    rintro e w2 ⟨rfl, hb⟩
    replace K := Lib.hid (K.out.call hb)
    clear hb
    go_wp2_with fail
    go_ret
    exact ⟨rfl, K.out.below⟩
  have t1 : decide ((2000 : Int) < (data.size : Int)) = false := by simp; omega
  have HEn : Hid (∀ W : World, Below w.heap.size w W → _) := Lib.hid (fun W hb => IEncode_any W x (HOk.out.below hb (Nat.le_refl _)))
  have HRt : Hid (∀ W : World, Below w.heap.size w W → _) := Lib.hid (fun W hb => Right_any W x (HOk.out.below hb (Nat.le_refl _)))
  have HEr : Hid (rightE x ≠ 0 → encR x = ([], rightE x)) := Lib.hid (fun hr => by unfold encR; rw [if_neg hr])
  have HEo : Hid (rightE x = 0 → encR x = (encE x, 0)) := Lib.hid (fun hr => by unfold encR; rw [if_pos hr])
  have hEl : rightE x = 0 → (encE x).length ≤ 100000 := fun hr => by
    unfold encE
    have h1 := encM_len x.fMeter
    have h2 := listB_len 4 x.fApply
    have h3 := encCl_len x.fClear
    have h4 := listB_len 3 x.fWrite
    have h5 := encMe_len x.fMeta x.fMetaMask
    have h6 : (encG x.fGoto).length ≤ 8 := by unfold encG; split <;> simp [partB_len, beL_length]
    simp only [List.length_append]
    omega
  have HDx : Hid (rightE x = 0 → ∀ W : World, _) := Lib.hid (fun hr W => IDecode_any W x.fTable (str (encE x)) (by rw [str_size]; exact hEl hr) (partOf x, 0) (decT_enc x hr ⟨w, HOk.out⟩))
  have HDd := Lib.hid (fun W : World => IDecode_any W table data (by omega) (decT table data) rfl)
  have HRe := Lib.hid (@decT_err table data)
  have HRn := Lib.hid (decT_in table data)
  have HRo := Lib.hid (@decT_ok table data)
  have HxA := Lib.hid hxA
  have HxW := Lib.hid hxW
  have hsd : data.size ≤ 2000 := by omega
  clear hEl h2 HOk hxA hxW hds
  generalize decT table data = R at *
  obtain ⟨rp, re⟩ := R
  simp only at HRe HRn HRo
  generalize rightE x = RX at *
  generalize encE x = EX at *
  generalize encR x = ER at *
  obtain ⟨ER1, ER2⟩ := ER
  obtain ⟨tb, pr, vT, fT, vA, fA, vW, fW, cl, me, mk, mt, gt⟩ := x
  simp only [partOf] at *
  go_enter Try.func6, Try.ntmps6
  go_upto_region 1 with fail
  refine one_box_wp ?_
  intro W hb1 hbel hsz
  have K : Hid (KR w.heap.size w [(w.heap.size, 26, entC tb pr vT vA vW cl me mk mt gt)] W) := Lib.hid ((KR.start hbel hbel.size).add hb1)
  clear hb1 hbel hsz
  go_wp2_with (first
    | (refine wpList_load_row rfl 26 _ rfl _ rfl _ _ _ _ (K.out.at 0 rfl) Try.underlying26 rfl (by kernel_rfl) ?_)
    | fail)
  refine (HFw.out _ K.out.below).mono ?_
  rintro e w1 ⟨rfl, hb⟩
  replace K := Lib.hid (K.out.call hb)
  clear hb HFw
  go_wp2_with (first
    | (refine wpList_load_row rfl 26 _ rfl _ rfl _ _ _ _ (K.out.at 0 rfl) Try.underlying26 rfl (by kernel_rfl) ?_)
    | fail)
  refine (HEn.out _ K.out.below).mono ?_
  rintro e w2 ⟨rfl, hb⟩
  replace K := Lib.hid (K.out.call hb)
  clear hb HEn
  go_upto_if 28 with fail
  go_cut [9, 10] from 28 (fun s9 s10 wx => Hid (KR w.heap.size w [(w.heap.size, 26, entC tb pr vT vA vW cl me mk mt gt)] wx))
  case first =>
    clear HDd HRe HRn HRo
    cases hr : (RX == 0)
    · have hne : RX ≠ 0 := by simpa using hr
      have t5 : (RX != RX) = false := by simp
      obtain ⟨rfl, rfl⟩ := Prod.mk.inj (HEr.out hne)
      clear HEr HEo HDx hne
      go_wp2_with (first
        | (refine wpList_row 26 _ rfl (by rfl) _ _ rfl _ (run_loadVar_row _ _ _ 26 _ (0, 0) _ (K.out.at 0 rfl) Try.underlying26 rfl (by kernel_rfl)) ?_)
        | fail)
      refine (HRt.out _ K.out.below).mono ?_
      rintro e w3 ⟨rfl, hb⟩
      replace K := Lib.hid (K.out.call hb)
      clear hb HRt
      go_wp2_with fail
      go_meet
      case rel => exact K
    · have h0 : RX = 0 := by simpa using hr
      obtain ⟨rfl, rfl⟩ := Prod.mk.inj (HEo.out h0)
      have HDx := Lib.hid (HDx.out h0)
      clear HEr HEo h0 HRt
      have c0 := (K.out.at 0 rfl).cell 0 _ rfl
      go_wp2_with fail
      refine (HDx.out _).mono ?_
      rintro e w3 ⟨vA2, vW2, rfl, hoA, hoW, hb⟩
      replace K := Lib.hid (K.out.call hb)
      have HA2 := Lib.hid (ReadL.of_own hoA (fun _ => rfl))
      have HW2 := Lib.hid (ReadL.of_own hoW (fun _ => rfl))
      have oA : vA2.oneCell' = true := by obtain ⟨aa, ac, hva, _, _⟩ := hoA.slice; rw [hva]; rfl
      have oW : vW2.oneCell' = true := by obtain ⟨aa, ac, hva, _, _⟩ := hoW.slice; rw [hva]; rfl
      have HO := Lib.hid (And.intro oA oW)
      clear hb HDx hoA hoW oA oW c0
      go_wp2_with (first
        | (refine wpList_store_row rfl 26 _ _ rfl _ rfl (entC tb 0 (.slice none 0 0) vA2 vW2 cl me mk mt gt) rfl _ _ ((K.out.box _ _).at 0 rfl) rfl (by kernel_rfl) (by simp [Value.oneCell']; exact ⟨HO.out.1, HO.out.2⟩) ?_)
        | fail)
      intro Wi hbi hbari
      have HB3 : Hid (Below w3.heap.size w3 Wi) := Lib.hid (hbari.below ((Below.refl _ _).alloc (Nat.le_refl _) _) (Nat.le_refl _) (by simp))
      replace K := Lib.hid (K.out.into hbari hbi)
      have HSm := Lib.hid (ESame_eq Wi tb pr 0 vT (.slice none 0 0) vA vA2 vW vW2 fA fW cl me mk mt gt (HxA.out.below K.out.below (Nat.le_refl _)) (HA2.out.below HB3.out (Nat.le_refl _)) (HxW.out.below K.out.below (Nat.le_refl _)) (HW2.out.below HB3.out (Nat.le_refl _)))
      clear hbi hbari HB3 HA2 HW2
      go_wp2_with (first
        | (refine wpList_row 26 _ rfl (by rfl) _ _ rfl _ (run_loadVar_row _ _ _ 26 _ (0, 0) _ (K.out.at 0 rfl) Try.underlying26 rfl (by kernel_rfl)) ?_)
        | (refine wpList_row 26 _ rfl (by rfl) _ _ rfl _ (run_loadVar_row _ _ _ 26 _ (0, 0) _ (K.out.at 1 rfl) Try.underlying26 rfl (by kernel_rfl)) ?_)
        | fail)
      refine HSm.out.mono ?_
      rintro e w4 ⟨rfl, hb⟩
      replace K := Lib.hid ((K.out.call hb).sub (fun x hx => List.mem_cons_of_mem _ hx))
      clear hb HSm
      go_wp2_with fail
      go_meet
      case rel => exact K
  case rest =>
    have K := hcut
    clear hcut HEr HEo HDx HRt HxA HxW
    go_wp2_with fail
    refine (HDd.out _).mono ?_
    rintro e w3 ⟨vA2, vW2, rfl, hoA, hoW, hb⟩
    replace K := Lib.hid (K.out.call hb)
    have HA2 := Lib.hid (ReadL.of_own hoA (fun _ => rfl))
    have HW2 := Lib.hid (ReadL.of_own hoW (fun _ => rfl))
    have oA : vA2.oneCell' = true := by obtain ⟨aa, ac, hva, _, _⟩ := hoA.slice; rw [hva]; rfl
    have oW : vW2.oneCell' = true := by obtain ⟨aa, ac, hva, _, _⟩ := hoW.slice; rw [hva]; rfl
    have HO := Lib.hid (And.intro oA oW)
    clear hb HDd hoA hoW oA oW
    simp only
    generalize hTT : (if re = 0 then table else 0) = TT
    have HTT := Lib.hid hTT
    clear hTT
    go_wp2_with (first
      | (refine wpList_store_row rfl 26 _ _ rfl _ rfl (entC TT 0 (.slice none 0 0) vA2 vW2 rp.cl rp.me rp.ma rp.mt rp.gt) rfl _ _ ((K.out.box _ _).at 0 rfl) rfl (by kernel_rfl) (by simp [Value.oneCell']; exact ⟨HO.out.1, HO.out.2⟩) ?_)
      | fail)
    intro Wi hbi hbari
    have HB3 : Hid (Below w3.heap.size w3 Wi) := Lib.hid (hbari.below ((Below.refl _ _).alloc (Nat.le_refl _) _) (Nat.le_refl _) (by simp))
    replace K := Lib.hid (K.out.into hbari hbi)
    replace HA2 := Lib.hid (HA2.out.below HB3.out (Nat.le_refl _))
    replace HW2 := Lib.hid (HW2.out.below HB3.out (Nat.le_refl _))
    clear hbi hbari HB3
    cases hr : (re != 0)
    case true =>
      have hne : re ≠ 0 := by simpa using hr
      obtain rfl := HRe.out hne
      have h0 : TT = 0 := by rw [← HTT.out, if_neg hne]
      subst h0
      have HSm := Lib.hid (ESame_eq Wi 0 0 0 (.slice none 0 0) (.slice none 0 0) vA2 (.slice none 0 0) vW2 (.slice none 0 0) [] [] false 0 0 0 0 HA2.out (ReadL.nil _ _ _) HW2.out (ReadL.nil _ _ _))
      clear HRe HRn HRo hne HTT
      go_wp2_with (first
        | (refine wpList_load_row rfl 26 _ rfl _ rfl _ _ _ _ (K.out.at 0 rfl) Try.underlying26 rfl (by kernel_rfl) ?_)
        | fail)
      refine HSm.out.mono ?_
      rintro e w4 ⟨rfl, hb⟩
      replace K := Lib.hid (K.out.call hb)
      clear hb HSm
      go_wp2_with fail
      refine (HA.out _).mono ?_
      rintro e w5 ⟨rfl, hb⟩
      replace K := Lib.hid (K.out.call hb)
      clear hb
      go_wp2_with fail
      go_ret
      exact ⟨rfl, K.out.below⟩
    case false =>
      have h0 : re = 0 := by simpa using hr
      subst h0
      have h0 : TT = table := by rw [← HTT.out, if_pos rfl]
      subst h0
      obtain ⟨hR0, hE0⟩ := HRo.out rfl
      have HEn : Hid (∀ W : World, Below Wi.heap.size Wi W → Calls Try.prog 12 #[.agg (entC TT 0 (.slice none 0 0) vA2 vW2 rp.cl rp.me rp.ma rp.mt rp.gt)] W fun e w' => e = .returned (.tuple #[.string data, .int .i64 0]) ∧ Below W.heap.size W w') := Lib.hid (fun W hb => by
        have := IEncode_any W ⟨TT, 0, .slice none 0 0, [], vA2, rp.pA, vW2, rp.pW, rp.cl, rp.me, rp.ma, rp.mt, rp.gt⟩ (entOk_part HRn.out (HA2.out.below hb (Nat.le_refl _)) (HW2.out.below hb (Nat.le_refl _)))
        have e1 : encR ⟨TT, 0, .slice none 0 0, [], vA2, rp.pA, vW2, rp.pW, rp.cl, rp.me, rp.ma, rp.mt, rp.gt⟩ = (data.data.toList, 0) := by
          unfold encR
          refine (if_pos ?_).trans (congrArg (fun l => (l, (0 : Int))) hE0)
          exact hR0
        rw [e1] at this
        simp only [str_of] at this
        exact this)
      have HBi : Hid (Below Wi.heap.size Wi Wi) := Lib.hid (Below.refl _ _)
      clear HRe HRn HRo HTT hR0 hE0
      go_wp2_with (first
        | (refine wpList_load_row rfl 26 _ rfl _ rfl _ _ _ _ (K.out.at 0 rfl) Try.underlying26 rfl (by kernel_rfl) ?_)
        | fail)
      refine (HEn.out _ HBi.out).mono ?_
      rintro e w4 ⟨rfl, hb⟩
      replace K := Lib.hid (K.out.call hb)
      clear hb HEn HBi
      have c0 := (K.out.at 0 rfl).cell 0 _ rfl
      go_wp2_with fail
      refine (HA.out _).mono ?_
      rintro e w5 ⟨rfl, hb⟩
      replace K := Lib.hid (K.out.call hb)
      clear hb
      go_wp2_with fail
      go_ret
      exact ⟨rfl, K.out.below⟩
end Go.Proofs.Ytdjhbahiiabimaa
