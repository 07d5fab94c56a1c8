/- instr.raw (printed by gen/inse.py). -/
import Derived.Test.YtdjhbahiiabimaaInsD
namespace Go.Proofs.Ytdjhbahiiabimaa
open Go.RowKit
set_option linter.unusedVariables false
set_option linter.unusedSimpArgs false
attribute [local go_sem] beL_length

def rawF (k : Int) (p : Part) : List UInt8 :=
  if k = 6 then encM p.mt else if k = 4 then listB 4 p.pA else if k = 5 then partB 5 [0, 0, 0, 0] else if k = 3 then listB 3 p.pW else if k = 2 then encMe p.me p.ma else if k = 1 then encG p.gt else []
structure PartOk (p : Part) : Prop where
  mt : 0 ≤ p.mt ∧ p.mt < 4294967296
  gt : 0 ≤ p.gt ∧ p.gt < 256
  me : 0 ≤ p.me ∧ p.me ≤ 18446744073709551615
  ma : 0 ≤ p.ma ∧ p.ma ≤ 18446744073709551615
  okA : ∀ a ∈ p.pA, okV a
  okW : ∀ a ∈ p.pW, okV a
  lenA : p.pA.length ≤ 100000
  lenW : p.pW.length ≤ 100000
set_option maxRecDepth 100000 in
set_option maxHeartbeats 8000000 in
theorem raw_any (w : World) (k : Int) (tb pr : Int) (vT vA vW : Value) (p : Part) (hp : PartOk p) (hA : ReadL w 3 encAction vA p.pA) (hW : ReadL w 3 encAction vW p.pW) :
    Calls Try.prog 27 #[.int .i64 k, .agg (entC tb pr vT vA vW p.cl p.me p.ma p.mt p.gt)] w fun e w' => e = .returned (.string (str (rawF k p))) ∧ Below w.heap.size w w' := by
  have HLa : Hid (∀ W : World, Below w.heap.size w W → _) := Lib.hid (fun W hb => list_any W 4 vA p.pA (by decide) (hA.below hb (Nat.le_refl _)) hp.okA (Nat.le_trans hp.lenA (by decide)))
  have HLw : Hid (∀ W : World, Below w.heap.size w W → _) := Lib.hid (fun W hb => list_any W 3 vW p.pW (by decide) (hW.below hb (Nat.le_refl _)) hp.okW (Nat.le_trans hp.lenW (by decide)))
  have HS : Hid (rawF k p = _) := Lib.hid (by unfold rawF; rfl)
  obtain ⟨h1, h2, h3, h4, _, _, _, _⟩ := hp
  generalize rawF k p = R at *
  obtain ⟨pA, pW, cl, me, mk, mt, gt⟩ := p
  simp only at *
  generalize listB 4 pA = LA at *
  generalize listB 3 pW = LW at *
  clear hA hW
  go_enter Try.func27, Try.ntmps27
  go_upto_region 1 with fail
  refine one_box_wp ?_
  intro W hb1 hbel hsz
  have K : Hid (KR w.heap.size w [(w.heap.size, 26, entC tb pr vT vA vW cl me mk mt gt)] W) := Lib.hid ((KR.start hbel hbel.size).add hb1)
  clear hb1 hbel hsz
  by_cases c6 : k = 6
  · subst c6
    have cz := (K.out.at 0 rfl).cell 8 _ rfl
    cases tm : (mt != 0)
    · have HRn : Hid (R = []) := Lib.hid (by rw [HS.out, if_pos rfl]; unfold encM; rw [if_pos (by simpa using tm)])
      clear HS
      go_wp2_with fail
      go_ret
      exact ⟨by rw [HRn.out]; try rfl, K.out.below⟩
    · have hmt : mt ≠ 0 := by simpa using tm
      have HRn : Hid (R = partB 6 (beL 4 mt.toNat)) := Lib.hid (by rw [HS.out, if_pos rfl]; unfold encM; rw [if_neg hmt])
      have HP := Lib.hid (fun W => iput_any W mt 4 h1.1 (by decide) (by decide) (by omega))
      have HPt := Lib.hid (fun W => part_any W 6 (beL 4 mt.toNat) (by decide) (by rw [beL_length]; decide))
      have q1 : IntKind.u64.wrap mt = mt := by simp [IntKind.wrap, IntKind.bits, IntKind.signed]; omega
      clear hmt HS
      go_wp2_with fail
      refine (HP.out _).mono ?_
      rintro e wq ⟨rfl, hb⟩
      replace K := Lib.hid (K.out.call hb)
      clear hb HP
      go_wp2_with fail
      refine (HPt.out _).mono ?_
      rintro e wq ⟨rfl, hb⟩
      replace K := Lib.hid (K.out.call hb)
      clear hb HPt
      clear cz
      go_wp2_with fail
      go_ret
      exact ⟨by rw [HRn.out]; try rfl, K.out.below⟩
  have t6 : (k == 6) = false := by simpa using c6
  by_cases c4 : k = 4
  · subst c4
    have HRn : Hid (R = LA) := Lib.hid (by rw [HS.out]; rfl)
    have cz := (K.out.at 0 rfl).cell 3 _ rfl
    clear HS
    go_wp2_with fail
    refine (HLa.out _ K.out.below).mono ?_
    rintro e wq ⟨rfl, hb⟩
    replace K := Lib.hid (K.out.call hb)
    clear hb HLa cz
    go_wp2_with fail
    go_ret
    exact ⟨by rw [HRn.out]; try rfl, K.out.below⟩
  have t4 : (k == 4) = false := by simpa using c4
  by_cases c5 : k = 5
  · subst c5
    have HRn : Hid (R = partB 5 [0, 0, 0, 0]) := Lib.hid (by rw [HS.out]; rfl)
    have HP := Lib.hid (fun W => iput_any W 0 4 (by decide) (by decide) (by decide) (by decide))
    have HPt := Lib.hid (fun W => part_any W 5 [0, 0, 0, 0] (by decide) (by decide))
    clear HS
    go_wp2_with fail
    refine (HP.out _).mono ?_
    rintro e wq ⟨rfl, hb⟩
    replace K := Lib.hid (K.out.call hb)
    clear hb HP
    go_wp2_with fail
    refine (HPt.out _).mono ?_
    rintro e wq ⟨rfl, hb⟩
    replace K := Lib.hid (K.out.call hb)
    clear hb HPt
    go_wp2_with fail
    go_ret
    exact ⟨by rw [HRn.out]; try rfl, K.out.below⟩
  have t5 : (k == 5) = false := by simpa using c5
  by_cases c3 : k = 3
  · subst c3
    have HRn : Hid (R = LW) := Lib.hid (by rw [HS.out]; rfl)
    have cz := (K.out.at 0 rfl).cell 4 _ rfl
    clear HS
    go_wp2_with fail
    refine (HLw.out _ K.out.below).mono ?_
    rintro e wq ⟨rfl, hb⟩
    replace K := Lib.hid (K.out.call hb)
    clear hb HLw cz
    go_wp2_with fail
    go_ret
    exact ⟨by rw [HRn.out]; try rfl, K.out.below⟩
  have t3 : (k == 3) = false := by simpa using c3
  by_cases c2 : k = 2
  · subst c2
    have cz := (K.out.at 0 rfl).cell 7 _ rfl
    cases tm : (mk != 0)
    · have HRn : Hid (R = []) := Lib.hid (by rw [HS.out]; show encMe me mk = []; unfold encMe; rw [if_pos (by simpa using tm)])
      clear HS
      go_wp2_with fail
      go_ret
      exact ⟨by rw [HRn.out]; try rfl, K.out.below⟩
    · have hmk : mk ≠ 0 := by simpa using tm
      have HRn : Hid (R = partB 2 ([0, 0, 0, 0] ++ (beL 8 me.toNat ++ beL 8 mk.toNat))) := Lib.hid (by rw [HS.out]; show encMe me mk = _; unfold encMe; rw [if_neg hmk])
      have HP := Lib.hid (fun W => iput_any W 0 4 (by decide) (by decide) (by decide) (by decide))
      have HP1 := Lib.hid (fun W => iput_any W me 8 h3.1 (by decide) (by decide) (by omega))
      have HP2 := Lib.hid (fun W => iput_any W mk 8 h4.1 (by decide) (by decide) (by omega))
      have HPt := Lib.hid (fun W => part_any W 2 ([0, 0, 0, 0] ++ (beL 8 me.toNat ++ beL 8 mk.toNat)) (by decide) (by simp [beL_length]))
      clear hmk HS
      go_upto_region 13 with fail
      clear cz
      refine wp_region_noPanic ?_
      refine wp_region_G 11 (KR w.heap.size w [(w.heap.size, 26, entC tb pr vT vA vW cl me mk mt gt)]) (by kernel_rfl) ?_
      change wpG _ _ _ _ _ 11 #[false, false, false, false, false, false, false, false, false, false, false] _ (World.drew _)
      replace K := Lib.hid K.out.drew
      refine wpG_pure (i := 1) (v := ?_) rfl (by kernel_rfl) (by kernel_rfl) (by kernel_rfl) (fun _ _ _ h => h) (Or.inl ⟨by rfl, ?_⟩) ?_
      rotate_left
      · (intro w_ hS; clear hS; go_simp; try with_reducible rfl)
      try simp only [List.getElem_toArray, List.getElem_cons_zero, List.getElem_cons_succ, Act.put, List.setIfInBounds_toArray, List.set_cons_zero, List.set_cons_succ]
      refine wpG_take (i := 2) (v := ?_) rfl (by kernel_rfl) (by kernel_rfl) (by kernel_rfl) (fun _ _ _ h => h) (Or.inl ⟨by rfl, ?_⟩) K.out ?_
      rotate_left
      · (intro w_ hS; have cq_ := (hS.at 0 rfl).cell 6 _ rfl; clear hS; go_simp; try with_reducible rfl)
      try simp only [List.getElem_toArray, List.getElem_cons_zero, List.getElem_cons_succ, Act.put, List.setIfInBounds_toArray, List.set_cons_zero, List.set_cons_succ]
      refine wpG_pure (i := 5) (v := ?_) rfl (by kernel_rfl) (by kernel_rfl) (by kernel_rfl) (fun _ _ _ h => h) (Or.inl ⟨by rfl, ?_⟩) ?_
      rotate_left
      · (intro w_ hS; clear hS; go_simp; try with_reducible rfl)
      try simp only [List.getElem_toArray, List.getElem_cons_zero, List.getElem_cons_succ, Act.put, List.setIfInBounds_toArray, List.set_cons_zero, List.set_cons_succ]
      refine wpG_take (i := 6) (v := ?_) rfl (by kernel_rfl) (by kernel_rfl) (by kernel_rfl) (fun _ _ _ h => h) (Or.inl ⟨by rfl, ?_⟩) K.out ?_
      rotate_left
      · (intro w_ hS; have cq_ := (hS.at 0 rfl).cell 7 _ rfl; clear hS; go_simp; try with_reducible rfl)
      try simp only [List.getElem_toArray, List.getElem_cons_zero, List.getElem_cons_succ, Act.put, List.setIfInBounds_toArray, List.set_cons_zero, List.set_cons_succ]
      refine wpG_ready (i := 0) rfl (by kernel_rfl) (fun K_ hK => ?_)
      go_simp
      refine (HP.out _).mono ?_
      rintro x wq ⟨rfl, hb⟩
      replace K := Lib.hid (K.out.call hb)
      refine hK.out _ _ (fun h_ _ => K.out) ?_
      clear hK K_
      try simp only [List.getElem_toArray, List.getElem_cons_zero, List.getElem_cons_succ, Act.put, List.setIfInBounds_toArray, List.set_cons_zero, List.set_cons_succ]
      refine wpG_ready (i := 3) rfl (by kernel_rfl) (fun K_ hK => ?_)
      go_simp
      refine (HP1.out _).mono ?_
      rintro x wq ⟨rfl, hb⟩
      replace K := Lib.hid (K.out.call hb)
      refine hK.out _ _ (fun h_ _ => K.out) ?_
      clear hK K_
      try simp only [List.getElem_toArray, List.getElem_cons_zero, List.getElem_cons_succ, Act.put, List.setIfInBounds_toArray, List.set_cons_zero, List.set_cons_succ]
      refine wpG_pure (i := 4) (v := ?_) rfl (by kernel_rfl) (by kernel_rfl) (by kernel_rfl) (fun _ _ _ h => h) (Or.inl ⟨by rfl, ?_⟩) ?_
      rotate_left
      · (intro w_ hS; clear hS; go_simp; try with_reducible rfl)
      try simp only [List.getElem_toArray, List.getElem_cons_zero, List.getElem_cons_succ, Act.put, List.setIfInBounds_toArray, List.set_cons_zero, List.set_cons_succ]
      refine wpG_ready (i := 7) rfl (by kernel_rfl) (fun K_ hK => ?_)
      go_simp
      refine (HP2.out _).mono ?_
      rintro x wq ⟨rfl, hb⟩
      replace K := Lib.hid (K.out.call hb)
      refine hK.out _ _ (fun h_ _ => K.out) ?_
      clear hK K_
      try simp only [List.getElem_toArray, List.getElem_cons_zero, List.getElem_cons_succ, Act.put, List.setIfInBounds_toArray, List.set_cons_zero, List.set_cons_succ]
      refine wpG_pure (i := 8) (v := ?_) rfl (by kernel_rfl) (by kernel_rfl) (by kernel_rfl) (fun _ _ _ h => h) (Or.inl ⟨by rfl, ?_⟩) ?_
      rotate_left
      · (intro w_ hS; clear hS; go_simp; try with_reducible rfl)
      try simp only [List.getElem_toArray, List.getElem_cons_zero, List.getElem_cons_succ, Act.put, List.setIfInBounds_toArray, List.set_cons_zero, List.set_cons_succ]
      refine wpG_ready (i := 9) rfl (by kernel_rfl) (fun K_ hK => ?_)
      go_simp
      refine (HPt.out _).mono ?_
      rintro x wq ⟨rfl, hb⟩
      replace K := Lib.hid (K.out.call hb)
      refine hK.out _ _ (fun h_ _ => K.out) ?_
      clear hK K_
      try simp only [List.getElem_toArray, List.getElem_cons_zero, List.getElem_cons_succ, Act.put, List.setIfInBounds_toArray, List.set_cons_zero, List.set_cons_succ]
      refine wpG_pure (i := 10) (v := ?_) rfl (by kernel_rfl) (by kernel_rfl) (by kernel_rfl) (fun _ _ _ h => h) (Or.inl ⟨by rfl, ?_⟩) ?_
      rotate_left
      · (intro w_ hS; clear hS; go_simp; try with_reducible rfl)
      try simp only [List.getElem_toArray, List.getElem_cons_zero, List.getElem_cons_succ, Act.put, List.setIfInBounds_toArray, List.set_cons_zero, List.set_cons_succ]
      refine wpG_done (by kernel_rfl) ?_ _
      refine NoPanic.normal ?_
      go_wp2_with fail
      go_ret
      exact ⟨by rw [HRn.out]; try rfl, K.out.below⟩
  have t2 : (k == 2) = false := by simpa using c2
  by_cases c1 : k = 1
  · subst c1
    have cz := (K.out.at 0 rfl).cell 9 _ rfl
    cases tm : (gt != 0)
    · have HRn : Hid (R = []) := Lib.hid (by rw [HS.out]; show encG gt = []; unfold encG; rw [if_pos (by simpa using tm)])
      clear HS
      go_wp2_with fail
      go_ret
      exact ⟨by rw [HRn.out]; try rfl, K.out.below⟩
    · have hg : gt ≠ 0 := by simpa using tm
      have HRn : Hid (R = partB 1 (beL 1 gt.toNat ++ [0, 0, 0])) := Lib.hid (by rw [HS.out]; show encG gt = _; unfold encG; rw [if_neg hg])
      have HP := Lib.hid (fun W => iput_any W gt 1 h2.1 (by decide) (by decide) (by omega))
      have HP1 := Lib.hid (fun W => iput_any W 0 3 (by decide) (by decide) (by decide) (by decide))
      have HPt := Lib.hid (fun W => part_any W 1 (beL 1 gt.toNat ++ [0, 0, 0]) (by decide) (by simp [beL_length]))
      have q1 : IntKind.u64.wrap gt = gt := by simp [IntKind.wrap, IntKind.bits, IntKind.signed]; omega
      clear hg HS
      go_wp2_with fail
      refine (HP.out _).mono ?_
      rintro e wq ⟨rfl, hb⟩
      replace K := Lib.hid (K.out.call hb)
      clear hb HP
      go_wp2_with fail
      refine (HP1.out _).mono ?_
      rintro e wq ⟨rfl, hb⟩
      replace K := Lib.hid (K.out.call hb)
      clear hb HP1
      go_wp2_with fail
      refine (HPt.out _).mono ?_
      rintro e wq ⟨rfl, hb⟩
      replace K := Lib.hid (K.out.call hb)
      clear hb HPt
      clear cz
      go_wp2_with fail
      go_ret
      exact ⟨by rw [HRn.out]; try rfl, K.out.below⟩
  have t1 : (k == 1) = false := by simpa using c1
  have HRn : Hid (R = []) := Lib.hid (by rw [HS.out, if_neg c6, if_neg c4, if_neg c5, if_neg c3, if_neg c2, if_neg c1])
  clear HS c6 c4 c5 c3 c2 c1
  go_wp2_with fail
  go_ret
  exact ⟨by rw [HRn.out]; try rfl, K.out.below⟩
end Go.Proofs.Ytdjhbahiiabimaa
