/- TopoReaches: which switches can be come to from one, without some links. -/
import Derived.Test.YtggcmhjeflofmaaTopoY
import Derived.Test.YtggcmhjeflofmaaLaw14d
namespace Go.Proofs.Ytggcmhjeflofmaa
open Go.RowKit Go.Maps
set_option linter.unusedVariables false
set_option linter.unusedSimpArgs false

theorem nums_same (w : World) (v1 v2 : Value) (xs ys : List Int) (h1 : ReadL w 1 encI v1 xs) (h2 : ReadL w 1 encI v2 ys) (he : xs = ys) :
    Calls Try.prog 13 #[v1, v2] w fun e w' => e = .returned (.bool true) ∧ Below w.heap.size w w' :=
  (nums_any w v1 v2 xs ys h1 h2).mono (fun e w' ⟨h3, h4⟩ => ⟨by rw [h3, decide_eq_true he], h4⟩)
set_option maxRecDepth 100000 in
set_option maxHeartbeats 8000000 in
theorem TopoReaches_walk (w : World) (n : Int) (wn : (Lit.int .i64 n).wf = true) (v : Value) (l : List Link) (hv : ReadL w 5 encLink v l) (okl : ∀ x ∈ l, okLink w x) (v2 : Value) (two : List Int) (hv2 : ReadL w 1 encI v2 two) (okt : ∀ x ∈ two, (Lit.int .i64 x).wf = true) :
    Calls Try.prog 3 #[.int .i64 n, v, v2] w fun x w' => x = .returned (.bool true) ∧ Below w.heap.size w w' := by
  have HV := Lib.hid hv
  have HV2 := Lib.hid hv2
  obtain ⟨a, cap, rfl, hcap, hmax⟩ := hv.slice
  obtain ⟨a2, cap2, rfl, hcap2, hmax2⟩ := hv2.slice
  clear hv hv2 okl okt wn
  unfold maxLen at hmax hmax2
  by_cases hx : (100 : Int) < l.length
  · have t1 : decide ((100 : Int) < (l.length : Int)) = true := decide_eq_true hx
    go_enter Try.func3, Try.ntmps3
    go_wp2_with fail
    refine (awake_any _).mono ?_
    rintro e w8 ⟨rfl, hb⟩
    have HB := Lib.hid hb
    clear hb
    go_wp2_with fail
    go_ret
    exact ⟨rfl, HB.out⟩
  have t1 : decide ((100 : Int) < (l.length : Int)) = false := decide_eq_false hx
  cases hx2 : ((two.length : Int) == 0)
  case true =>
    go_enter Try.func3, Try.ntmps3
    go_wp2_with fail
    refine (awake_any _).mono ?_
    rintro e w8 ⟨rfl, hb⟩
    have HB := Lib.hid hb
    clear hb
    go_wp2_with fail
    go_ret
    exact ⟨rfl, HB.out⟩
  by_cases hx3 : (100 : Int) < two.length
  · have t3 : decide ((100 : Int) < (two.length : Int)) = true := decide_eq_true hx3
    go_enter Try.func3, Try.ntmps3
    go_wp2_with fail
    refine (awake_any _).mono ?_
    rintro e w8 ⟨rfl, hb⟩
    have HB := Lib.hid hb
    clear hb
    go_wp2_with fail
    go_ret
    exact ⟨rfl, HB.out⟩
  have t3 : decide ((100 : Int) < (two.length : Int)) = false := decide_eq_false hx3
  have HRp := Lib.hid (newF_rep (size := n) (l := l))
  have hl1 : 1 ≤ two.length := by have := hx2; simp only [beq_eq_false_iff_ne] at this; omega
  clear hx3 hx
  go_enter Try.func3, Try.ntmps3
  go_wp2_with fail
  refine (New_any w n _ l HV.out).mono ?_
  rintro e w1 ⟨hb1, hr1⟩
  have HB := Lib.hid hb1
  have HV1 := Lib.hid (HV.out.below hb1 (Nat.le_refl _))
  have HV21 := Lib.hid (HV2.out.below hb1 (Nat.le_refl _))
  have HN := Lib.hid (rNew_any w1 n _ l HV1.out)
  clear hb1 t1 t3 HV HV2 HV1 hx2
  rcases hr1 with ⟨h0, rfl⟩ | ⟨s, tb, eb, hb, cv, h0, rfl, hT⟩
  · have hF : rNewF n l = false := by rw [← HRp.out.1, h0]; rfl
    rw [hF] at HN
    clear HRp h0 hF HV21
    go_wp2_with fail
    refine HN.out.mono ?_
    rintro e w2 ⟨hb2, hr2⟩
    have HB2 := Lib.hid (HB.out.trans (hb2.mono HB.out.size))
    rcases hr2 with ⟨_, rfl⟩ | ⟨h, _⟩
    · clear hb2 HN HB
      go_wp2_with fail
      refine (awake_any _).mono ?_
      rintro e w8 ⟨rfl, hb⟩
      replace HB2 := Lib.hid (HB2.out.trans (hb.mono HB2.out.size))
      clear hb
      go_wp2_with fail
      go_ret
      exact ⟨rfl, HB2.out⟩
    · cases h
  have hF : rNewF n l = true := by rw [← HRp.out.1, h0]; rfl
  rw [hF] at HN
  have HOk := Lib.hid (newF_ok h0).1
  have HEq := Lib.hid (fun down sw => reach_eq h0 down sw)
  have HRi := Lib.hid (newF_right h0)
  have HT := Lib.hid hT
  clear h0 hT hF HRp
  go_wp2_with fail
  refine HN.out.mono ?_
  rintro e w2 ⟨hb2, hr2⟩
  have HB2 := Lib.hid (HB.out.trans (hb2.mono HB.out.size))
  have HT2 := Lib.hid (HT.out.below hb2 (Nat.le_refl _))
  have HV22 := Lib.hid (HV21.out.below hb2 (Nat.le_refl _))
  rcases hr2 with ⟨h, _⟩ | ⟨_, rb, lv, rfl, hR⟩
  · cases h
  have HR2 := Lib.hid hR
  clear hb2 hR HT HB HN HV21
  obtain ⟨b2, off2, cap3, hvv, hcp1, hcp2, hblt2, hc2⟩ := HV22.out.cells (by omega)
  cases hvv
  obtain ⟨x0, H0⟩ : ∃ x0 : Int, Hid (∀ W : World, KR w2.heap.size w2 [] W → W.cell? ⟨b2, off2, none⟩ = some (.int .i64 x0)) := by
    refine ⟨two[0]'(by omega), Lib.hid (fun W hW => ?_)⟩
    rw [hW.below.cell (p := ⟨b2, off2, none⟩) hblt2]
    exact hc2 0 0 _ (by omega) rfl
  have HRest := Lib.hid (HV22.out.rest 1 hl1)
  clear hc2 HV22
  generalize two.drop 1 = down at *
  generalize two.length = m2 at *
  have d0 : 0 < m2 := by omega
  have d2 : (1 : Int) ≤ (m2 : Int) := by omega
  have K : Hid (KR w2.heap.size w2 [] w2) := Lib.hid (KR.start (Below.refl _ _) (Nat.le_refl _))
  go_upto_region 7 with fail
  refine wp_region_noPanic ?_
  refine wp_region_G 27 (KR w2.heap.size w2 []) (by kernel_rfl) ?_
  change wpG _ _ _ _ _ 27 #[false, false, false, false, false, false, false, false, false, false, false, false, false, false, false, false, false, false, false, false, false, false, false, false, false, false, false] _ (World.drew _)
  replace K := Lib.hid K.out.drew
  refine wpG_pure (i := 0) (v := ?_) rfl (by kernel_rfl) (by kernel_rfl) (by kernel_rfl) (fun _ _ _ h => h) (Or.inl ⟨by rfl, ?_⟩) ?_
  rotate_left
  · (intro w_ hS; clear hS; go_simp; try with_reducible rfl)
  try simp only [List.getElem_toArray, List.getElem_cons_zero, List.getElem_cons_succ, Act.put, List.setIfInBounds_toArray, List.set_cons_zero, List.set_cons_succ]
  refine wpG_pure (i := 1) (v := ?_) rfl (by kernel_rfl) (by kernel_rfl) (by kernel_rfl) (fun _ _ _ h => h) (Or.inl ⟨by rfl, ?_⟩) ?_
  rotate_left
  · (intro w_ hS; clear hS; go_simp; try with_reducible rfl)
  try simp only [List.getElem_toArray, List.getElem_cons_zero, List.getElem_cons_succ, Act.put, List.setIfInBounds_toArray, List.set_cons_zero, List.set_cons_succ]
  refine wpG_pure (i := 2) (v := ?_) rfl (by kernel_rfl) (by kernel_rfl) (by kernel_rfl) (fun _ _ _ h => h) (Or.inl ⟨by rfl, ?_⟩) ?_
  rotate_left
  · (intro w_ hS; clear hS; go_simp; try with_reducible rfl)
  try simp only [List.getElem_toArray, List.getElem_cons_zero, List.getElem_cons_succ, Act.put, List.setIfInBounds_toArray, List.set_cons_zero, List.set_cons_succ]
  refine wpG_pure (i := 3) (v := ?_) rfl (by kernel_rfl) (by kernel_rfl) (by kernel_rfl) (fun _ _ _ h => h) (Or.inl ⟨by rfl, ?_⟩) ?_
  rotate_left
  · (intro w_ hS; clear hS; go_simp; try with_reducible rfl)
  try simp only [List.getElem_toArray, List.getElem_cons_zero, List.getElem_cons_succ, Act.put, List.setIfInBounds_toArray, List.set_cons_zero, List.set_cons_succ]
  refine wpG_pure (i := 4) (v := ?_) rfl (by kernel_rfl) (by kernel_rfl) (by kernel_rfl) (fun _ _ _ h => h) (Or.inl ⟨by rfl, ?_⟩) ?_
  rotate_left
  · (intro w_ hS; clear hS; go_simp; try with_reducible rfl)
  try simp only [List.getElem_toArray, List.getElem_cons_zero, List.getElem_cons_succ, Act.put, List.setIfInBounds_toArray, List.set_cons_zero, List.set_cons_succ]
  refine wpG_pure (i := 5) (v := ?_) rfl (by kernel_rfl) (by kernel_rfl) (by kernel_rfl) (fun _ _ _ h => h) (Or.inl ⟨by rfl, ?_⟩) ?_
  rotate_left
  · (intro w_ hS; clear hS; go_simp; try with_reducible rfl)
  try simp only [List.getElem_toArray, List.getElem_cons_zero, List.getElem_cons_succ, Act.put, List.setIfInBounds_toArray, List.set_cons_zero, List.set_cons_succ]
  refine wpG_pure (i := 6) (v := ?_) rfl (by kernel_rfl) (by kernel_rfl) (by kernel_rfl) (fun _ _ _ h => h) (Or.inl ⟨by rfl, ?_⟩) ?_
  rotate_left
  · (intro w_ hS; clear hS; go_simp; try with_reducible rfl)
  try simp only [List.getElem_toArray, List.getElem_cons_zero, List.getElem_cons_succ, Act.put, List.setIfInBounds_toArray, List.set_cons_zero, List.set_cons_succ]
  refine wpG_pure (i := 7) (v := ?_) rfl (by kernel_rfl) (by kernel_rfl) (by kernel_rfl) (fun _ _ _ h => h) (Or.inl ⟨by rfl, ?_⟩) ?_
  rotate_left
  · (intro w_ hS; clear hS; go_simp; try with_reducible rfl)
  try simp only [List.getElem_toArray, List.getElem_cons_zero, List.getElem_cons_succ, Act.put, List.setIfInBounds_toArray, List.set_cons_zero, List.set_cons_succ]
  refine wpG_pure (i := 8) (v := ?_) rfl (by kernel_rfl) (by kernel_rfl) (by kernel_rfl) (fun _ _ _ h => h) (Or.inl ⟨by rfl, ?_⟩) ?_
  rotate_left
  · (intro w_ hS; clear hS; go_simp; try with_reducible rfl)
  try simp only [List.getElem_toArray, List.getElem_cons_zero, List.getElem_cons_succ, Act.put, List.setIfInBounds_toArray, List.set_cons_zero, List.set_cons_succ]
  refine wpG_pure (i := 9) (v := ?_) rfl (by kernel_rfl) (by kernel_rfl) (by kernel_rfl) (fun _ _ _ h => h) (Or.inl ⟨by rfl, ?_⟩) ?_
  rotate_left
  · (intro w_ hS; clear hS; go_simp; try with_reducible rfl)
  try simp only [List.getElem_toArray, List.getElem_cons_zero, List.getElem_cons_succ, Act.put, List.setIfInBounds_toArray, List.set_cons_zero, List.set_cons_succ]
  refine wpG_take (i := 10) (v := ?_) rfl (by kernel_rfl) (by kernel_rfl) (by kernel_rfl) (fun _ _ _ h => h) (Or.inl ⟨by rfl, ?_⟩) K.out ?_
  rotate_left
  · (intro w_ hS; have cq_ := H0.out _ hS; clear hS; go_simp; try with_reducible rfl)
  try simp only [List.getElem_toArray, List.getElem_cons_zero, List.getElem_cons_succ, Act.put, List.setIfInBounds_toArray, List.set_cons_zero, List.set_cons_succ]
  refine wpG_pure (i := 11) (v := ?_) rfl (by kernel_rfl) (by kernel_rfl) (by kernel_rfl) (fun _ _ _ h => h) (Or.inl ⟨by rfl, ?_⟩) ?_
  rotate_left
  · (intro w_ hS; clear hS; go_simp; try with_reducible rfl)
  try simp only [List.getElem_toArray, List.getElem_cons_zero, List.getElem_cons_succ, Act.put, List.setIfInBounds_toArray, List.set_cons_zero, List.set_cons_succ]
  refine wpG_pure (i := 12) (v := ?_) rfl (by kernel_rfl) (by kernel_rfl) (by kernel_rfl) (fun _ _ _ h => h) (Or.inl ⟨by rfl, ?_⟩) ?_
  rotate_left
  · (intro w_ hS; clear hS; go_simp; try with_reducible rfl)
  try simp only [List.getElem_toArray, List.getElem_cons_zero, List.getElem_cons_succ, Act.put, List.setIfInBounds_toArray, List.set_cons_zero, List.set_cons_succ]
  refine wpG_pure (i := 14) (v := ?_) rfl (by kernel_rfl) (by kernel_rfl) (by kernel_rfl) (fun _ _ _ h => h) (Or.inl ⟨by rfl, ?_⟩) ?_
  rotate_left
  · (intro w_ hS; clear hS; go_simp; try with_reducible rfl)
  try simp only [List.getElem_toArray, List.getElem_cons_zero, List.getElem_cons_succ, Act.put, List.setIfInBounds_toArray, List.set_cons_zero, List.set_cons_succ]
  refine wpG_pure (i := 15) (v := ?_) rfl (by kernel_rfl) (by kernel_rfl) (by kernel_rfl) (fun _ _ _ h => h) (Or.inl ⟨by rfl, ?_⟩) ?_
  rotate_left
  · (intro w_ hS; clear hS; go_simp; try with_reducible rfl)
  try simp only [List.getElem_toArray, List.getElem_cons_zero, List.getElem_cons_succ, Act.put, List.setIfInBounds_toArray, List.set_cons_zero, List.set_cons_succ]
  refine wpG_pure (i := 16) (v := ?_) rfl (by kernel_rfl) (by kernel_rfl) (by kernel_rfl) (fun _ _ _ h => h) (Or.inl ⟨by rfl, ?_⟩) ?_
  rotate_left
  · (intro w_ hS; clear hS; go_simp; try with_reducible rfl)
  try simp only [List.getElem_toArray, List.getElem_cons_zero, List.getElem_cons_succ, Act.put, List.setIfInBounds_toArray, List.set_cons_zero, List.set_cons_succ]
  refine wpG_take (i := 17) (v := ?_) rfl (by kernel_rfl) (by kernel_rfl) (by kernel_rfl) (fun _ _ _ h => h) (Or.inl ⟨by rfl, ?_⟩) K.out ?_
  rotate_left
  · (intro w_ hS; have cq_ := H0.out _ hS; clear hS; go_simp; try with_reducible rfl)
  try simp only [List.getElem_toArray, List.getElem_cons_zero, List.getElem_cons_succ, Act.put, List.setIfInBounds_toArray, List.set_cons_zero, List.set_cons_succ]
  refine wpG_pure (i := 18) (v := ?_) rfl (by kernel_rfl) (by kernel_rfl) (by kernel_rfl) (fun _ _ _ h => h) (Or.inl ⟨by rfl, ?_⟩) ?_
  rotate_left
  · (intro w_ hS; clear hS; go_simp; try with_reducible rfl)
  try simp only [List.getElem_toArray, List.getElem_cons_zero, List.getElem_cons_succ, Act.put, List.setIfInBounds_toArray, List.set_cons_zero, List.set_cons_succ]
  refine wpG_pure (i := 19) (v := ?_) rfl (by kernel_rfl) (by kernel_rfl) (by kernel_rfl) (fun _ _ _ h => h) (Or.inl ⟨by rfl, ?_⟩) ?_
  rotate_left
  · (intro w_ hS; clear hS; go_simp; try with_reducible rfl)
  try simp only [List.getElem_toArray, List.getElem_cons_zero, List.getElem_cons_succ, Act.put, List.setIfInBounds_toArray, List.set_cons_zero, List.set_cons_succ]
  refine wpG_ready (i := 13) rfl (by kernel_rfl) (fun K_ hK => ?_)
  go_simp
  refine (Reach_any _ _ tb eb hb cv s (HT2.out.below K.out.below (Nat.le_refl _)) HOk.out x0 _ down (HRest.out.below K.out.below (Nat.le_refl _))).mono ?_
  rintro x w3 ⟨va, rfl, hownA, hb3⟩
  replace K := Lib.hid (K.out.call hb3)
  refine hK.out _ _ (fun h_ _ => K.out) ?_
  clear hK K_
  try simp only [List.getElem_toArray, List.getElem_cons_zero, List.getElem_cons_succ, Act.put, List.setIfInBounds_toArray, List.set_cons_zero, List.set_cons_succ]
  refine wpG_ready (i := 20) rfl (by kernel_rfl) (fun K_ hK => ?_)
  go_simp
  refine (rReach_any _ rb lv n l (HR2.out.below K.out.below (Nat.le_refl _)) HRi.out.1 HRi.out.2.1 HRi.out.2.2.1 HRi.out.2.2.2 x0 _ down (HRest.out.below K.out.below (Nat.le_refl _))).mono ?_
  rintro x w4 ⟨vb, Cb, hCb, rfl, hownB, hb4⟩
  replace K := Lib.hid (K.out.call hb4)
  refine hK.out _ _ (fun h_ _ => K.out) ?_
  clear hK K_
  try simp only [List.getElem_toArray, List.getElem_cons_zero, List.getElem_cons_succ, Act.put, List.setIfInBounds_toArray, List.set_cons_zero, List.set_cons_succ]
  refine wpG_ready (i := 21) rfl (by kernel_rfl) (fun K_ hK => ?_)
  go_simp
  refine (nums_same _ va vb _ _ ((ReadL.of_own hownA encI_len).below hb4 (Nat.le_refl _)) (ReadL.of_own hownB encI_len) (HEq.out down x0)).mono ?_
  rintro x w5 ⟨rfl, hb5⟩
  replace K := Lib.hid (K.out.call hb5)
  refine hK.out _ _ (fun h_ _ => K.out) ?_
  clear hK K_
  try simp only [List.getElem_toArray, List.getElem_cons_zero, List.getElem_cons_succ, Act.put, List.setIfInBounds_toArray, List.set_cons_zero, List.set_cons_succ]
  refine wpG_pure (i := 22) (v := ?_) rfl (by kernel_rfl) (by kernel_rfl) (by kernel_rfl) (fun _ _ _ h => h) (Or.inl ⟨by rfl, ?_⟩) ?_
  rotate_left
  · (intro w_ hS; clear hS; go_simp; try with_reducible rfl)
  try simp only [List.getElem_toArray, List.getElem_cons_zero, List.getElem_cons_succ, Act.put, List.setIfInBounds_toArray, List.set_cons_zero, List.set_cons_succ]
  refine wpG_pure (i := 23) (v := ?_) rfl (by kernel_rfl) (by kernel_rfl) (by kernel_rfl) (fun _ _ _ h => h) (Or.inl ⟨by rfl, ?_⟩) ?_
  rotate_left
  · (intro w_ hS; clear hS; go_simp; try with_reducible rfl)
  try simp only [List.getElem_toArray, List.getElem_cons_zero, List.getElem_cons_succ, Act.put, List.setIfInBounds_toArray, List.set_cons_zero, List.set_cons_succ]
  refine wpG_ready (i := 24) rfl (by kernel_rfl) (fun K_ hK => ?_)
  go_simp
  refine (awake_any _).mono ?_
  rintro x w6 ⟨rfl, hb6⟩
  replace K := Lib.hid (K.out.call hb6)
  refine hK.out _ _ (fun h_ _ => K.out) ?_
  clear hK K_
  try simp only [List.getElem_toArray, List.getElem_cons_zero, List.getElem_cons_succ, Act.put, List.setIfInBounds_toArray, List.set_cons_zero, List.set_cons_succ]
  refine wpG_pure (i := 25) (v := ?_) rfl (by kernel_rfl) (by kernel_rfl) (by kernel_rfl) (fun _ _ _ h => h) (Or.inl ⟨by rfl, ?_⟩) ?_
  rotate_left
  · (intro w_ hS; clear hS; go_simp; try with_reducible rfl)
  try simp only [List.getElem_toArray, List.getElem_cons_zero, List.getElem_cons_succ, Act.put, List.setIfInBounds_toArray, List.set_cons_zero, List.set_cons_succ]
  refine wpG_pure (i := 26) (v := ?_) rfl (by kernel_rfl) (by kernel_rfl) (by kernel_rfl) (fun _ _ _ h => h) (Or.inl ⟨by rfl, ?_⟩) ?_
  rotate_left
  · (intro w_ hS; clear hS; go_simp; try with_reducible rfl)
  try simp only [List.getElem_toArray, List.getElem_cons_zero, List.getElem_cons_succ, Act.put, List.setIfInBounds_toArray, List.set_cons_zero, List.set_cons_succ]
  refine wpG_done (by kernel_rfl) ?_ _
  refine NoPanic.normal ?_
  generalize (if cap2 = 1 then some (⟨b2, off2, none⟩ : Addr) else some ⟨b2, off2 + 1, none⟩) = sa at *
  go_wp2_with fail
  go_ret
  exact ⟨rfl, HB2.out.trans (K.out.below.mono HB2.out.size)⟩
end Go.Proofs.Ytggcmhjeflofmaa
