/- TopoBoth: what is reached from one is reached from each that it reaches. -/
import Derived.Test.YtggcmhjeflofmaaTopoQ
import Derived.Test.YtggcmhjeflofmaaTopoS
namespace Go.Proofs.Ytggcmhjeflofmaa
open Go.RowKit Go.Maps
set_option linter.unusedVariables false
set_option linter.unusedSimpArgs false

/-- A list from its k-th on, as Go cuts it. -/
theorem ReadL.rest {w : World} {b off cap : Nat} {n : Nat} {xs : List Int} (h : ReadL w 1 encI (.slice (some ⟨b, off, none⟩) n cap) xs) (k : Nat) (hk : k ≤ xs.length) :
    ReadL w 1 encI (.slice (if cap = k then some ⟨b, off, none⟩ else some ⟨b, off + k, none⟩) (n - k) (cap - k)) (xs.drop k) := by
  obtain ⟨a0, cap0, hv, h1, h2, h3⟩ := h
  obtain ⟨rfl, rfl, rfl⟩ : some ⟨b, off, none⟩ = a0 ∧ n = xs.length ∧ cap = cap0 := by simpa using hv
  refine ⟨_, _, by rw [List.length_drop], by simp; omega, by omega, ?_⟩
  by_cases hc : cap = k
  · exact .inl (List.drop_eq_nil_of_le (by omega))
  · rcases h3 with rfl | ⟨b', off', hb', hlt, hcell⟩
    · exact .inl (by simp)
    · obtain ⟨rfl, rfl⟩ : b = b' ∧ off = off' := by simpa using hb'
      refine .inr ⟨b, off + k, by rw [if_neg hc], hlt, fun i j u hi hu => ?_⟩
      have hi' : k + i < xs.length := by simp at hi; omega
      have := hcell (k + i) j u hi' (by simpa using hu)
      rw [show off + k + (i * 1 + j) = off + ((k + i) * 1 + j) by omega]
      exact this

set_option maxRecDepth 100000 in
set_option maxHeartbeats 8000000 in
theorem TopoBoth_walk (w : World) (n : Int) (wn : (Lit.int .i64 n).wf = true) (v : Value) (l : List Link) (hv : ReadL w 5 encLink v l) (okl : ∀ x ∈ l, okLink w x) (v2 : Value) (two : List Int) (hv2 : ReadL w 1 encI v2 two) (okt : ∀ x ∈ two, (Lit.int .i64 x).wf = true) :
    Calls Try.prog 4 #[.int .i64 n, v, v2] w fun x w' => x = .returned (.bool true) ∧ Below w.heap.size w w' := by
  have HV := Lib.hid hv
  have HV2 := Lib.hid hv2
  obtain ⟨a, cap, rfl, hcap, hmax⟩ := hv.slice
  obtain ⟨a2, cap2, rfl, hcap2, hmax2⟩ := hv2.slice
  clear hv hv2 okl okt wn
  unfold maxLen at hmax hmax2
  by_cases hx : (100 : Int) < l.length
  · have t1 : decide ((100 : Int) < (l.length : Int)) = true := decide_eq_true hx
    go_enter Try.func4, Try.ntmps4
    go_wp2_with fail
    refine (awake_any _).mono ?_
    rintro e w8 ⟨rfl, hb⟩
    have HB := Lib.hid hb
    clear hb
    go_wp2_with fail
    go_ret
    exact ⟨rfl, HB.out⟩
  have t1 : decide ((100 : Int) < (l.length : Int)) = false := decide_eq_false hx
  by_cases hx2 : (two.length : Int) < 2
  · have t2 : decide ((two.length : Int) < 2) = true := decide_eq_true hx2
    go_enter Try.func4, Try.ntmps4
    go_wp2_with fail
    refine (awake_any _).mono ?_
    rintro e w8 ⟨rfl, hb⟩
    have HB := Lib.hid hb
    clear hb
    go_wp2_with fail
    go_ret
    exact ⟨rfl, HB.out⟩
  have t2 : decide ((two.length : Int) < 2) = false := decide_eq_false hx2
  by_cases hx3 : (100 : Int) < two.length
  · have t3 : decide ((100 : Int) < (two.length : Int)) = true := decide_eq_true hx3
    go_enter Try.func4, Try.ntmps4
    go_wp2_with fail
    refine (awake_any _).mono ?_
    rintro e w8 ⟨rfl, hb⟩
    have HB := Lib.hid hb
    clear hb
    go_wp2_with fail
    go_ret
    exact ⟨rfl, HB.out⟩
  have t3 : decide ((100 : Int) < (two.length : Int)) = false := decide_eq_false hx3
  clear hx3
  go_enter Try.func4, Try.ntmps4
  go_wp2_with fail
  refine (New_any w n _ l HV.out).mono ?_
  rintro e w1 ⟨hb1, hr1⟩
  have HB := Lib.hid hb1
  have HV3 := Lib.hid (HV2.out.below hb1 (Nat.le_refl _))
  clear hb1 t1 t2 t3 HV HV2
  rcases hr1 with ⟨h0, rfl⟩ | ⟨s, tb, eb, hb, cv, h0, rfl, hT⟩
  · clear h0
    go_wp2_with fail
    refine (awake_any _).mono ?_
    rintro e w8 ⟨rfl, hb⟩
    replace HB := Lib.hid (HB.out.trans (hb.mono HB.out.size))
    clear hb
    go_wp2_with fail
    go_ret
    exact ⟨rfl, HB.out⟩
  have HOk := Lib.hid (newF_ok h0).1
  have HSy := Lib.hid (newF_sym h0)
  have HT := Lib.hid hT
  clear h0 hT hx
  have hl2 : 2 ≤ two.length := by omega
  obtain ⟨b2, off2, cap3, hvv, hcp1, hcp2, hblt2, hc2⟩ := HV3.out.cells (by omega)
  cases hvv
  obtain ⟨x0, x1, H0, H1⟩ : ∃ x0 x1 : Int, Hid (∀ W : World, KR w1.heap.size w1 [] W → W.cell? ⟨b2, off2, none⟩ = some (.int .i64 x0)) ∧ Hid (∀ W : World, KR w1.heap.size w1 [] W → W.cell? ⟨b2, off2 + 1, none⟩ = some (.int .i64 x1)) := by
    refine ⟨two[0]'(by omega), two[1]'(by omega), Lib.hid (fun W hW => ?_), Lib.hid (fun W hW => ?_)⟩
    · rw [hW.below.cell (p := ⟨b2, off2, none⟩) hblt2]
      exact hc2 0 0 _ (by omega) rfl
    · rw [hW.below.cell (p := ⟨b2, off2 + 1, none⟩) hblt2]
      exact hc2 1 0 _ (by omega) rfl
  have HRest := Lib.hid (HV3.out.rest 2 hl2)
  clear hc2 HV3 hx2
  generalize two.drop 2 = down at *
  generalize two.length = m2 at *
  have K : Hid (KR w1.heap.size w1 [] w1) := Lib.hid (KR.start (Below.refl _ _) (Nat.le_refl _))
  have d0 : 0 < m2 := by omega
  have d1 : (1 : Int) < (m2 : Int) := by omega
  have d2 : (2 : Int) ≤ (m2 : Int) := by omega
  go_upto_region 6 with fail
  refine wp_region_noPanic ?_
  refine wp_region_G 8 (KR w1.heap.size w1 []) (by kernel_rfl) ?_
  change wpG _ _ _ _ _ 8 #[false, false, false, false, false, false, false, false] _ (World.drew _)
  replace K := Lib.hid K.out.drew
  refine wpG_pure (i := 0) (v := ?_) rfl (by kernel_rfl) (by kernel_rfl) (by kernel_rfl) (fun _ _ _ h => h) (Or.inl ⟨by rfl, ?_⟩) ?_
  rotate_left
  · (intro w_ hS; clear hS; go_simp; try with_reducible rfl)
  try simp only [List.getElem_toArray, List.getElem_cons_zero, List.getElem_cons_succ, Act.put, List.setIfInBounds_toArray, List.set_cons_zero, List.set_cons_succ]
  refine wpG_pure (i := 1) (v := ?_) rfl (by kernel_rfl) (by kernel_rfl) (by kernel_rfl) (fun _ _ _ h => h) (Or.inl ⟨by rfl, ?_⟩) ?_
  rotate_left
  · (intro w_ hS; clear hS; go_simp; try with_reducible rfl)
  try simp only [List.getElem_toArray, List.getElem_cons_zero, List.getElem_cons_succ, Act.put, List.setIfInBounds_toArray, List.set_cons_zero, List.set_cons_succ]
  refine wpG_pure (i := 2) (v := ?_) rfl (by kernel_rfl) (by kernel_rfl) (by kernel_rfl) (fun _ _ _ h => h) (Or.inl ⟨by rfl, ?_⟩) ?_
  rotate_left
  · (intro w_ hS; clear hS; go_simp; try with_reducible rfl)
  try simp only [List.getElem_toArray, List.getElem_cons_zero, List.getElem_cons_succ, Act.put, List.setIfInBounds_toArray, List.set_cons_zero, List.set_cons_succ]
  refine wpG_take (i := 3) (v := ?_) rfl (by kernel_rfl) (by kernel_rfl) (by kernel_rfl) (fun _ _ _ h => h) (Or.inl ⟨by rfl, ?_⟩) K.out ?_
  rotate_left
  · (intro w_ hS; have cq_ := H0.out _ hS; clear hS; go_simp; try with_reducible rfl)
  try simp only [List.getElem_toArray, List.getElem_cons_zero, List.getElem_cons_succ, Act.put, List.setIfInBounds_toArray, List.set_cons_zero, List.set_cons_succ]
  refine wpG_pure (i := 4) (v := ?_) rfl (by kernel_rfl) (by kernel_rfl) (by kernel_rfl) (fun _ _ _ h => h) (Or.inl ⟨by rfl, ?_⟩) ?_
  rotate_left
  · (intro w_ hS; clear hS; go_simp; try with_reducible rfl)
  try simp only [List.getElem_toArray, List.getElem_cons_zero, List.getElem_cons_succ, Act.put, List.setIfInBounds_toArray, List.set_cons_zero, List.set_cons_succ]
  refine wpG_pure (i := 5) (v := ?_) rfl (by kernel_rfl) (by kernel_rfl) (by kernel_rfl) (fun _ _ _ h => h) (Or.inl ⟨by rfl, ?_⟩) ?_
  rotate_left
  · (intro w_ hS; clear hS; go_simp; try with_reducible rfl)
  try simp only [List.getElem_toArray, List.getElem_cons_zero, List.getElem_cons_succ, Act.put, List.setIfInBounds_toArray, List.set_cons_zero, List.set_cons_succ]
  refine wpG_ready (i := 6) rfl (by kernel_rfl) (fun K_ hK => ?_)
  go_simp
  refine (Reach_any _ _ tb eb hb cv s (HT.out.below K.out.below (Nat.le_refl _)) HOk.out x0 _ down (HRest.out.below K.out.below (Nat.le_refl _))).mono ?_
  rintro x w3 ⟨va, rfl, hownA, hb3⟩
  replace K := Lib.hid (K.out.call hb3)
  refine hK.out _ _ (fun h_ _ => K.out) ?_
  clear hK K_
  try simp only [List.getElem_toArray, List.getElem_cons_zero, List.getElem_cons_succ, Act.put, List.setIfInBounds_toArray, List.set_cons_zero, List.set_cons_succ]
  refine wpG_pure (i := 7) (v := ?_) rfl (by kernel_rfl) (by kernel_rfl) (by kernel_rfl) (fun _ _ _ h => h) (Or.inl ⟨by rfl, ?_⟩) ?_
  rotate_left
  · (intro w_ hS; clear hS; go_simp; try with_reducible rfl)
  try simp only [List.getElem_toArray, List.getElem_cons_zero, List.getElem_cons_succ, Act.put, List.setIfInBounds_toArray, List.set_cons_zero, List.set_cons_succ]
  refine wpG_done (by kernel_rfl) ?_ _
  refine NoPanic.normal ?_
  have HA : Hid (ReadL w3 1 encI va (reachF s down x0)) := Lib.hid (ReadL.of_own hownA encI_len)
  have HT3 := Lib.hid (HT.out.below K.out.below (Nat.le_refl _))
  have HR3 := Lib.hid (HRest.out.below K.out.below (Nat.le_refl _))
  have H13 : Hid (∀ W : World, KR w3.heap.size w3 [] W → W.cell? ⟨b2, off2 + 1, none⟩ = some (.int .i64 x1)) := Lib.hid (fun W hW => by
    rw [hW.below.cell (p := ⟨b2, off2 + 1, none⟩) (Nat.lt_of_lt_of_le hblt2 K.out.size)]
    exact H1.out w3 K.out)
  have H03 : Hid (∀ W : World, KR w3.heap.size w3 [] W → W.cell? ⟨b2, off2, none⟩ = some (.int .i64 x0)) := Lib.hid (fun W hW => by
    rw [hW.below.cell (p := ⟨b2, off2, none⟩) (Nat.lt_of_lt_of_le hblt2 K.out.size)]
    exact H0.out w3 K.out)
  have HB3 := Lib.hid (HB.out.trans (K.out.below.mono HB.out.size))
  have hlt3 : b2 < w3.heap.size := Nat.lt_of_lt_of_le hblt2 K.out.size
  clear hownA hb3 HT HRest H0 H1 HB K hblt2
  have K : Hid (KR w3.heap.size w3 [] w3) := Lib.hid (KR.start (Below.refl _ _) (Nat.le_refl _))
  go_upto_region 7 with fail
  refine wp_region_noPanic ?_
  refine wp_region_G 8 (KR w3.heap.size w3 []) (by kernel_rfl) ?_
  change wpG _ _ _ _ _ 8 #[false, false, false, false, false, false, false, false] _ (World.drew _)
  replace K := Lib.hid K.out.drew
  refine wpG_pure (i := 0) (v := ?_) rfl (by kernel_rfl) (by kernel_rfl) (by kernel_rfl) (fun _ _ _ h => h) (Or.inl ⟨by rfl, ?_⟩) ?_
  rotate_left
  · (intro w_ hS; clear hS; go_simp; try with_reducible rfl)
  try simp only [List.getElem_toArray, List.getElem_cons_zero, List.getElem_cons_succ, Act.put, List.setIfInBounds_toArray, List.set_cons_zero, List.set_cons_succ]
  refine wpG_pure (i := 1) (v := ?_) rfl (by kernel_rfl) (by kernel_rfl) (by kernel_rfl) (fun _ _ _ h => h) (Or.inl ⟨by rfl, ?_⟩) ?_
  rotate_left
  · (intro w_ hS; clear hS; go_simp; try with_reducible rfl)
  try simp only [List.getElem_toArray, List.getElem_cons_zero, List.getElem_cons_succ, Act.put, List.setIfInBounds_toArray, List.set_cons_zero, List.set_cons_succ]
  refine wpG_pure (i := 2) (v := ?_) rfl (by kernel_rfl) (by kernel_rfl) (by kernel_rfl) (fun _ _ _ h => h) (Or.inl ⟨by rfl, ?_⟩) ?_
  rotate_left
  · (intro w_ hS; clear hS; go_simp; try with_reducible rfl)
  try simp only [List.getElem_toArray, List.getElem_cons_zero, List.getElem_cons_succ, Act.put, List.setIfInBounds_toArray, List.set_cons_zero, List.set_cons_succ]
  refine wpG_take (i := 3) (v := ?_) rfl (by kernel_rfl) (by kernel_rfl) (by kernel_rfl) (fun _ _ _ h => h) (Or.inl ⟨by rfl, ?_⟩) K.out ?_
  rotate_left
  · (intro w_ hS; have cq_ := H13.out _ hS; clear hS; go_simp; try with_reducible rfl)
  try simp only [List.getElem_toArray, List.getElem_cons_zero, List.getElem_cons_succ, Act.put, List.setIfInBounds_toArray, List.set_cons_zero, List.set_cons_succ]
  refine wpG_pure (i := 4) (v := ?_) rfl (by kernel_rfl) (by kernel_rfl) (by kernel_rfl) (fun _ _ _ h => h) (Or.inl ⟨by rfl, ?_⟩) ?_
  rotate_left
  · (intro w_ hS; clear hS; go_simp; try with_reducible rfl)
  try simp only [List.getElem_toArray, List.getElem_cons_zero, List.getElem_cons_succ, Act.put, List.setIfInBounds_toArray, List.set_cons_zero, List.set_cons_succ]
  refine wpG_pure (i := 5) (v := ?_) rfl (by kernel_rfl) (by kernel_rfl) (by kernel_rfl) (fun _ _ _ h => h) (Or.inl ⟨by rfl, ?_⟩) ?_
  rotate_left
  · (intro w_ hS; clear hS; go_simp; try with_reducible rfl)
  try simp only [List.getElem_toArray, List.getElem_cons_zero, List.getElem_cons_succ, Act.put, List.setIfInBounds_toArray, List.set_cons_zero, List.set_cons_succ]
  refine wpG_ready (i := 6) rfl (by kernel_rfl) (fun K_ hK => ?_)
  go_simp
  refine (Reach_any _ _ tb eb hb cv s (HT3.out.below K.out.below (Nat.le_refl _)) HOk.out x1 _ down (HR3.out.below K.out.below (Nat.le_refl _))).mono ?_
  rintro x w5 ⟨vb, rfl, hownB, hb5⟩
  replace K := Lib.hid (K.out.call hb5)
  refine hK.out _ _ (fun h_ _ => K.out) ?_
  clear hK K_
  try simp only [List.getElem_toArray, List.getElem_cons_zero, List.getElem_cons_succ, Act.put, List.setIfInBounds_toArray, List.set_cons_zero, List.set_cons_succ]
  refine wpG_pure (i := 7) (v := ?_) rfl (by kernel_rfl) (by kernel_rfl) (by kernel_rfl) (fun _ _ _ h => h) (Or.inl ⟨by rfl, ?_⟩) ?_
  rotate_left
  · (intro w_ hS; clear hS; go_simp; try with_reducible rfl)
  try simp only [List.getElem_toArray, List.getElem_cons_zero, List.getElem_cons_succ, Act.put, List.setIfInBounds_toArray, List.set_cons_zero, List.set_cons_succ]
  refine wpG_done (by kernel_rfl) ?_ _
  refine NoPanic.normal ?_
  have HBb : Hid (ReadL w5 1 encI vb (reachF s down x1)) := Lib.hid (ReadL.of_own hownB encI_len)
  have HA5 := Lib.hid (HA.out.below K.out.below (Nat.le_refl _))
  have H15 : Hid (∀ W : World, KR w5.heap.size w5 [] W → W.cell? ⟨b2, off2 + 1, none⟩ = some (.int .i64 x1)) := Lib.hid (fun W hW => by
    rw [hW.below.cell (p := ⟨b2, off2 + 1, none⟩) (Nat.lt_of_lt_of_le hlt3 K.out.size)]
    exact H13.out w5 K.out)
  have H05 : Hid (∀ W : World, KR w5.heap.size w5 [] W → W.cell? ⟨b2, off2, none⟩ = some (.int .i64 x0)) := Lib.hid (fun W hW => by
    rw [hW.below.cell (p := ⟨b2, off2, none⟩) (Nat.lt_of_lt_of_le hlt3 K.out.size)]
    exact H03.out w5 K.out)
  have HB5 := Lib.hid (HB3.out.trans (K.out.below.mono HB3.out.size))
  clear hownB hb5 HT3 HR3 H13 H03 HB3 K HA
  generalize (if cap2 = 2 then some (⟨b2, off2, none⟩ : Addr) else some ⟨b2, off2 + 2, none⟩) = sa at *
  have hboth := reach_both (down := down) HOk.out HSy.out x0 x1
  have HH1 : Hid (∀ W : World, KR w5.heap.size w5 [] W → Calls Try.prog 16 #[va, .int .i64 x1] W fun e w' => e = .returned (.bool ((reachF s down x0).contains x1)) ∧ Below W.heap.size W w') := Lib.hid (fun W hW =>
    (Has_any W va _ (HA5.out.below hW.below (Nat.le_refl _)) x1).mono (fun e w' ⟨h1, h2⟩ => ⟨h1, h2 ▸ Below.refl _ _⟩))
  have HH2 : Hid (∀ W : World, KR w5.heap.size w5 [] W → Calls Try.prog 16 #[vb, .int .i64 x0] W fun e w' => e = .returned (.bool ((reachF s down x0).contains x1)) ∧ Below W.heap.size W w') := Lib.hid (fun W hW =>
    (Has_any W vb _ (HBb.out.below hW.below (Nat.le_refl _)) x0).mono (fun e w' ⟨h1, h2⟩ => ⟨by rw [h1, hboth.1], h2 ▸ Below.refl _ _⟩))
  have HEq := Lib.hid hboth.2
  clear hboth HOk HSy
  generalize (reachF s down x0).contains x1 = cA at *
  generalize reachF s down x0 = la at *
  generalize reachF s down x1 = lb at *
  have K : Hid (KR w5.heap.size w5 [] w5) := Lib.hid (KR.start (Below.refl _ _) (Nat.le_refl _))
  have k1 := fun q : Keep (KR w5.heap.size w5 []) => H15.out q.w q.h
  have k2 := fun q : Keep (KR w5.heap.size w5 []) => H05.out q.w q.h
  cases cA
  · haveI : Nonempty (Keep (KR w5.heap.size w5 [])) := ⟨⟨_, K.out⟩⟩
    go_upto_region 8 with fail
    refine wp_region_keep2 (Cl := KR w5.heap.size w5 []) (by kernel_rfl) (by kernel_rfl) K.out.drew ?_
    intro y' hy'
    clear hy' K
    repeat
      first
        | (refine wpQ2_step (fun K hK => ?_)
           go_simp
           first
             | (refine hK _ ?_; clear hK K)
             | (apply Exists.intro
                refine ⟨fun _ => ?_, hK _ ?_⟩
                (rw [if_neg (by omega)]; exact ⟨rfl, rfl⟩)
                clear hK K)
             | (apply Exists.intro
                refine ⟨fun _ => ?_, hK _ ?_⟩
                ((with_reducible refine Calls.keep (HH1.out _ (Keep.h _)) ?_); exact (fun w' hb => KR.call (Keep.h _) hb))
                clear hK K)
             | (apply Exists.intro
                refine ⟨fun _ => ?_, hK _ ?_⟩
                ((with_reducible refine Calls.keep (HH2.out _ (Keep.h _)) ?_); exact (fun w' hb => KR.call (Keep.h _) hb))
                clear hK K))
    refine wpQ2_nil ?_
    intro Wk Kk
    have K := Lib.hid Kk
    clear Kk
    clear k1 k2
    have c1 := H15.out _ K.out
    go_wp2_with fail
    refine (HH1.out _ K.out).mono ?_
    rintro e w6 ⟨rfl, hb6⟩
    replace K := Lib.hid (K.out.call hb6)
    clear hb6 c1
    go_wp2_with fail
    refine (awake_any _).mono ?_
    rintro e w8 ⟨rfl, hb⟩
    replace K := Lib.hid (K.out.call hb)
    clear hb
    go_wp2_with fail
    go_ret
    exact ⟨rfl, HB5.out.trans (K.out.below.mono HB5.out.size)⟩
  · haveI : Nonempty (Keep (KR w5.heap.size w5 [])) := ⟨⟨_, K.out⟩⟩
    go_upto_region 8 with fail
    refine wp_region_keep2 (Cl := KR w5.heap.size w5 []) (by kernel_rfl) (by kernel_rfl) K.out.drew ?_
    intro y' hy'
    clear hy' K
    repeat
      first
        | (refine wpQ2_step (fun K hK => ?_)
           go_simp
           first
             | (refine hK _ ?_; clear hK K)
             | (apply Exists.intro
                refine ⟨fun _ => ?_, hK _ ?_⟩
                (rw [if_neg (by omega)]; exact ⟨rfl, rfl⟩)
                clear hK K)
             | (apply Exists.intro
                refine ⟨fun _ => ?_, hK _ ?_⟩
                ((with_reducible refine Calls.keep (HH1.out _ (Keep.h _)) ?_); exact (fun w' hb => KR.call (Keep.h _) hb))
                clear hK K)
             | (apply Exists.intro
                refine ⟨fun _ => ?_, hK _ ?_⟩
                ((with_reducible refine Calls.keep (HH2.out _ (Keep.h _)) ?_); exact (fun w' hb => KR.call (Keep.h _) hb))
                clear hK K))
    refine wpQ2_nil ?_
    intro Wk Kk
    have K := Lib.hid Kk
    clear Kk
    clear k1 k2
    have c1 := H15.out _ K.out
    have hab : la = lb := HEq.out rfl
    subst hab
    go_wp2_with fail
    refine (HH1.out _ K.out).mono ?_
    rintro e w6 ⟨rfl, hb6⟩
    replace K := Lib.hid (K.out.call hb6)
    clear hb6 c1 HEq
    go_wp2_with fail
    refine (nums_any w6 _ _ la la (HA5.out.below K.out.below (Nat.le_refl _)) (HBb.out.below K.out.below (Nat.le_refl _))).mono ?_
    rintro e w7 ⟨rfl, hb7⟩
    rw [decide_eq_true (rfl : la = la)]
    replace K := Lib.hid (K.out.call hb7)
    clear hb7
    go_wp2_with fail
    refine (awake_any _).mono ?_
    rintro e w8 ⟨rfl, hb⟩
    replace K := Lib.hid (K.out.call hb)
    clear hb
    go_wp2_with fail
    go_ret
    exact ⟨rfl, HB5.out.trans (K.out.below.mono HB5.out.size)⟩
end Go.Proofs.Ytggcmhjeflofmaa
