/- TopoMakes: which switches, hosts and links there are, or that there may not be such. -/
import Derived.Test.YtggcmhjeflofmaaTopoAC
import Derived.Test.YtggcmhjeflofmaaLaw14e
namespace Go.Proofs.Ytggcmhjeflofmaa
open Go.RowKit Go.Maps
set_option linter.unusedVariables false
set_option linter.unusedSimpArgs false

set_option maxRecDepth 100000 in
set_option maxHeartbeats 8000000 in
theorem TopoMakes_walk (w : World) (n : Int) (wn : (Lit.int .i64 n).wf = true) (v : Value) (l : List Link) (hv : ReadL w 5 encLink v l) (okl : ∀ x ∈ l, okLink w x) (port : Int) (wp : (Lit.int .i64 port).wf = true) :
    Calls Try.prog 8 #[.int .i64 n, v, .int .i64 port] w fun x w' => x = .returned (.bool true) ∧ Below w.heap.size w w' := by
  have HV := Lib.hid hv
  have HWp : Hid (wfI port) := Lib.hid wp
  obtain ⟨a, cap, rfl, hcap, hmax⟩ := hv.slice
  clear hv okl wn wp
  unfold maxLen at hmax
  by_cases hx : (100 : Int) < l.length
  · have t1 : decide ((100 : Int) < (l.length : Int)) = true := decide_eq_true hx
    go_enter Try.func8, Try.ntmps8
    go_wp2_with fail
    refine (awake_any _).mono ?_
    rintro e w8 ⟨rfl, hb⟩
    have HB := Lib.hid hb
    clear hb
    go_wp2_with fail
    go_ret
    exact ⟨rfl, HB.out⟩
  have t1 : decide ((100 : Int) < (l.length : Int)) = false := decide_eq_false hx
  have HRp := Lib.hid (newF_rep (size := n) (l := l))
  clear hx
  go_enter Try.func8, Try.ntmps8
  go_wp2_with fail
  refine (New_any w n _ l HV.out).mono ?_
  rintro e w1 ⟨hb1, hr1⟩
  have HB := Lib.hid hb1
  have HN := Lib.hid (rNew_any w1 n _ l (HV.out.below hb1 (Nat.le_refl _)))
  clear hb1 t1 HV
  rcases hr1 with ⟨h0, rfl⟩ | ⟨s, tb, eb, hb, cv, h0, rfl, hT⟩
  · have hF : rNewF n l = false := by rw [← HRp.out.1, h0]; rfl
    rw [hF] at HN
    clear HRp h0 hF
    go_wp2_with fail
    refine HN.out.mono ?_
    rintro e w2 ⟨hb2, hr2⟩
    have HB2 := Lib.hid (HB.out.trans (hb2.mono HB.out.size))
    rcases hr2 with ⟨_, rfl⟩ | ⟨h, _⟩
    · clear hb2 HN HB
      go_wp2_with fail
      refine (awake_any _).mono ?_
      rintro e w8 ⟨rfl, hb⟩
      replace HB2 := Lib.hid (HB2.out.trans (hb.mono HB2.out.size))
      clear hb
      go_wp2_with fail
      go_ret
      exact ⟨rfl, HB2.out⟩
    · cases h
  have hF : rNewF n l = true := by rw [← HRp.out.1, h0]; rfl
  rw [hF] at HN
  have HRep := Lib.hid (HRp.out.2 s h0)
  have hri := newF_right h0
  have hz1 := hri.2.1
  have hz2 := hri.2.2.1
  have HLen := Lib.hid hri.2.2.2
  have HSz := Lib.hid (newF_ok h0).2
  have HHl := Lib.hid (hosts_len h0)
  have HHe := Lib.hid (hosts_eq h0)
  have HT := Lib.hid hT
  clear h0 hT hF HRp hri
  go_wp2_with fail
  refine HN.out.mono ?_
  rintro e w2 ⟨hb2, hr2⟩
  have HB2 := Lib.hid (HB.out.trans (hb2.mono HB.out.size))
  have HT2 := Lib.hid (HT.out.below hb2 (Nat.le_refl _))
  rcases hr2 with ⟨h, _⟩ | ⟨_, rb, lv, rfl, hR⟩
  · cases h
  have HR2 := Lib.hid hR
  clear hb2 hR HT HB HN
  go_wp2_with fail
  go_loopw [11] (fun sv wr => ∃ sw : Int, -2 ≤ sw ∧ sw ≤ n + 2 ∧ sv = .int .i64 sw ∧ Hid (Below w2.heap.size w2 wr)) (fun sv _ => (n + 2 - intOf sv).toNat)
  case atStart => exact ⟨-2, by omega, by omega, rfl, Lib.hid (Below.refl _ _)⟩
  case round =>
    obtain ⟨sw, hs1, hs2, rfl, HBr⟩ := hrel
    have cr0 := ((HR2.out.below HBr.out (Nat.le_refl _)).1).cell 0 _ rfl
    by_cases hlt : sw ≤ n + 1
    · have d2 : decide (sw ≤ n + 1) = true := decide_eq_true hlt
      have HP := Lib.hid (Peer_any wr _ tb eb hb cv s (HT2.out.below HBr.out (Nat.le_refl _)) sw port (wfI_of (by omega) (by omega)) HWp.out)
      rw [peerF_rep HRep.out] at HP
      have HRP : Hid (∀ W : World, Below w2.heap.size w2 W → _) := Lib.hid (fun W hW => rPeer_any W rb lv n l (HR2.out.below hW (Nat.le_refl _)) HLen.out sw port)
      generalize rPeerF l (sw, port) = R at *
      obtain ⟨r1, r2, r3⟩ := R
      simp only at HP HRP
      go_wp2_with fail
      refine HP.out.mono ?_
      rintro e w3 ⟨rfl, hb3⟩
      have HB3 := Lib.hid (HBr.out.trans (hb3.mono HBr.out.size))
      clear hb3 HP cr0 HBr
      go_wp2_with fail
      refine (HRP.out w3 HB3.out).mono ?_
      rintro e w4 ⟨rfl, hb4⟩
      have HB4 := Lib.hid (HB3.out.trans (hb4.mono HB3.out.size))
      clear hb4 HRP HB3
      go_wp2_with fail
      refine (Ports_any w4 _ tb eb hb cv s (HT2.out.below HB4.out (Nat.le_refl _)) sw (wfI_of (by omega) (by omega))).mono ?_
      rintro e w5 ⟨pv, C, hC, rfl, hown, hb5⟩
      have HB5 := Lib.hid (HB4.out.trans (hb5.mono HB4.out.size))
      have HPl := Lib.hid (ReadL.of_own hown encI_len)
      clear hb5 hown HB4 hC
      go_wp2_with fail
      refine (rPorts_any w5 rb lv n l (HR2.out.below HB5.out (Nat.le_refl _)) HLen.out sw).mono ?_
      rintro e w6 ⟨qv, C2, hC2, rfl, hown, hb6⟩
      have HB6 := Lib.hid (HB5.out.trans (hb6.mono HB5.out.size))
      have HPl2 := Lib.hid (HPl.out.below hb6 (Nat.le_refl _))
      have HQl := Lib.hid (ReadL.of_own hown encI_len)
      clear hb6 hown HB5 HPl hC2
      go_wp2_with fail
      refine (nums_same w6 pv qv _ _ HPl2.out HQl.out (ports_eq HRep.out sw 16)).mono ?_
      rintro e w7 ⟨rfl, hb7⟩
      have HB7 := Lib.hid (HB6.out.trans (hb7.mono HB6.out.size))
      clear hb7 HB6 HPl2 HQl
      go_wp2_with fail
      go_roundw
      case rel => exact ⟨sw + 1, by omega, by omega, by go_num, HB7⟩
      case measure => simp [intOf]; omega
    · have d2 : decide (sw ≤ n + 1) = false := decide_eq_false hlt
      have HBw := Lib.hid (HB2.out.trans (HBr.out.mono HB2.out.size))
      have HTr := Lib.hid (HT2.out.below HBr.out (Nat.le_refl _))
      have HRr := Lib.hid (HR2.out.below HBr.out (Nat.le_refl _))
      have HN0 : Hid (∀ W : World, KR wr.heap.size wr [] W → W.cell? ⟨rb, 0, none⟩ = some (.int .i64 n)) := Lib.hid (fun W hW => ((HRr.out.below hW.below (Nat.le_refl _)).1).cell 0 _ rfl)
      have HSc : Hid (∀ W : World, KR wr.heap.size wr [] W → Calls Try.prog 17 #[ptr tb] W fun e w' => e = .returned (.int .i64 n) ∧ Below W.heap.size W w') := Lib.hid (fun W hW => by
        have := Size_any W _ tb eb hb cv s (HTr.out.below hW.below (Nat.le_refl _))
        rw [HSz.out] at this
        exact this)
      have K : Hid (KR wr.heap.size wr [] wr) := Lib.hid (KR.start (Below.refl _ _) (Nat.le_refl _))
      clear HBr HT2 HR2 HB2 hlt
      go_upto_region 16 with fail
      refine wp_region_noPanic ?_
      refine wp_region_G 18 (KR wr.heap.size wr []) (by kernel_rfl) ?_
      change wpG _ _ _ _ _ 18 #[false, false, false, false, false, false, false, false, false, false, false, false, false, false, false, false, false, false] _ (World.drew _)
      replace K := Lib.hid K.out.drew
      refine wpG_pure (i := 0) (v := ?_) rfl (by kernel_rfl) (by kernel_rfl) (by kernel_rfl) (fun _ _ _ h => h) (Or.inl ⟨by rfl, ?_⟩) ?_
      rotate_left
      · (intro w_ hS; clear hS; go_simp; try with_reducible rfl)
      try simp only [List.getElem_toArray, List.getElem_cons_zero, List.getElem_cons_succ, Act.put, List.setIfInBounds_toArray, List.set_cons_zero, List.set_cons_succ]
      refine wpG_pure (i := 2) (v := ?_) rfl (by kernel_rfl) (by kernel_rfl) (by kernel_rfl) (fun _ _ _ h => h) (Or.inl ⟨by rfl, ?_⟩) ?_
      rotate_left
      · (intro w_ hS; clear hS; go_simp; try with_reducible rfl)
      try simp only [List.getElem_toArray, List.getElem_cons_zero, List.getElem_cons_succ, Act.put, List.setIfInBounds_toArray, List.set_cons_zero, List.set_cons_succ]
      refine wpG_pure (i := 3) (v := ?_) rfl (by kernel_rfl) (by kernel_rfl) (by kernel_rfl) (fun _ _ _ h => h) (Or.inl ⟨by rfl, ?_⟩) ?_
      rotate_left
      · (intro w_ hS; clear hS; go_simp; try with_reducible rfl)
      try simp only [List.getElem_toArray, List.getElem_cons_zero, List.getElem_cons_succ, Act.put, List.setIfInBounds_toArray, List.set_cons_zero, List.set_cons_succ]
      refine wpG_pure (i := 4) (v := ?_) rfl (by kernel_rfl) (by kernel_rfl) (by kernel_rfl) (fun _ _ _ h => h) (Or.inl ⟨by rfl, ?_⟩) ?_
      rotate_left
      · (intro w_ hS; clear hS; go_simp; try with_reducible rfl)
      try simp only [List.getElem_toArray, List.getElem_cons_zero, List.getElem_cons_succ, Act.put, List.setIfInBounds_toArray, List.set_cons_zero, List.set_cons_succ]
      refine wpG_take (i := 5) (v := ?_) rfl (by kernel_rfl) (by kernel_rfl) (by kernel_rfl) (fun _ _ _ h => h) (Or.inl ⟨by rfl, ?_⟩) K.out ?_
      rotate_left
      · (intro w_ hS; have cq_ := HN0.out _ hS; clear hS; go_simp; try with_reducible rfl)
      try simp only [List.getElem_toArray, List.getElem_cons_zero, List.getElem_cons_succ, Act.put, List.setIfInBounds_toArray, List.set_cons_zero, List.set_cons_succ]
      refine wpG_ready (i := 1) rfl (by kernel_rfl) (fun K_ hK => ?_)
      go_simp
      refine (HSc.out _ K.out).mono ?_
      rintro x w3 ⟨rfl, hb3⟩
      replace K := Lib.hid (K.out.call hb3)
      refine hK.out _ _ (fun h_ _ => K.out) ?_
      clear hK K_
      try simp only [List.getElem_toArray, List.getElem_cons_zero, List.getElem_cons_succ, Act.put, List.setIfInBounds_toArray, List.set_cons_zero, List.set_cons_succ]
      refine wpG_pure (i := 6) (v := ?_) rfl (by kernel_rfl) (by kernel_rfl) (by kernel_rfl) (fun _ _ _ h => h) (Or.inl ⟨by rfl, ?_⟩) ?_
      rotate_left
      · (intro w_ hS; clear hS; go_simp; try with_reducible rfl)
      try simp only [List.getElem_toArray, List.getElem_cons_zero, List.getElem_cons_succ, Act.put, List.setIfInBounds_toArray, List.set_cons_zero, List.set_cons_succ]
      refine wpG_pure (i := 7) (v := ?_) rfl (by kernel_rfl) (by kernel_rfl) (by kernel_rfl) (fun _ _ _ h => h) (Or.inl ⟨by rfl, ?_⟩) ?_
      rotate_left
      · (intro w_ hS; clear hS; go_simp; try with_reducible rfl)
      try simp only [List.getElem_toArray, List.getElem_cons_zero, List.getElem_cons_succ, Act.put, List.setIfInBounds_toArray, List.set_cons_zero, List.set_cons_succ]
      refine wpG_pure (i := 8) (v := ?_) rfl (by kernel_rfl) (by kernel_rfl) (by kernel_rfl) (fun _ _ _ h => h) (Or.inl ⟨by rfl, ?_⟩) ?_
      rotate_left
      · (intro w_ hS; clear hS; go_simp; try with_reducible rfl)
      try simp only [List.getElem_toArray, List.getElem_cons_zero, List.getElem_cons_succ, Act.put, List.setIfInBounds_toArray, List.set_cons_zero, List.set_cons_succ]
      refine wpG_pure (i := 10) (v := ?_) rfl (by kernel_rfl) (by kernel_rfl) (by kernel_rfl) (fun _ _ _ h => h) (Or.inl ⟨by rfl, ?_⟩) ?_
      rotate_left
      · (intro w_ hS; clear hS; go_simp; try with_reducible rfl)
      try simp only [List.getElem_toArray, List.getElem_cons_zero, List.getElem_cons_succ, Act.put, List.setIfInBounds_toArray, List.set_cons_zero, List.set_cons_succ]
      refine wpG_ready (i := 9) rfl (by kernel_rfl) (fun K_ hK => ?_)
      go_simp
      refine (Hosts_any _ _ tb eb hb cv s (HTr.out.below K.out.below (Nat.le_refl _)) HHl.out).mono ?_
      rintro x w4 ⟨va, Ca, hCa, rfl, hownA, hb4⟩
      replace K := Lib.hid (K.out.call hb4)
      refine hK.out _ _ (fun h_ _ => K.out) ?_
      clear hK K_
      try simp only [List.getElem_toArray, List.getElem_cons_zero, List.getElem_cons_succ, Act.put, List.setIfInBounds_toArray, List.set_cons_zero, List.set_cons_succ]
      refine wpG_ready (i := 11) rfl (by kernel_rfl) (fun K_ hK => ?_)
      go_simp
      refine (rHosts_any _ rb lv n l (HRr.out.below K.out.below (Nat.le_refl _)) HLen.out).mono ?_
      rintro x w5 ⟨vb, Cb, hCb, rfl, hownB, hb5⟩
      replace K := Lib.hid (K.out.call hb5)
      refine hK.out _ _ (fun h_ _ => K.out) ?_
      clear hK K_
      try simp only [List.getElem_toArray, List.getElem_cons_zero, List.getElem_cons_succ, Act.put, List.setIfInBounds_toArray, List.set_cons_zero, List.set_cons_succ]
      refine wpG_ready (i := 12) rfl (by kernel_rfl) (fun K_ hK => ?_)
      go_simp
      refine (nums_same _ va vb _ _ ((ReadL.of_own hownA encI_len).below hb5 (Nat.le_refl _)) (ReadL.of_own hownB encI_len) HHe.out).mono ?_
      rintro x w6 ⟨rfl, hb6⟩
      replace K := Lib.hid (K.out.call hb6)
      refine hK.out _ _ (fun h_ _ => K.out) ?_
      clear hK K_
      try simp only [List.getElem_toArray, List.getElem_cons_zero, List.getElem_cons_succ, Act.put, List.setIfInBounds_toArray, List.set_cons_zero, List.set_cons_succ]
      refine wpG_pure (i := 13) (v := ?_) rfl (by kernel_rfl) (by kernel_rfl) (by kernel_rfl) (fun _ _ _ h => h) (Or.inl ⟨by rfl, ?_⟩) ?_
      rotate_left
      · (intro w_ hS; clear hS; go_simp; try with_reducible rfl)
      try simp only [List.getElem_toArray, List.getElem_cons_zero, List.getElem_cons_succ, Act.put, List.setIfInBounds_toArray, List.set_cons_zero, List.set_cons_succ]
      refine wpG_pure (i := 14) (v := ?_) rfl (by kernel_rfl) (by kernel_rfl) (by kernel_rfl) (fun _ _ _ h => h) (Or.inl ⟨by rfl, ?_⟩) ?_
      rotate_left
      · (intro w_ hS; clear hS; go_simp; try with_reducible rfl)
      try simp only [List.getElem_toArray, List.getElem_cons_zero, List.getElem_cons_succ, Act.put, List.setIfInBounds_toArray, List.set_cons_zero, List.set_cons_succ]
      refine wpG_ready (i := 15) rfl (by kernel_rfl) (fun K_ hK => ?_)
      go_simp
      refine (awake_any _).mono ?_
      rintro x w7 ⟨rfl, hb7⟩
      replace K := Lib.hid (K.out.call hb7)
      refine hK.out _ _ (fun h_ _ => K.out) ?_
      clear hK K_
      try simp only [List.getElem_toArray, List.getElem_cons_zero, List.getElem_cons_succ, Act.put, List.setIfInBounds_toArray, List.set_cons_zero, List.set_cons_succ]
      refine wpG_pure (i := 16) (v := ?_) rfl (by kernel_rfl) (by kernel_rfl) (by kernel_rfl) (fun _ _ _ h => h) (Or.inl ⟨by rfl, ?_⟩) ?_
      rotate_left
      · (intro w_ hS; clear hS; go_simp; try with_reducible rfl)
      try simp only [List.getElem_toArray, List.getElem_cons_zero, List.getElem_cons_succ, Act.put, List.setIfInBounds_toArray, List.set_cons_zero, List.set_cons_succ]
      refine wpG_pure (i := 17) (v := ?_) rfl (by kernel_rfl) (by kernel_rfl) (by kernel_rfl) (fun _ _ _ h => h) (Or.inl ⟨by rfl, ?_⟩) ?_
      rotate_left
      · (intro w_ hS; clear hS; go_simp; try with_reducible rfl)
      try simp only [List.getElem_toArray, List.getElem_cons_zero, List.getElem_cons_succ, Act.put, List.setIfInBounds_toArray, List.set_cons_zero, List.set_cons_succ]
      refine wpG_done (by kernel_rfl) ?_ _
      refine NoPanic.normal ?_
      go_wp2_with fail
      go_ret
      exact ⟨rfl, HBw.out.trans (K.out.below.mono HBw.out.size)⟩
end Go.Proofs.Ytggcmhjeflofmaa
