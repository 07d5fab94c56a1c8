/- The walk of FieldBack. -/
import Derived.Test.YtiolfccfkpggcaaFieldLaw
import Derived.Test.YtiolfccfkpggcaaAwake04
import Derived.Test.YtiolfccfkpggcaaSeenEq
import Derived.Test.YtiolfccfkpggcaaQuiet
namespace Go.Proofs.Ytiolfccfkpggcaa
open Go.RowKit
set_option linter.unusedVariables false

abbrev cellsSeen (x : Seen) : Array Value := #[.int .i64 x.fIn, .int .u64 x.fMeta, .int .u64 x.fP.fTo, .int .u64 x.fP.fFrom, .int .i64 x.fP.fVlan, .int .i64 x.fP.fType, .int .u32 x.fP.fSrc, .int .u32 x.fP.fDst, .int .i64 x.fP.fLife, .int .i64 x.fP.fProto, .int .i64 x.fP.fSport, .int .i64 x.fP.fDport, .string x.fP.fData]
set_option maxRecDepth 100000 in
theorem eq_Seen (s : Seen) (W : World) : (binOp .eql 27 (valSeen s) (valSeen s)).run Try.prog W = .ok (.bool true) W := by
  have h1 : Try.prog.stoodInHeld 27 = false := by kernel_rfl
  have h2 : Try.prog.stoodInHeld 25 = false := by kernel_rfl
  simp [go_sem, Try.underlying27, Try.underlying25, Try.underlying3, Try.underlying22, Try.underlying23, Try.underlying9, h1, h2]
set_option maxRecDepth 100000 in
theorem ne_Seen (s : Seen) (W : World) : (binOp .neq 27 (valSeen s) (valSeen s)).run Try.prog W = .ok (.bool false) W := by
  have h1 : Try.prog.stoodInHeld 27 = false := by kernel_rfl
  have h2 : Try.prog.stoodInHeld 25 = false := by kernel_rfl
  simp [go_sem, Try.underlying27, Try.underlying25, Try.underlying3, Try.underlying22, Try.underlying23, Try.underlying9, h1, h2]

set_option maxRecDepth 100000 in
set_option maxHeartbeats 8000000 in
theorem FieldBack_walk (w : World) (s : Seen) (ok : okSeen w s) (f : Int) (wff : (Lit.int .i64 f).wf = true) (v : Int) (wf : (Lit.int .u64 v).wf = true) :
    Calls Try.prog 7 #[valSeen s, .int .i64 f, .int .u64 v] w fun x w' => x = .returned (.bool true) ∧ Below w.heap.size w w' := by
  have hn := wf_u64 wf
  have hm := wf_u64 ok.2.1
  have HPu := Lib.hid (fun W => Put_any W s f v hn.1 hn.2)
  have HGs := Lib.hid (fun W g => Get_any W s g hm.1 (by omega))
  have HTm := Lib.hid (setF_meta s f v hn.1 hn.2 hm.1 hm.2)
  have HTr := Lib.hid (setF_rest s f v)
  have HPs := Lib.hid (fun W => Push_any W s v hn.1 hn.2)
  have HPg := Lib.hid (fun h => push_good s v hn.1 h)
  have HPb := Lib.hid (fun h => push_bad s v h)
  have HTb := Lib.hid (fun h => put_bad s f v h)
  have HTg := Lib.hid (fun h => put_good s f v h)
  have HTl := Lib.hid (fun hf hg g g1 g9 => setF_get s f v hn.1 hn.2 hf hg g g1 g9)
  have HN := Lib.hid hn
  have HM := Lib.hid hm
  clear hn hm wf wff ok
  generalize hte : putF s f v = te at HPu HTb HTg
  obtain ⟨t, e⟩ := te
  generalize hue : pushF s v = ue at HPs HPg HPb
  obtain ⟨u, q⟩ := ue
  have hte' := Lib.hid hte
  have hue' := Lib.hid hue
  clear hte hue
  by_cases he : e = 0
  · subst he
    obtain ⟨g1, g2, g3⟩ := HTg.out rfl
    have ht : t = setF s f v := (Prod.mk.inj g3).1
    have HTl2 := Lib.hid (fun g a b => HTl.out g1 g2 g a b)
    have hm2 := HTm.out
    have hr2 := HTr.out
    rw [← ht] at HTl2 hm2 hr2
    have HGt := Lib.hid (fun W g => Get_any W t g hm2.1 (by omega))
    obtain ⟨r1, r2, r3, r4⟩ := hr2
    have HR := Lib.hid (And.intro r1 (And.intro r2 (And.intro r3 r4)))
    clear g1 g2 g3 HTg HTb HTl HTm HTr ht hm2 r1 r2 r3 r4
    go_enter Try.func7, Try.ntmps7
    go_upto_region 1 with fail
    refine one_box_wp ?_
    intro W hb1 hbel hsz
    have K0 := Lib.hid ((KR.start hbel hbel.size).add hb1)
    clear hbel hb1 hsz
    go_wp2_with (first
      | (refine wpList_load_row rfl 27 _ rfl _ rfl _ _ (0, 0) _ (KR.at K0.out 0 rfl) Try.underlying27 rfl (by kernel_rfl) ?_)
      | fail)
    refine (HPu.out _).mono ?_
    rintro x w1 ⟨rfl, b⟩
    have K1 := Lib.hid (K0.out.call b)
    clear b K0
    go_upto_region 2 with fail
    refine one_box_wp ?_
    intro W1 hc b hsz
    have K2 := Lib.hid ((K1.out.call b).add hc)
    clear b hc hsz K1
    go_wp2_with fail
    go_loopw [9] (fun iv wr => ∃ k : Nat, 1 ≤ k ∧ k ≤ 10 ∧ iv = .int .i64 k ∧ Hid (KR w.heap.size w [(_, 27, cellsSeen t), (_, 27, cellsSeen s)] wr)) (fun iv _ => 10 - (intOf iv).toNat)
    case atStart => exact ⟨1, Nat.le_refl _, by decide, rfl, K2⟩
    case round =>
      obtain ⟨k, hk1, hk, rfl, K3⟩ := hrel
      clear K2
      by_cases hlt : k ≤ 9
      · have d1 : decide (k ≤ 9) = true := by simpa using hlt
        have Hk := Lib.hid (HTl2.out (k : Int) (by omega) (by omega))
        have HG1 := Lib.hid (fun W => HGs.out W (k : Int))
        have HG2 := Lib.hid (fun W => HGt.out W (k : Int))
        generalize getF s (k : Int) = x1 at Hk HG1
        generalize getF t (k : Int) = x2 at Hk HG2
        obtain ⟨a, h⟩ := x1
        obtain ⟨b, h'⟩ := x2
        have hh : h' = h := Hk.out.1
        subst hh
        by_cases hkf : (k : Int) = f
        · have hb : b = v := Hk.out.2.1 hkf
          have tk : ((k : Int) == f) = true := by simpa using hkf
          have tk2 : ((k : Int) != f) = false := by simp [hkf]
          rw [hb] at HG2
          clear Hk hkf hb
          go_wp2_with (first | (refine wpList_load_row rfl 27 _ rfl _ rfl _ _ (0, 0) _ (KR.at K3.out 1 rfl) Try.underlying27 rfl (by kernel_rfl) ?_) | fail)
          refine (HG1.out _).mono ?_
          rintro x w3 ⟨rfl, b3⟩
          have K4 := Lib.hid (K3.out.call b3)
          clear b3 K3 HG1
          go_wp2_with (first | (refine wpList_load_row rfl 27 _ rfl _ rfl _ _ (0, 0) _ (KR.at K4.out 0 rfl) Try.underlying27 rfl (by kernel_rfl) ?_) | fail)
          refine (HG2.out _).mono ?_
          rintro x w4 ⟨rfl, b4⟩
          have K5 := Lib.hid (K4.out.call b4)
          clear b4 K4 HG2
          go_wp2_with fail
          go_roundw
          case rel => exact ⟨k + 1, by omega, by omega, by go_num, K5⟩
          case measure => simp [intOf]; omega
        · have hb : b = a := Hk.out.2.2 hkf
          have tk : ((k : Int) == f) = false := beq_eq_false_iff_ne.mpr hkf
          have tk2 : ((k : Int) != f) = true := by simp [hkf]
          rw [hb] at HG2
          clear Hk hkf hb
          go_wp2_with (first | (refine wpList_load_row rfl 27 _ rfl _ rfl _ _ (0, 0) _ (KR.at K3.out 1 rfl) Try.underlying27 rfl (by kernel_rfl) ?_) | fail)
          refine (HG1.out _).mono ?_
          rintro x w3 ⟨rfl, b3⟩
          have K4 := Lib.hid (K3.out.call b3)
          clear b3 K3 HG1
          go_wp2_with (first | (refine wpList_load_row rfl 27 _ rfl _ rfl _ _ (0, 0) _ (KR.at K4.out 0 rfl) Try.underlying27 rfl (by kernel_rfl) ?_) | fail)
          refine (HG2.out _).mono ?_
          rintro x w4 ⟨rfl, b4⟩
          have K5 := Lib.hid (K4.out.call b4)
          clear b4 K4 HG2
          go_wp2_with fail
          go_roundw
          case rel => exact ⟨k + 1, by omega, by omega, by go_num, K5⟩
          case measure => simp [intOf]; omega
      · have d1 : decide (k ≤ 9) = false := by simpa using hlt
        clear HTl2 HGt
        have c1 := (KR.at K3.out 0 rfl)
        have c2 := (KR.at K3.out 1 rfl)
        obtain ⟨r1, r2, r3, r4⟩ := HR.out
        obtain ⟨a0, a1, a2, a3, a4, a5, a6, a7, a8, a9, a10, a11, a12⟩ := seen_cells c1
        obtain ⟨e0, e1, e2, e3, e4, e5, e6, e7, e8, e9, e10, e11, e12⟩ := seen_cells c2
        clear c1 c2
        by_cases hq : q = 0
        · subst hq
          obtain ⟨hv, hpop, hget, hme⟩ := HPg.out rfl
          have HPo := Lib.hid (fun W => Pop_any W u)
          have HGu := Lib.hid (fun W => Get_any W u 3 (by show 0 ≤ u.fMeta; have := HM.out; have hme' : u.fMeta = s.fMeta := hme; omega) (by have := HM.out; have hme' : u.fMeta = s.fMeta := hme; omega))
          change popF u = (s, 0) at hpop
          change getF u 3 = (4096 + v, 0) at hget
          rw [hpop] at HPo
          rw [hget] at HGu
          clear hpop hget hme HPg HPb hue'
          go_wp2_with (first | fail | fail)
          refine (HPs.out _).mono ?_
          rintro x w5 ⟨rfl, b⟩
          have K5 := Lib.hid (K3.out.call b)
          clear b K3
          go_upto_region 15 with fail
          refine one_box_wp ?_
          intro W5 hc b hsz
          have K6 := Lib.hid ((K5.out.call b).add hc)
          clear b hc hsz K5 HPs
          go_wp2_with (first | (refine wpList_load_row rfl 27 _ rfl _ rfl _ _ (0, 0) _ (KR.at K6.out 0 rfl) Try.underlying27 rfl (by kernel_rfl) ?_) | fail)
          refine (HPo.out _).mono ?_
          rintro x w6 ⟨rfl, b⟩
          have K7 := Lib.hid (K6.out.call b)
          clear b K6 HPo
          go_upto_region 18 with fail
          refine one_box_wp ?_
          intro W7 hc b hsz
          have K8 := Lib.hid ((K7.out.call b).add hc)
          clear b hc hsz K7
          go_wp2_with (first | (refine wpList_load_row rfl 27 _ rfl _ rfl _ _ (0, 0) _ (KR.at K8.out 1 rfl) Try.underlying27 rfl (by kernel_rfl) ?_) | fail)
          refine (HGu.out _).mono ?_
          rintro x w8 ⟨rfl, b⟩
          have K9 := Lib.hid (K8.out.call b)
          clear b K8 HGu
          have hadd : IntKind.u64.wrap (4096 + v) = 4096 + v := wrap_u64_id (by have := HN.out; omega) (by omega)
          have hqs := eq_Seen s
          clear HN HM hv
          have hb0 := KR.at K9.out 0 rfl
          have hb1 := KR.at K9.out 3 rfl
          go_wp2_with (first
            | (refine wpList_row 27 _ rfl (by rfl) _ _ rfl _ (run_loadVar_row _ _ _ 27 _ (0, 0) _ hb0 Try.underlying27 rfl (by kernel_rfl)) ?_)
            | (refine wpList_row 27 _ rfl (by rfl) _ _ rfl _ (run_loadVar_row _ _ _ 27 _ (0, 0) _ hb1 Try.underlying27 rfl (by kernel_rfl)) ?_)
            | fail)
          refine (awake04 _).mono ?_
          rintro x w9 ⟨rfl, b⟩
          have K10 := K9.out.call b
          go_wp2
          go_ret
          exact ⟨rfl, K10.below⟩
        · have hu0 := HPb.out hq
          replace hu0 : u = (⟨0, 0, ⟨0, 0, 0, 0, 0, 0, 0, 0, 0, 0, ByteArray.empty⟩⟩ : Seen) := hu0
          subst hu0
          have tq : (q == 0) = false := beq_eq_false_iff_ne.mpr hq
          have hqs := eq_Seen (⟨0, 0, ⟨0, 0, 0, 0, 0, 0, 0, 0, 0, 0, ByteArray.empty⟩⟩ : Seen)
          clear HPg HPb hue' hq HN HM
          go_wp2_with (first | fail | fail)
          refine (HPs.out _).mono ?_
          rintro x w5 ⟨rfl, b⟩
          have K5 := Lib.hid (K3.out.call b)
          clear b K3
          go_upto_region 15 with fail
          refine one_box_wp ?_
          intro W5 hc b hsz
          have K6 := Lib.hid ((K5.out.call b).add hc)
          clear b hc hsz K5 HPs
          have hb0 := KR.at K6.out 0 rfl
          go_wp2_with (first
            | (refine wpList_row 27 _ rfl (by rfl) _ _ rfl _ (run_loadVar_row _ _ _ 27 _ (0, 0) _ hb0 Try.underlying27 rfl (by kernel_rfl)) ?_)
            | fail)
          refine (awake04 _).mono ?_
          rintro x w9 ⟨rfl, b⟩
          have K10 := K6.out.call b
          go_wp2
          go_ret
          exact ⟨rfl, K10.below⟩
  · have ht0 := HTb.out he
    replace ht0 : t = (⟨0, 0, ⟨0, 0, 0, 0, 0, 0, 0, 0, 0, 0, ByteArray.empty⟩⟩ : Seen) := ht0
    subst ht0
    have te : (e == 0) = false := beq_eq_false_iff_ne.mpr he
    have hns := ne_Seen (⟨0, 0, ⟨0, 0, 0, 0, 0, 0, 0, 0, 0, 0, ByteArray.empty⟩⟩ : Seen)
    go_enter Try.func7, Try.ntmps7
    go_upto_region 1 with fail
    refine one_box_wp ?_
    intro W hb1 hbel hsz
    have K0 := Lib.hid ((KR.start hbel hbel.size).add hb1)
    clear hbel hb1 hsz
    go_wp2_with (first
      | (refine wpList_load_row rfl 27 _ rfl _ rfl _ _ (0, 0) _ (KR.at K0.out 0 rfl) Try.underlying27 rfl (by kernel_rfl) ?_)
      | fail)
    refine (HPu.out _).mono ?_
    rintro x w1 ⟨rfl, b⟩
    have K1 := Lib.hid (K0.out.call b)
    clear b K0
    go_upto_region 2 with fail
    refine one_box_wp ?_
    intro W1 hc b hsz
    have K2 := Lib.hid ((K1.out.call b).add hc)
    clear b hc hsz K1
    clear HTm HTr HTb HTg HTl hte' HGs
    by_cases hq : q = 0
    · subst hq
      obtain ⟨hv, hpop, hget, hme⟩ := HPg.out rfl
      have HPo := Lib.hid (fun W => Pop_any W u)
      have HGu := Lib.hid (fun W => Get_any W u 3 (by show 0 ≤ u.fMeta; have := HM.out; have hme' : u.fMeta = s.fMeta := hme; omega) (by have := HM.out; have hme' : u.fMeta = s.fMeta := hme; omega))
      change popF u = (s, 0) at hpop
      change getF u 3 = (4096 + v, 0) at hget
      rw [hpop] at HPo
      rw [hget] at HGu
      clear hpop hget hme HPg HPb hue'
      go_wp2_with (first | (refine wpList_load_row rfl 27 _ rfl _ rfl _ _ (0, 0) _ (KR.at K2.out 0 rfl) Try.underlying27 rfl (by kernel_rfl) ?_) | (refine wpList_load_row rfl 27 _ rfl _ rfl _ _ (0, 0) _ (KR.at K2.out 1 rfl) Try.underlying27 rfl (by kernel_rfl) ?_) | fail)
      refine (HPs.out _).mono ?_
      rintro x w5 ⟨rfl, b⟩
      have K5 := Lib.hid (K2.out.call b)
      clear b K2
      go_upto_region 15 with fail
      refine one_box_wp ?_
      intro W5 hc b hsz
      have K6 := Lib.hid ((K5.out.call b).add hc)
      clear b hc hsz K5 HPs
      go_wp2_with (first | (refine wpList_load_row rfl 27 _ rfl _ rfl _ _ (0, 0) _ (KR.at K6.out 0 rfl) Try.underlying27 rfl (by kernel_rfl) ?_) | fail)
      refine (HPo.out _).mono ?_
      rintro x w6 ⟨rfl, b⟩
      have K7 := Lib.hid (K6.out.call b)
      clear b K6 HPo
      go_upto_region 18 with fail
      refine one_box_wp ?_
      intro W7 hc b hsz
      have K8 := Lib.hid ((K7.out.call b).add hc)
      clear b hc hsz K7
      go_wp2_with (first | (refine wpList_load_row rfl 27 _ rfl _ rfl _ _ (0, 0) _ (KR.at K8.out 1 rfl) Try.underlying27 rfl (by kernel_rfl) ?_) | fail)
      refine (HGu.out _).mono ?_
      rintro x w8 ⟨rfl, b⟩
      have K9 := Lib.hid (K8.out.call b)
      clear b K8 HGu
      have hadd : IntKind.u64.wrap (4096 + v) = 4096 + v := wrap_u64_id (by have := HN.out; omega) (by omega)
      have hqs := eq_Seen s
      clear HN HM hv
      have hb0 := KR.at K9.out 0 rfl
      have hb1 := KR.at K9.out 3 rfl
      go_wp2_with (first
        | (refine wpList_row 27 _ rfl (by rfl) _ _ rfl _ (run_loadVar_row _ _ _ 27 _ (0, 0) _ hb0 Try.underlying27 rfl (by kernel_rfl)) ?_)
        | (refine wpList_row 27 _ rfl (by rfl) _ _ rfl _ (run_loadVar_row _ _ _ 27 _ (0, 0) _ hb1 Try.underlying27 rfl (by kernel_rfl)) ?_)
        | fail)
      refine (awake04 _).mono ?_
      rintro x w9 ⟨rfl, b⟩
      have K10 := K9.out.call b
      go_wp2
      go_ret
      exact ⟨rfl, K10.below⟩
    · have hu0 := HPb.out hq
      replace hu0 : u = (⟨0, 0, ⟨0, 0, 0, 0, 0, 0, 0, 0, 0, 0, ByteArray.empty⟩⟩ : Seen) := hu0
      subst hu0
      have tq : (q == 0) = false := beq_eq_false_iff_ne.mpr hq
      have hqs := eq_Seen (⟨0, 0, ⟨0, 0, 0, 0, 0, 0, 0, 0, 0, 0, ByteArray.empty⟩⟩ : Seen)
      clear HPg HPb hue' hq HN HM
      go_wp2_with (first | (refine wpList_load_row rfl 27 _ rfl _ rfl _ _ (0, 0) _ (KR.at K2.out 0 rfl) Try.underlying27 rfl (by kernel_rfl) ?_) | (refine wpList_load_row rfl 27 _ rfl _ rfl _ _ (0, 0) _ (KR.at K2.out 1 rfl) Try.underlying27 rfl (by kernel_rfl) ?_) | fail)
      refine (HPs.out _).mono ?_
      rintro x w5 ⟨rfl, b⟩
      have K5 := Lib.hid (K2.out.call b)
      clear b K2
      go_upto_region 15 with fail
      refine one_box_wp ?_
      intro W5 hc b hsz
      have K6 := Lib.hid ((K5.out.call b).add hc)
      clear b hc hsz K5 HPs
      have hb0 := KR.at K6.out 0 rfl
      go_wp2_with (first
        | (refine wpList_row 27 _ rfl (by rfl) _ _ rfl _ (run_loadVar_row _ _ _ 27 _ (0, 0) _ hb0 Try.underlying27 rfl (by kernel_rfl)) ?_)
        | fail)
      refine (awake04 _).mono ?_
      rintro x w9 ⟨rfl, b⟩
      have K10 := K6.out.call b
      go_wp2
      go_ret
      exact ⟨rfl, K10.below⟩
end Go.Proofs.Ytiolfccfkpggcaa
