/- A topology in memory: Reach. -/
import Derived.Test.YtggcmhjeflofmaaTopoI
namespace Go.Proofs.Ytggcmhjeflofmaa
open Go.RowKit Go.Maps
set_option linter.unusedVariables false
set_option linter.unusedSimpArgs false

theorem outer_some {s : TopS} {down : List Int} {f i : Nat} {out : List Int} (h : i < out.length) : outerR s down (f + 1) i out = outerR s down f (i + 1) (innerR s down out[i] (portsF s out[i]) out) := by
  simp [outerR, h]
theorem outer_none {s : TopS} {down : List Int} {f i : Nat} {out : List Int} (h : ¬ i < out.length) : outerR s down f i out = out := by
  cases f with
  | zero => rfl
  | succ f => simp [outerR, h]

theorem own_new (w : World) (x : Int) : OwnL (w.alloc (.cells #[.int .i64 x] 3)) w.heap.size 3 1 encI (.slice (some ⟨w.heap.size, 0, none⟩) 1 1) [x] :=
  ⟨rfl, .inr ⟨w.heap.size, 1, _, rfl, Nat.le_refl _, BlkAt.new w _ _, Nat.le_refl _, by simp [maxLen], rfl, rfl⟩⟩
set_option maxRecDepth 100000 in
set_option maxHeartbeats 8000000 in
theorem Reach_any (w : World) (B tb eb hb : Nat) (cv : Value) (s : TopS) (h : TopoW w B tb eb hb cv s) (hok : TopOk s) (sw : Int) (dv : Value) (down : List Int) (hd : ReadL w 1 encI dv down) :
    Calls Try.prog 14 #[ptr tb, .int .i64 sw, dv] w fun e w' => ∃ v, e = .returned v ∧ OwnL w' w.heap.size 3 1 encI v (reachF s down sw) ∧ Below w.heap.size w w' := by
  have HR : Hid (reachF s down sw = _) := Lib.hid (by unfold reachF; rfl)
  generalize reachF s down sw = R at *
  have c0 := h.tab.cell 0 _ rfl
  have HT := Lib.hid h
  have HOk := Lib.hid hok
  have HD := Lib.hid hd
  clear h hok hd
  have HB0 : Hid (Below w.heap.size w w) := Lib.hid (Below.refl _ _)
  by_cases h1 : sw < 1
  · have t1 : decide (sw < 1) = true := decide_eq_true h1
    have HR2 : Hid (R = []) := Lib.hid (by rw [HR.out, t1]; rfl)
    clear HR
    go_enter Try.func14, Try.ntmps14
    go_wp2_with fail
    go_ret
    exact ⟨_, rfl, by rw [HR2.out]; exact OwnL.nil _ _ _ _ _, HB0.out⟩
  have t1 : decide (sw < 1) = false := decide_eq_false h1
  by_cases h2 : s.size < sw
  · have t2 : decide (s.size < sw) = true := decide_eq_true h2
    have HR2 : Hid (R = []) := Lib.hid (by rw [HR.out, t1, t2]; rfl)
    clear HR
    go_enter Try.func14, Try.ntmps14
    go_wp2_with fail
    go_ret
    exact ⟨_, rfl, by rw [HR2.out]; exact OwnL.nil _ _ _ _ _, HB0.out⟩
  have t2 : decide (s.size < sw) = false := decide_eq_false h2
  have HR2 : Hid (R = sortI (outerR s down 40 0 [sw])) := Lib.hid (by rw [HR.out, t1, t2]; rfl)
  have HO0 : Hid (OutOk s [sw]) := Lib.hid ⟨by simp, fun x hx => by obtain rfl := List.mem_singleton.1 hx; omega⟩
  clear HR
  go_enter Try.func14, Try.ntmps14
  go_wp2_with fail
  clear c0 t1 t2 h1 h2
  have HB1 : Hid (Below w.heap.size w (w.alloc (.cells #[.int .i64 sw] 3))) := Lib.hid ((Below.refl w.heap.size w).alloc (Nat.le_refl _) _)
  have HOwn0 : Hid (OwnL (w.alloc (.cells #[.int .i64 sw] 3)) w.heap.size 3 1 encI (.slice (some ⟨w.heap.size, 0, none⟩) 1 1) [sw]) := Lib.hid (own_new w sw)
  clear HB0
  generalize w.alloc (.cells #[.int .i64 sw] 3) = w1 at *
  go_loopw [7, 8] (fun ov iv wr => ∃ (i : Nat) (out : List Int), iv = .int .i64 i ∧ Hid (OutOk s out) ∧ Hid (i ≤ out.length) ∧ Hid (outerR s down 40 0 [sw] = outerR s down (40 - i) i out) ∧ Hid (out ≠ []) ∧ Hid (Below w.heap.size w wr) ∧ Hid (OwnL wr w.heap.size 3 1 encI ov out)) (fun _ iv _ => 40 - (intOf iv).toNat)
  case atStart => exact ⟨0, [sw], rfl, HO0, Lib.hid (Nat.zero_le _), Lib.hid rfl, Lib.hid (by simp), HB1, HOwn0⟩
  case round =>
    obtain ⟨i, out, rfl, HO, HI, HE, HNe, HB, Hown⟩ := hrel
    clear HO0 HOwn0 HB1
    have hl32 := HO.out.len HOk.out
    obtain ⟨oa, oc, rfl, _, _⟩ := Hown.out.slice
    by_cases hlt : i < out.length
    · have d2 : decide (i < out.length) = true := decide_eq_true hlt
      have hcur := HO.out.2 _ (List.getElem_mem hlt)
      have HE2 : Hid (outerR s down 40 0 [sw] = outerR s down (40 - (i + 1)) (i + 1) (innerR s down out[i] (portsF s out[i]) out)) := Lib.hid (by
        rw [HE.out, show 40 - i = (40 - (i + 1)) + 1 from by omega, outer_some hlt])
      obtain ⟨g, cap, hv, hcell⟩ := own_slice Hown.out (by omega)
      cases hv
      have c0 := hcell i hlt
      have HC0 : Hid (out[i]? = some out[i]) := Lib.hid (List.getElem?_eq_getElem hlt)
      generalize out[i] = cur at *
      have hwf : wfI cur := wfI_of (by have := HOk.out.2.1; omega) (by have := HOk.out.2.1; omega)
      have HWf := Lib.hid hwf
      clear HE hcell hwf hcur
      go_wp2_with fail
      refine (Ports_any wr B tb eb hb cv s (HT.out.below HB.out (Nat.le_refl _)) cur HWf.out).mono ?_
      rintro e w2 ⟨pv, C, hC, rfl, hown2, hb2⟩
      obtain ⟨pa, pc, rfl, _, _⟩ := hown2.slice
      have hpl : (portsF s cur).length ≤ 16 := portsTo_len s cur 16
      have HPm : Hid (∀ x ∈ portsF s cur, 1 ≤ x ∧ x ≤ 16) := Lib.hid (fun x hx => portsTo_mem hx)
      have HP := Lib.hid (ReadL.of_own hown2 encI_len)
      have HPO := Lib.hid hown2
      have HC := Lib.hid hC
      have HB2 := Lib.hid (HB.out.trans (hb2.mono HB.out.size))
      have HOwn2 := Lib.hid (Hown.out.below hb2 (fun k hk => (Hown.out.block k hk).2))
      have HLtO := Lib.hid (Hown.out.block)
      clear hC hown2 hb2 HB Hown c0
      generalize portsF s cur = L at *
      have HL16 := Lib.hid hpl
      have HI32 := Lib.hid hl32
      have HLti := Lib.hid hlt
      have HN0 : Hid (∀ k, Value.ownBlock (.slice (some ⟨g, 0, none⟩) out.length oc) = some k → ∀ k', Value.ownBlock (.slice pa L.length pc) = some k' → k ≠ k') := Lib.hid (fun k hk k' hk' => by
        have := (HLtO.out k hk).2
        have := (HPO.out.block k' hk').1
        have := HC.out
        omega)
      clear hpl hl32 hlt HLtO HP
      go_wp2_with fail
      go_loopw [7, 43] (fun ov jv wq => ∃ (j : Nat) (o : List Int), jv = .int .i64 j ∧ Hid (j ≤ L.length) ∧ Hid (innerR s down cur L out = innerR s down cur (L.drop j) o) ∧ Hid (OutOk s o) ∧ Hid (o[i]? = some cur) ∧ Hid (Below w.heap.size w wq) ∧ Hid (OwnL wq w.heap.size 3 1 encI ov o) ∧ Hid (OwnL wq C 3 1 encI (.slice pa L.length pc) L) ∧ Hid (∀ k, ov.ownBlock = some k → ∀ k', Value.ownBlock (.slice pa L.length pc) = some k' → k ≠ k')) (fun _ jv _ => L.length - (intOf jv).toNat)
      case atStart => exact ⟨0, out, rfl, Lib.hid (Nat.zero_le _), Lib.hid rfl, HO, HC0, HB2, HOwn2, HPO, HN0⟩
      case round =>
        obtain ⟨j, o, rfl, HJ, HIn, HOq, HCq, HBq, Hownq, HPq, HDq⟩ := hrel
        clear HO HC0 HB2 HOwn2 HPO HN0
        obtain ⟨oa, oc, rfl, _, _⟩ := Hownq.out.slice
        have q16 := HL16.out
        have q32 := HI32.out
        have qlt := HLti.out
        have hio : i < o.length := (List.getElem?_eq_some_iff.1 HCq.out).1
        by_cases hj : j < L.length
        · have d3 : decide (j < L.length) = true := decide_eq_true hj
          have d5 : decide (i < o.length) = true := decide_eq_true hio
          obtain ⟨gp, cp, hvp, hcp⟩ := own_slice HPq.out (by omega)
          cases hvp
          have c1 := hcp j hj
          obtain ⟨g2, c2', hv2, hc2⟩ := own_slice Hownq.out (by omega)
          cases hv2
          have c2 := hc2 i hio
          rw [show o[i] = cur from (List.getElem?_eq_some_iff.1 HCq.out).2] at c2
          have hp := HPm.out _ (List.getElem_mem hj)
          have HS : Hid (innerR s down cur (L.drop j) o = innerR s down cur (L.drop (j + 1)) (if (decide (0 < (peerF s (cur, L[j])).1) && (!down.contains (peerF s (cur, L[j])).2.2 && !o.contains (peerF s (cur, L[j])).1)) = true then o ++ [(peerF s (cur, L[j])).1] else o)) := Lib.hid (by
            rw [List.drop_eq_getElem_cons hj]; rfl)
          have HPeer := Lib.hid (HOk.out.peer (cur, L[j]))
          generalize L[j] = p at *
          have hwp : wfI p := wfI_of (by omega) (by omega)
          have HWp := Lib.hid hwp
          clear hcp hc2 hp hwp
          go_wp2_with fail
          refine (Peer_any wr B tb eb hb cv s (HT.out.below HBq.out (Nat.le_refl _)) cur p HWf.out HWp.out).mono ?_
          rintro e w3 ⟨rfl, hb3⟩
          have HB3 := Lib.hid (HBq.out.trans (hb3.mono HBq.out.size))
          have Hown3 := Lib.hid (Hownq.out.below hb3 (fun k hk => (Hownq.out.block k hk).2))
          have HP3 := Lib.hid (HPq.out.below hb3 (fun k hk => (HPq.out.block k hk).2))
          clear hb3 c1 c2 HBq Hownq HPq HWp
          generalize peerF s (cur, p) = E at *
          obtain ⟨tt, pt, lk⟩ := E
          simp only at HS HPeer
          by_cases h0 : 0 < tt
          · have d4 : decide (0 < tt) = true := decide_eq_true h0
            have HD3 := Lib.hid (HD.out.below HB3.out (Nat.le_refl _))
            go_wp2_with fail
            refine (contains_any w3 dv down lk HD3.out).mono ?_
            rintro e w4 ⟨rfl, hw⟩
            subst hw
            cases hdn : down.contains lk
            · have HO3 := Lib.hid (ReadL.of_own Hown3.out encI_len)
              go_wp2_with fail
              refine (contains_any _ _ o tt HO3.out).mono ?_
              rintro e w5 ⟨rfl, hw⟩
              subst hw
              cases hcn : o.contains tt
              · have HS2 : Hid (innerR s down cur (L.drop j) o = innerR s down cur (L.drop (j + 1)) (o ++ [tt])) := Lib.hid (by rw [HS.out, d4, hdn, hcn]; rfl)
                have HOa := Lib.hid (HOq.out.app (by omega) HPeer.out hcn)
                have ho32 := HOq.out.len HOk.out
                clear HS hcn hdn HD3 HO3
                go_wp2_with (at_builtin; go_must (refine app_lies Hown3.out tt Try.underlying23 intInfo rfl (by decide) encI_len encI_one rfl rfl rfl rfl ?c1 ?c2 ?c3 ?_))
                case c1 => omega
                case c2 => omega
                case c3 => exact HB3.out.size
                intro g3 cap3 w6 hown6 hg6 hat6
                have HB6 := Lib.hid (below_grown HB3.out hg6 HB3.out.size Hown3.out)
                have HOwn6 : Hid (OwnL w6 w.heap.size 3 1 encI (.slice (some ⟨g3, 0, none⟩) (o.length + 1) cap3) (o ++ [tt])) := Lib.hid hown6
                have HP6 := Lib.hid (HP3.out.kept hg6 (.inr (fun e => HDq.out _ e.symm _ rfl rfl)))
                have HD6 : Hid (∀ k, Value.ownBlock (.slice (some ⟨g3, 0, none⟩) (o.length + 1) cap3) = some k → ∀ k', Value.ownBlock (.slice (some ⟨gp, 0, none⟩) L.length pc) = some k' → k ≠ k') := Lib.hid (fun k hk k' hk' => by
                  rcases hat6 with h | h
                  · exact HDq.out k (h.trans hk) k' hk'
                  · have := (HP3.out.block k' hk').2
                    have e : g3 = k := by simpa [Value.ownBlock] using hk
                    omega)
                have HC6 : Hid ((o ++ [tt])[i]? = some cur) := Lib.hid (by rw [List.getElem?_append_left hio]; exact HCq.out)
                clear hown6 hg6 hat6 HB3 Hown3 HP3 HDq HCq HOq HPeer
                go_wp2_with fail
                go_roundw
                case rel => exact ⟨j + 1, o ++ [tt], by go_num, Lib.hid (by omega), Lib.hid (by rw [HIn.out, HS2.out]), HOa, HC6, HB6, HOwn6, HP6, HD6⟩
                case measure => simp [intOf]; omega
              · have HS2 : Hid (innerR s down cur (L.drop j) o = innerR s down cur (L.drop (j + 1)) o) := Lib.hid (by rw [HS.out, d4, hdn, hcn]; rfl)
                clear HS hcn hdn HD3 HO3
                go_wp2_with fail
                go_roundw
                case rel => exact ⟨j + 1, o, by go_num, Lib.hid (by omega), Lib.hid (by rw [HIn.out, HS2.out]), HOq, HCq, HB3, Hown3, HP3, HDq⟩
                case measure => simp [intOf]; omega
            · have HS2 : Hid (innerR s down cur (L.drop j) o = innerR s down cur (L.drop (j + 1)) o) := Lib.hid (by rw [HS.out, d4, hdn]; rfl)
              clear HS hdn HD3
              go_wp2_with fail
              go_roundw
              case rel => exact ⟨j + 1, o, by go_num, Lib.hid (by omega), Lib.hid (by rw [HIn.out, HS2.out]), HOq, HCq, HB3, Hown3, HP3, HDq⟩
              case measure => simp [intOf]; omega
          · have d4 : decide (0 < tt) = false := decide_eq_false h0
            have HS2 : Hid (innerR s down cur (L.drop j) o = innerR s down cur (L.drop (j + 1)) o) := Lib.hid (by rw [HS.out, d4]; rfl)
            clear HS
            go_wp2_with fail
            go_roundw
            case rel => exact ⟨j + 1, o, by go_num, Lib.hid (by omega), Lib.hid (by rw [HIn.out, HS2.out]), HOq, HCq, HB3, Hown3, HP3, HDq⟩
            case measure => simp [intOf]; omega
        · have d3 : decide (j < L.length) = false := decide_eq_false hj
          have HE3 : Hid (outerR s down 40 0 [sw] = outerR s down (40 - (i + 1)) (i + 1) o) := Lib.hid (by
            rw [HE2.out, HIn.out, List.drop_eq_nil_of_le (by omega)]; rfl)
          clear HE2 HIn HPq HDq
          go_wp2_with fail
          go_roundw
          case rel => exact ⟨i + 1, o, by go_num, HOq, Lib.hid (by omega), HE3, Lib.hid (fun e => by rw [e] at hio; simp at hio), HBq, Hownq⟩
          case measure => have := HI32.out; have := HLti.out; simp [intOf]; omega
    · have d2 : decide (i < out.length) = false := decide_eq_false hlt
      have HR3 : Hid (R = sortI out) := Lib.hid (by rw [HR2.out, HE.out, outer_none hlt])
      clear HR2 HE
      go_wp2_with fail
      refine (sort_any wr w.heap.size _ out Hown.out HNe.out (by omega)).mono ?_
      rintro e w2 ⟨rfl, hown2, hg⟩
      have HB2 := Lib.hid (below_grown HB.out hg HB.out.size Hown.out)
      have HO2 := Lib.hid hown2
      clear hown2 hg
      go_wp2_with fail
      go_ret
      exact ⟨_, rfl, by rw [HR3.out]; exact HO2.out, HB2.out⟩
end Go.Proofs.Ytggcmhjeflofmaa
