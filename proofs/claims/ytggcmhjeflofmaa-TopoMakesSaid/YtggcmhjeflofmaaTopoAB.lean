/- The reference of topologies: Peer, Ports, Hosts. -/
import Derived.Test.YtggcmhjeflofmaaTopoX
import Derived.Test.YtggcmhjeflofmaaTopoS
import Derived.Test.YtggcmhjeflofmaaTopoO
import Derived.Test.YtggcmhjeflofmaaTopoU
namespace Go.Proofs.Ytggcmhjeflofmaa
open Go.RowKit Go.Maps
set_option linter.unusedVariables false
set_option linter.unusedSimpArgs false

def hopO : Option Hop → Int × Int × Int
  | some e => (e.1.1, e.1.2, e.2)
  | none => (0, 0, 0)
def rPeerF (l : List Link) (p : Place) : Int × Int × Int := hopO (peerO l 0 p)
theorem peerF_rep {s : TopS} {l : List Link} (h : Rep s l) (p : Place) : peerF s p = rPeerF l p := by
  unfold peerF rPeerF
  rw [h.ends]
  cases peerO l 0 p <;> rfl
theorem peerO_drop {l : List Link} {k : Nat} {p : Place} (hk : k < l.length) : peerO (l.drop k) k p = if matchL l[k] p = true then some (destL l[k] p, (k : Int) + 1) else peerO (l.drop (k + 1)) (k + 1) p := by
  rw [List.drop_eq_getElem_cons hk]
  rfl

set_option maxRecDepth 100000 in
set_option maxHeartbeats 8000000 in
theorem rPeer_any (w : World) (rb : Nat) (lv : Value) (n : Int) (l : List Link) (h : RefW w rb lv n l) (hl : l.length ≤ 64) (sw port : Int) :
    Calls Try.prog 24 #[ptr rb, .int .i64 sw, .int .i64 port] w fun e w' => e = .returned (.tuple #[.int .i64 (rPeerF l (sw, port)).1, .int .i64 (rPeerF l (sw, port)).2.1, .int .i64 (rPeerF l (sw, port)).2.2]) ∧ Below w.heap.size w w' := by
  obtain ⟨hb1, a, cap, rfl, hcap, hmax, hc⟩ := h
  have HBk := Lib.hid hb1
  have HC := Lib.hid hc
  have HR : Hid (rPeerF l (sw, port) = hopO (peerO (l.drop 0) 0 (sw, port))) := Lib.hid rfl
  generalize rPeerF l (sw, port) = R at *
  obtain ⟨r1, r2, r3⟩ := R
  simp only
  clear hb1 hc
  have K0 : Hid (KR w.heap.size w [] w) := Lib.hid (KR.start (Below.refl _ _) (Nat.le_refl _))
  go_enter Try.func24, Try.ntmps24
  go_wp2_with fail
  go_loopw [9] (fun iv wr => ∃ k : Nat, k ≤ l.length ∧ iv = .int .i64 k ∧ Hid ((r1, r2, r3) = hopO (peerO (l.drop k) k (sw, port))) ∧ Hid (KR w.heap.size w [] wr)) (fun iv _ => l.length - (intOf iv).toNat)
  case atStart => exact ⟨0, Nat.zero_le _, rfl, HR, K0⟩
  case round =>
    obtain ⟨k, hk, rfl, HRk, K⟩ := hrel
    clear HR K0
    have c1 := (HBk.out.below K.out.below HBk.out.lt).cell 1 _ rfl
    by_cases hlt : k < l.length
    · have d2 : decide (k < l.length) = true := by simpa using hlt
      rcases HC.out with hnil | ⟨b, off, rfl, hblt, hcell⟩
      · rw [hnil] at hlt; simp at hlt
      have r1' := range_of hcell K.out.below hblt k hlt
      have HRx : Hid ((r1, r2, r3) = hopO (if matchL l[k] (sw, port) = true then some (destL l[k] (sw, port), (k : Int) + 1) else peerO (l.drop (k + 1)) (k + 1) (sw, port))) := Lib.hid (by rw [HRk.out, peerO_drop hlt])
      clear HRk hcell
      generalize l[k] = x at *
      obtain ⟨x1, x2, x3, x4, x5⟩ := x
      simp only [encLink] at r1'
      have HM : Hid (matchL ⟨x1, x2, x3, x4, x5⟩ (sw, port) = (((x1 == sw) && (x2 == port)) || ((x3 == sw) && (decide (0 < x3) && (x4 == port))))) := Lib.hid (by
        unfold matchL
        rw [Bool.eq_iff_iff]
        simp)
      have HD : Hid (destL ⟨x1, x2, x3, x4, x5⟩ (sw, port) = if ((x1 == sw) && (x2 == port)) = true then (x3, x4) else (x1, x2)) := Lib.hid (by
        unfold destL
        simp)
      generalize matchL ⟨x1, x2, x3, x4, x5⟩ (sw, port) = M at *
      generalize destL ⟨x1, x2, x3, x4, x5⟩ (sw, port) = D at *
      go_wp2_with (first
        | (refine wpList_load_mid rfl 52 _ rfl _ _ rfl _ _ r1' Try.underlying52 rfl (by kernel_rfl) ?_)
        | (refine wpList_store_row rfl 52 _ _ rfl _ rfl #[.int .i64 x1, .int .i64 x2, .int .i64 x3, .int .i64 x4, .float .f64 x5] rfl _ _ ((K.out.box _ _).at 0 rfl) rfl (by kernel_rfl) (by simp [Value.oneCell']) ?_)
        | fail)
      intro Wi hbi hbari
      replace K := Lib.hid (K.out.into hbari hbi)
      clear hbi hbari r1' c1
      generalize wr.heap.size = g1 at *
      have cx0 := (K.out.at 0 rfl).cell 0 _ rfl
      have cx1 := (K.out.at 0 rfl).cell 1 _ rfl
      have cx2 := (K.out.at 0 rfl).cell 2 _ rfl
      have cx3 := (K.out.at 0 rfl).cell 3 _ rfl
      cases hA : ((x1 == sw) && (x2 == port))
      case true =>
        have HRn : Hid ((r1, r2, r3) = (x3, x4, (k : Int) + 1)) := Lib.hid (by rw [HRx.out, HM.out, HD.out, hA]; rfl)
        simp only [Bool.and_eq_true] at hA
        obtain ⟨hA1, hA2⟩ := hA
        clear HRx HM HD
        haveI : Nonempty (Keep (KR w.heap.size w [(g1, 52, #[.int .i64 x1, .int .i64 x2, .int .i64 x3, .int .i64 x4, .float .f64 x5])])) := ⟨⟨_, K.out⟩⟩
        have kc0 := fun q : Keep (KR w.heap.size w [(g1, 52, #[.int .i64 x1, .int .i64 x2, .int .i64 x3, .int .i64 x4, .float .f64 x5])]) => (KR.at q.h 0 rfl).cell 2 _ rfl
        have kc1 := fun q : Keep (KR w.heap.size w [(g1, 52, #[.int .i64 x1, .int .i64 x2, .int .i64 x3, .int .i64 x4, .float .f64 x5])]) => (KR.at q.h 0 rfl).cell 3 _ rfl
        go_upto_region 6 with fail
        refine wp_region_keep2 (Cl := KR w.heap.size w [(g1, 52, #[.int .i64 x1, .int .i64 x2, .int .i64 x3, .int .i64 x4, .float .f64 x5])]) (by kernel_rfl) (by kernel_rfl) K.out.drew ?_
        intro y' hy'
        clear hy' K
        repeat
          first
            | (refine wpQ2_step (fun K hK => ?_)
               go_simp
               first
                 | (refine hK _ ?_; clear hK K)
                 | (apply Exists.intro
                    refine ⟨fun _ => ?_, hK _ ?_⟩
                    (rw [if_neg (by omega)]; exact ⟨rfl, rfl⟩)
                    clear hK K))
        refine wpQ2_nil ?_
        clear kc0 kc1
        intro Wk Kk
        have K := Lib.hid Kk
        clear Kk
        go_wp2_with fail
        go_ret3
        have e1 := (Prod.mk.inj HRn.out).1
        have e2 := (Prod.mk.inj (Prod.mk.inj HRn.out).2).1
        have e3 : r3 = IntKind.i64.wrap ((k : Int) + 1) := (Prod.mk.inj (Prod.mk.inj HRn.out).2).2.trans (IntWalk.i64_in _ (by omega)).symm
        exact ⟨by rw [e1, e2, e3]; rfl, K.out.below⟩
      case false =>
        cases hB : ((x3 == sw) && (decide (0 < x3) && (x4 == port)))
        case true =>
          have HRn : Hid ((r1, r2, r3) = (x1, x2, (k : Int) + 1)) := Lib.hid (by rw [HRx.out, HM.out, HD.out, hA, hB]; rfl)
          simp only [Bool.and_eq_true] at hB
          obtain ⟨hB1, hB2, hB3⟩ := hB
          clear HRx HM HD
          cases hA1 : (x1 == sw)
          · haveI : Nonempty (Keep (KR w.heap.size w [(g1, 52, #[.int .i64 x1, .int .i64 x2, .int .i64 x3, .int .i64 x4, .float .f64 x5])])) := ⟨⟨_, K.out⟩⟩
            have kc0 := fun q : Keep (KR w.heap.size w [(g1, 52, #[.int .i64 x1, .int .i64 x2, .int .i64 x3, .int .i64 x4, .float .f64 x5])]) => (KR.at q.h 0 rfl).cell 0 _ rfl
            have kc1 := fun q : Keep (KR w.heap.size w [(g1, 52, #[.int .i64 x1, .int .i64 x2, .int .i64 x3, .int .i64 x4, .float .f64 x5])]) => (KR.at q.h 0 rfl).cell 1 _ rfl
            go_upto_region 8 with fail
            refine wp_region_keep2 (Cl := KR w.heap.size w [(g1, 52, #[.int .i64 x1, .int .i64 x2, .int .i64 x3, .int .i64 x4, .float .f64 x5])]) (by kernel_rfl) (by kernel_rfl) K.out.drew ?_
            intro y' hy'
            clear hy' K
            repeat
              first
                | (refine wpQ2_step (fun K hK => ?_)
                   go_simp
                   first
                     | (refine hK _ ?_; clear hK K)
                     | (apply Exists.intro
                        refine ⟨fun _ => ?_, hK _ ?_⟩
                        (rw [if_neg (by omega)]; exact ⟨rfl, rfl⟩)
                        clear hK K))
            refine wpQ2_nil ?_
            clear kc0 kc1
            intro Wk Kk
            have K := Lib.hid Kk
            clear Kk
            go_wp2_with fail
            go_ret3
            have e1 := (Prod.mk.inj HRn.out).1
            have e2 := (Prod.mk.inj (Prod.mk.inj HRn.out).2).1
            have e3 : r3 = IntKind.i64.wrap ((k : Int) + 1) := (Prod.mk.inj (Prod.mk.inj HRn.out).2).2.trans (IntWalk.i64_in _ (by omega)).symm
            exact ⟨by rw [e1, e2, e3]; rfl, K.out.below⟩
          · rw [hA1] at hA
            simp only [Bool.true_and] at hA
            haveI : Nonempty (Keep (KR w.heap.size w [(g1, 52, #[.int .i64 x1, .int .i64 x2, .int .i64 x3, .int .i64 x4, .float .f64 x5])])) := ⟨⟨_, K.out⟩⟩
            have kc0 := fun q : Keep (KR w.heap.size w [(g1, 52, #[.int .i64 x1, .int .i64 x2, .int .i64 x3, .int .i64 x4, .float .f64 x5])]) => (KR.at q.h 0 rfl).cell 0 _ rfl
            have kc1 := fun q : Keep (KR w.heap.size w [(g1, 52, #[.int .i64 x1, .int .i64 x2, .int .i64 x3, .int .i64 x4, .float .f64 x5])]) => (KR.at q.h 0 rfl).cell 1 _ rfl
            go_upto_region 8 with fail
            refine wp_region_keep2 (Cl := KR w.heap.size w [(g1, 52, #[.int .i64 x1, .int .i64 x2, .int .i64 x3, .int .i64 x4, .float .f64 x5])]) (by kernel_rfl) (by kernel_rfl) K.out.drew ?_
            intro y' hy'
            clear hy' K
            repeat
              first
                | (refine wpQ2_step (fun K hK => ?_)
                   go_simp
                   first
                     | (refine hK _ ?_; clear hK K)
                     | (apply Exists.intro
                        refine ⟨fun _ => ?_, hK _ ?_⟩
                        (rw [if_neg (by omega)]; exact ⟨rfl, rfl⟩)
                        clear hK K))
            refine wpQ2_nil ?_
            clear kc0 kc1
            intro Wk Kk
            have K := Lib.hid Kk
            clear Kk
            go_wp2_with fail
            go_ret3
            have e1 := (Prod.mk.inj HRn.out).1
            have e2 := (Prod.mk.inj (Prod.mk.inj HRn.out).2).1
            have e3 : r3 = IntKind.i64.wrap ((k : Int) + 1) := (Prod.mk.inj (Prod.mk.inj HRn.out).2).2.trans (IntWalk.i64_in _ (by omega)).symm
            exact ⟨by rw [e1, e2, e3]; rfl, K.out.below⟩
        case false =>
          have HRn : Hid ((r1, r2, r3) = hopO (peerO (l.drop (k + 1)) (k + 1) (sw, port))) := Lib.hid (by rw [HRx.out, HM.out, hA, hB]; rfl)
          clear HRx HM HD
          cases hA1 : (x1 == sw)
          · cases hB1 : (x3 == sw)
            · go_wp2_with fail
              go_roundw
              case rel => exact ⟨k + 1, by omega, by go_num, HRn, Lib.hid (K.out.sub (fun x hx => by cases hx))⟩
              case measure => simp [intOf]; omega
            · cases hB2 : decide (0 < x3)
              · go_wp2_with fail
                go_roundw
                case rel => exact ⟨k + 1, by omega, by go_num, HRn, Lib.hid (K.out.sub (fun x hx => by cases hx))⟩
                case measure => simp [intOf]; omega
              · rw [hB1, hB2] at hB
                simp only [Bool.true_and] at hB
                go_wp2_with fail
                go_roundw
                case rel => exact ⟨k + 1, by omega, by go_num, HRn, Lib.hid (K.out.sub (fun x hx => by cases hx))⟩
                case measure => simp [intOf]; omega
          · rw [hA1] at hA
            simp only [Bool.true_and] at hA
            cases hB1 : (x3 == sw)
            · go_wp2_with fail
              go_roundw
              case rel => exact ⟨k + 1, by omega, by go_num, HRn, Lib.hid (K.out.sub (fun x hx => by cases hx))⟩
              case measure => simp [intOf]; omega
            · cases hB2 : decide (0 < x3)
              · go_wp2_with fail
                go_roundw
                case rel => exact ⟨k + 1, by omega, by go_num, HRn, Lib.hid (K.out.sub (fun x hx => by cases hx))⟩
                case measure => simp [intOf]; omega
              · rw [hB1, hB2] at hB
                simp only [Bool.true_and] at hB
                go_wp2_with fail
                go_roundw
                case rel => exact ⟨k + 1, by omega, by go_num, HRn, Lib.hid (K.out.sub (fun x hx => by cases hx))⟩
                case measure => simp [intOf]; omega
    · have d2 : decide (k < l.length) = false := by simpa using hlt
      have HRn : Hid ((r1, r2, r3) = (0, 0, 0)) := Lib.hid (by rw [HRk.out, List.drop_eq_nil_of_le (by omega)]; rfl)
      clear HRk
      go_wp2_with fail
      go_ret3
      have e1 := (Prod.mk.inj HRn.out).1
      have e2 := (Prod.mk.inj (Prod.mk.inj HRn.out).2).1
      have e3 := (Prod.mk.inj (Prod.mk.inj HRn.out).2).2
      exact ⟨by rw [e1, e2, e3]; rfl, K.out.below⟩
end Go.Proofs.Ytggcmhjeflofmaa
