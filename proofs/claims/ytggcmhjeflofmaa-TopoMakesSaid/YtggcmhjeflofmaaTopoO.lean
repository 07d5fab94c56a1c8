/- The reference of topologies: Home, Cost. -/
import Derived.Test.YtggcmhjeflofmaaTopoN
namespace Go.Proofs.Ytggcmhjeflofmaa
open Go.RowKit Go.Maps
set_option linter.unusedVariables false
set_option linter.unusedSimpArgs false

def rHomeF (l : List Link) (h : Int) : Int × Int := (if 0 < h then homeO l h else none).getD (0, 0)
def rCostF (l : List Link) (n : Int) : Nat := if n < 1 ∨ (l.length : Int) < n then 0 else (l.map (·.fCost)).getD (n.toNat - 1) 0
theorem homeO_pos {l : List Link} {h : Int} (hp : ¬ 0 < h) : homeO l h = none := by
  induction l with
  | nil => rfl
  | cons x l ih =>
    unfold homeO
    rw [if_neg (by simp; omega)]
    exact ih
theorem homeF_rep {s : TopS} {l : List Link} (h : Rep s l) (n : Int) : homeF s n = rHomeF l n := by
  unfold homeF rHomeF
  rw [h.homes]
  by_cases hp : 0 < n
  · rw [if_pos hp]; cases homeO l n <;> rfl
  · rw [if_neg hp, homeO_pos hp]; rfl
theorem costF_rep {s : TopS} {l : List Link} (h : Rep s l) (n : Int) : costF s n = rCostF l n := by
  unfold costF rCostF
  rw [h.costs]
  simp
theorem homeO_drop {l : List Link} {h : Int} {k : Nat} (hk : k < l.length) : homeO (l.drop k) h = if (decide (l[k].fB < 0) && decide (l[k].fB = -h)) = true then some (l[k].fA, l[k].fPortA) else homeO (l.drop (k + 1)) h := by
  rw [List.drop_eq_getElem_cons hk]
  rfl

set_option maxRecDepth 100000 in
set_option maxHeartbeats 8000000 in
theorem rHome_any (w : World) (rb : Nat) (lv : Value) (n : Int) (l : List Link) (h : RefW w rb lv n l) (hl : l.length ≤ 64) (host : Int) (hw : wfI host) :
    Calls Try.prog 19 #[ptr rb, .int .i64 host] w fun e w' => e = .returned (.tuple #[.int .i64 (rHomeF l host).1, .int .i64 (rHomeF l host).2]) ∧ Below w.heap.size w w' := by
  obtain ⟨hb1, a, cap, rfl, hcap, hmax, hc⟩ := h
  have K : Hid (KR w.heap.size w [] w) := Lib.hid (KR.start (Below.refl _ _) (Nat.le_refl _))
  have HBk := Lib.hid hb1
  have c1 := hb1.cell 1 _ rfl
  have HC := Lib.hid hc
  have HR : Hid (rHomeF l host = (if 0 < host then homeO (l.drop 0) host else none).getD (0, 0)) := Lib.hid rfl
  generalize rHomeF l host = R at *
  obtain ⟨r1, r2⟩ := R
  simp only
  have hng : IntKind.i64.wrap (-host) = -host ∨ ¬ 0 < host := by
    by_cases hp : 0 < host
    · have := hw
      unfold wfI Lit.wf at this
      simp at this
      exact .inl (IntWalk.i64_in _ (by omega))
    · exact .inr hp
  have HNg := Lib.hid hng
  clear hb1 hc hw hng
  go_enter Try.func19, Try.ntmps19
  go_wp2_with fail
  go_loopw [6] (fun iv wr => ∃ k : Nat, k ≤ l.length ∧ iv = .int .i64 k ∧ Hid ((r1, r2) = (if 0 < host then homeO (l.drop k) host else none).getD (0, 0)) ∧ wr = w) (fun iv _ => l.length - (intOf iv).toNat)
  case atStart => exact ⟨0, Nat.zero_le _, rfl, HR, rfl⟩
  case round =>
    obtain ⟨k, hk, rfl, HRk, rfl⟩ := hrel
    clear HR
    by_cases hlt : k < l.length
    · have d2 : decide (k < l.length) = true := by simpa using hlt
      rcases HC.out with hnil | ⟨b, off, rfl, hblt, hcell⟩
      · rw [hnil] at hlt; simp at hlt
      have R1 : Hid (∀ W : World, KR wr.heap.size wr [] W → W.rangeAt b (off + k * 5) (encLink l[k])) := Lib.hid (fun W h => range_of hcell h.below hblt k hlt)
      have HBW : Hid (∀ W : World, KR wr.heap.size wr [] W → W.cell? ⟨rb, 1, none⟩ = some (.slice (some ⟨b, off, none⟩) l.length cap)) := Lib.hid (fun W h => (HBk.out.below h.below HBk.out.lt).cell 1 _ rfl)
      have HRx : Hid ((r1, r2) = (if 0 < host then (if (decide (l[k].fB < 0) && decide (l[k].fB = -host)) = true then some (l[k].fA, l[k].fPortA) else homeO (l.drop (k + 1)) host) else none).getD (0, 0)) := Lib.hid (by rw [HRk.out, homeO_drop hlt])
      clear HRk hcell
      generalize l[k] = x at *
      obtain ⟨x1, x2, x3, x4, x5⟩ := x
      simp only [encLink] at R1
      simp only at HRx
      by_cases hp : 0 < host
      · have tp : decide (0 < host) = true := decide_eq_true hp
        have hng : IntKind.i64.wrap (-host) = -host := HNg.out.resolve_right (fun h => by omega)
        have c2 := R1.out wr K.out 2 (.int .i64 x3) rfl
        cases he : (x3 == -host)
        · have HRn : Hid ((r1, r2) = (if 0 < host then homeO (l.drop (k + 1)) host else none).getD (0, 0)) := Lib.hid (by
            have : ¬ x3 = -host := by simpa using he
            rw [HRx.out, if_neg (by simp [this] : ¬ (decide (x3 < 0) && decide (x3 = -host)) = true)])
          clear HRx
          go_wp2_with fail
          go_roundw
          case rel => exact ⟨k + 1, by omega, by go_num, HRn, by first | trivial | rfl⟩
          case measure => simp [intOf]; omega
        · have HRn : Hid ((r1, r2) = (x1, x2)) := Lib.hid (by
            have : x3 = -host := by simpa using he
            rw [HRx.out, if_pos hp, if_pos (by simp [this]; omega)]; rfl)
          clear HRx
          have k0 := fun q : Keep (KR wr.heap.size wr []) => HBW.out q.w q.h
          have k1 := fun q : Keep (KR wr.heap.size wr []) => (show q.w.cell? ⟨b, off + k * 5, none⟩ = some (.int .i64 x1) from R1.out q.w q.h 0 (.int .i64 x1) rfl)
          have k2 := fun q : Keep (KR wr.heap.size wr []) => R1.out q.w q.h 1 (.int .i64 x2) rfl
          haveI : Nonempty (Keep (KR wr.heap.size wr [])) := ⟨⟨_, K.out⟩⟩
          go_upto_region 5 with fail
          refine wp_region_keep2 (Cl := KR wr.heap.size wr []) (by kernel_rfl) (by kernel_rfl) K.out.drew ?_
          intro y' hy'
          clear hy' K
          repeat
            first
              | (refine wpQ2_step (fun K hK => ?_)
                 go_simp
                 first
                   | (refine hK _ ?_; clear hK K)
                   | (apply Exists.intro
                      refine ⟨fun _ => ?_, hK _ ?_⟩
                      (rw [if_neg (by omega)]; exact ⟨rfl, rfl⟩)
                      clear hK K))
          refine wpQ2_nil ?_
          intro Wk Kk
          have K := Lib.hid Kk
          clear Kk
          go_wp2_with fail
          go_ret2
          have e1 := (Prod.mk.inj HRn.out).1
          have e2 := (Prod.mk.inj HRn.out).2
          exact ⟨by rw [e1, e2]; rfl, K.out.below⟩
      · have tp : decide (0 < host) = false := decide_eq_false hp
        have HRn : Hid ((r1, r2) = (if 0 < host then homeO (l.drop (k + 1)) host else none).getD (0, 0)) := Lib.hid (by rw [HRx.out, if_neg hp, if_neg hp])
        clear HRx
        go_wp2_with fail
        go_roundw
        case rel => exact ⟨k + 1, by omega, by go_num, HRn, by first | trivial | rfl⟩
        case measure => simp [intOf]; omega
    · have d2 : decide (k < l.length) = false := by simpa using hlt
      have HRn : Hid ((r1, r2) = (0, 0)) := Lib.hid (by
        rw [HRk.out, List.drop_eq_nil_of_le (by omega)]
        split <;> simp_all [homeO])
      clear HRk
      go_wp2_with fail
      go_ret2
      have e1 := (Prod.mk.inj HRn.out).1
      have e2 := (Prod.mk.inj HRn.out).2
      exact ⟨by rw [e1, e2]; rfl, K.out.below⟩
end Go.Proofs.Ytggcmhjeflofmaa
