/- The law's nums. -/
import Derived.Test.YtggcmhjeflofmaaTopoR
namespace Go.Proofs.Ytggcmhjeflofmaa
open Go.RowKit Go.Maps
set_option linter.unusedVariables false
set_option linter.unusedSimpArgs false

theorem drop_eq_step {xs ys : List Int} {k : Nat} (h1 : k < xs.length) (h2 : k < ys.length) : decide (xs.drop k = ys.drop k) = (decide (xs[k] = ys[k]) && decide (xs.drop (k + 1) = ys.drop (k + 1))) := by
  rw [List.drop_eq_getElem_cons h1, List.drop_eq_getElem_cons h2, Bool.eq_iff_iff]
  generalize xs[k] = x
  generalize ys[k] = y
  simp
set_option maxRecDepth 100000 in
set_option maxHeartbeats 4000000 in
theorem nums_any (w : World) (v1 v2 : Value) (xs ys : List Int) (h1 : ReadL w 1 encI v1 xs) (h2 : ReadL w 1 encI v2 ys) :
    Calls Try.prog 13 #[v1, v2] w fun e w' => e = .returned (.bool (decide (xs = ys))) ∧ Below w.heap.size w w' := by
  obtain ⟨a, cap, rfl, hcap, hmax⟩ := h1.slice
  obtain ⟨a2, cap2, rfl, hcap2, hmax2⟩ := h2.slice
  unfold maxLen at hmax hmax2
  have H1 := Lib.hid h1
  have H2 := Lib.hid h2
  have K : Hid (KR w.heap.size w [] w) := Lib.hid (KR.start (Below.refl _ _) (Nat.le_refl _))
  by_cases hl : xs.length = ys.length
  case neg =>
    have hn : ((xs.length : Int) != (ys.length : Int)) = true := by simp; omega
    have HRn : Hid (decide (xs = ys) = false) := Lib.hid (by simp; intro e; exact hl (by rw [e]))
    generalize decide (xs = ys) = R at *
    clear h1 h2 hl
    go_enter Try.func13, Try.ntmps13
    go_wp2_with fail
    go_ret
    exact ⟨rbool HRn.out.symm, K.out.below⟩
  have hn : ((xs.length : Int) != (ys.length : Int)) = false := by simp; omega
  have HR : Hid (decide (xs = ys) = decide (xs.drop 0 = ys.drop 0)) := Lib.hid rfl
  generalize decide (xs = ys) = R at *
  have HL := Lib.hid hl
  clear h1 h2 hl
  go_enter Try.func13, Try.ntmps13
  go_wp2_with fail
  clear hn
  go_loopw [5] (fun iv wr => ∃ k : Nat, k ≤ xs.length ∧ iv = .int .i64 k ∧ Hid (R = decide (xs.drop k = ys.drop k)) ∧ Hid (KR w.heap.size w [] wr)) (fun iv _ => xs.length - (intOf iv).toNat)
  case atStart => exact ⟨0, Nat.zero_le _, rfl, HR, K⟩
  case round =>
    obtain ⟨k, hk, rfl, HRk, K2⟩ := hrel
    clear HR K
    have K := K2
    clear K2
    by_cases hlt : k < xs.length
    · have d2 : decide (k < xs.length) = true := by simpa using hlt
      have hlt2 : k < ys.length := by have := HL.out; omega
      obtain ⟨b, off, cap', hv, hc⟩ := read_slice' H1.out (by omega)
      cases hv
      obtain ⟨b2, off2, cap2', hv2, hc2⟩ := read_slice' H2.out (by omega)
      cases hv2
      have C1 : Hid (∀ W : World, KR w.heap.size w [] W → W.cell? ⟨b, off + k, none⟩ = some (.int .i64 xs[k])) := Lib.hid (fun W hW => by
        obtain ⟨b', off', _, hv', _, _, hb', hcc⟩ := H1.out.cells (by omega)
        cases hv'
        rw [hW.below.cell (p := ⟨b, off + k, none⟩) hb']
        exact hc k hlt)
      have C2 : Hid (∀ W : World, KR w.heap.size w [] W → W.cell? ⟨b2, off2 + k, none⟩ = some (.int .i64 ys[k])) := Lib.hid (fun W hW => by
        obtain ⟨b', off', _, hv', _, _, hb', hcc⟩ := H2.out.cells (by omega)
        cases hv'
        rw [hW.below.cell (p := ⟨b2, off2 + k, none⟩) hb']
        exact hc2 k hlt2)
      have HRx : Hid (R = (decide (xs[k] = ys[k]) && decide (xs.drop (k + 1) = ys.drop (k + 1)))) := Lib.hid (by rw [HRk.out, drop_eq_step hlt hlt2])
      clear HRk hc hc2
      generalize xs[k] = x at *
      generalize ys[k] = y at *
      have k1 := fun q : Keep (KR w.heap.size w []) => C1.out q.w q.h
      have k2 := fun q : Keep (KR w.heap.size w []) => C2.out q.w q.h
      have d4 : decide ((k : Int) < (ys.length : Int)) = true := by simp; omega
      cases hx : (x != y)
      · have HRn : Hid (R = decide (xs.drop (k + 1) = ys.drop (k + 1))) := Lib.hid (by
          have : x = y := by simpa using hx
          rw [HRx.out, this]; simp)
        clear HRx
        haveI : Nonempty (Keep (KR w.heap.size w [])) := ⟨⟨_, K.out⟩⟩
        go_upto_region 6 with fail
        refine wp_region_keep2 (Cl := KR w.heap.size w []) (by kernel_rfl) (by kernel_rfl) K.out.drew ?_
        intro y' hy'
        clear hy' K
        repeat
          first
            | (refine wpQ2_step (fun K hK => ?_)
               go_simp
               first
                 | (refine hK _ ?_; clear hK K)
                 | (apply Exists.intro
                    refine ⟨fun _ => ?_, hK _ ?_⟩
                    (rw [if_neg (by omega)]; exact ⟨rfl, rfl⟩)
                    clear hK K))
        refine wpQ2_nil ?_
        intro Wk Kk
        have K := Lib.hid Kk
        clear Kk
        go_wp2_with fail
        go_roundw
        case rel => exact ⟨k + 1, by omega, by go_num, HRn, K⟩
        case measure => simp [intOf]; omega
      · have HRn : Hid (R = false) := Lib.hid (by
          have : ¬ x = y := by simpa using hx
          rw [HRx.out]; simp [this])
        clear HRx
        haveI : Nonempty (Keep (KR w.heap.size w [])) := ⟨⟨_, K.out⟩⟩
        go_upto_region 6 with fail
        refine wp_region_keep2 (Cl := KR w.heap.size w []) (by kernel_rfl) (by kernel_rfl) K.out.drew ?_
        intro y' hy'
        clear hy' K
        repeat
          first
            | (refine wpQ2_step (fun K hK => ?_)
               go_simp
               first
                 | (refine hK _ ?_; clear hK K)
                 | (apply Exists.intro
                    refine ⟨fun _ => ?_, hK _ ?_⟩
                    (rw [if_neg (by omega)]; exact ⟨rfl, rfl⟩)
                    clear hK K))
        refine wpQ2_nil ?_
        intro Wk Kk
        have K := Lib.hid Kk
        clear Kk
        go_wp2_with fail
        go_ret
        exact ⟨rbool HRn.out.symm, K.out.below⟩
    · have d2 : decide (k < xs.length) = false := by simpa using hlt
      have HRn : Hid (R = true) := Lib.hid (by rw [HRk.out, List.drop_eq_nil_of_le (by omega), List.drop_eq_nil_of_le (by have := HL.out; omega)]; rfl)
      clear HRk
      go_wp2_with fail
      go_ret
      exact ⟨rbool HRn.out.symm, K.out.below⟩
end Go.Proofs.Ytggcmhjeflofmaa
