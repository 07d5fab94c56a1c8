/- droverlaw10.leads: whether a group leads to one of a list. -/
import Derived.Test.YtfjngecgfmlnfaaGroupY
import Derived.Test.YtfjngecgfmlnfaaTOp10
namespace Go.Proofs.Ytfjngecgfmlnfaa
open Go.RowKit Go.Maps
set_option linter.unusedVariables false
set_option linter.unusedSimpArgs false

def ledA (L : List Group) (a : Action) : Bool := decide (a.fKind = 2) && L.any fun d => decide (d.fID = a.fValue)
def ledG (bs : List Bucket) (L : List Group) : Bool := bs.any fun b => b.fActions.any (ledA L)

set_option maxRecDepth 100000 in
set_option maxHeartbeats 8000000 in
theorem lleads_any (w : World) (g : Group) (h : okGroup w g) (hl : leadOk (g.fBuckets.map coreB)) (lv : Value) (L : List Group) (hL : ReadL w 3 encGroup lv L) :
    Calls Try.prog 25 #[valGroup g, lv] w fun e w' => e = .returned (.bool (ledG g.fBuckets L)) ∧ Below w.heap.size w w' := by
  obtain ⟨gi, gk, gv, bs⟩ := g
  obtain ⟨_, _, ⟨hR, hB⟩, _⟩ := h
  simp only at *
  have HOk := Lib.hid hB
  have HL := Lib.hid hl
  obtain ⟨a, cap, hgv, hcap, hmax, hc⟩ := hR
  subst hgv
  unfold maxLen at hmax
  have HC := Lib.hid hc
  obtain ⟨la, lcap, hlv, hlcap, hlmax, hlc⟩ := hL
  subst hlv
  unfold maxLen at hlmax
  have HLC := Lib.hid hlc
  have HF : Hid (∀ i (hi : i < bs.length), bs[i].fActions.any (ledA L) = true → ledG bs L = true) := Lib.hid (fun i hi h => List.any_eq_true.2 ⟨_, List.getElem_mem hi, h⟩)
  have HN : Hid ((∀ i (hi : i < bs.length), bs[i].fActions.any (ledA L) = false) → ledG bs L = false) := Lib.hid (fun h => by
    unfold ledG
    rw [List.any_eq_false]
    intro b hb
    obtain ⟨i, hi, rfl⟩ := List.getElem_of_mem hb
    simp [h i hi])
  generalize ledG bs L = R at *
  clear hc hB hl hlc
  go_enter Try.func25, Try.ntmps25
  go_upto_region 1 with fail
  refine one_box_wp ?_
  intro W hb1 hbel hsz
  have K : Hid (KR w.heap.size w [(w.heap.size, 24, #[.int .i64 gi, .int .i64 gk, .slice a bs.length cap])] W) := Lib.hid ((KR.start hbel hbel.size).add hb1)
  clear hb1 hbel hsz
  go_wp2_with fail
  go_loopw [5] (fun iv wr => ∃ k : Nat, k ≤ bs.length ∧ iv = .int .i64 k ∧ Hid (KR w.heap.size w [(w.heap.size, 24, #[.int .i64 gi, .int .i64 gk, .slice a bs.length cap])] wr) ∧ Hid (∀ i (hi : i < bs.length), i < k → bs[i].fActions.any (ledA L) = false)) (fun iv _ => bs.length - (intOf iv).toNat)
  case atStart => exact ⟨0, Nat.zero_le _, rfl, K, Lib.hid (fun i hi hk => absurd hk (Nat.not_lt_zero _))⟩
  case round =>
    obtain ⟨k, hk, rfl, K, HQ⟩ := hrel
    have c2 := (K.out.at 0 rfl).cell 2 _ rfl
    by_cases hlt : k < bs.length
    · have d2 : decide (k < bs.length) = true := by simpa using hlt
      rcases HC.out with hnil | ⟨b, off, rfl, hblt, hcell⟩
      · rw [hnil] at hlt; simp at hlt
      have HRg := Lib.hid (fun W (hb : Below w.heap.size w W) => range_of hcell hb hblt k hlt)
      have hok := HOk.out _ (List.getElem_mem hlt)
      have hlx := HL.out.2 (coreB bs[k]) (List.mem_map_of_mem (List.getElem_mem hlt))
      have HF1 := Lib.hid (HF.out k hlt)
      have HQ1 : Hid (bs[k].fActions.any (ledA L) = false → ∀ i (hi : i < bs.length), i < k + 1 → bs[i].fActions.any (ledA L) = false) := Lib.hid (fun h i hi hik => if e : i = k then (by subst e; exact h) else HQ.out i hi (by omega))
      have hacts := hok.2.2.1.1
      clear hcell HC HF HL HOk HQ hok
      generalize bs[k] = x at *
      obtain ⟨x1, x2, x3, acts⟩ := x
      simp only [coreB] at hlx hacts
      have HLx := Lib.hid hlx.2
      have hla : acts.length ≤ 20 := hlx.1
      obtain ⟨xa, xc, hxv, hxc, hxm, hac⟩ := hacts
      subst hxv
      unfold maxLen at hxm
      have HAc := Lib.hid hac
      have HX2 : Hid (∀ W, Below w.heap.size w W → W.cell? ⟨b, off + k * 3 + 2, none⟩ = some (.slice xa acts.length xc)) := Lib.hid (fun W hb => HRg.out W hb 2 _ rfl)
      clear hlx hac HRg
      go_wp2_with fail
      clear c2
      go_loopw [6] (fun jv wr => ∃ j : Nat, j ≤ acts.length ∧ jv = .int .i64 j ∧ Hid (KR w.heap.size w [(w.heap.size, 24, #[.int .i64 gi, .int .i64 gk, .slice (some ⟨b, off, none⟩) bs.length cap])] wr) ∧ Hid (∀ i (hi : i < acts.length), i < j → ledA L acts[i] = false)) (fun jv _ => acts.length - (intOf jv).toNat)
      case atStart => exact ⟨0, Nat.zero_le _, rfl, K, Lib.hid (fun i hi hk => absurd hk (Nat.not_lt_zero _))⟩
      case round =>
        obtain ⟨j, hj, rfl, K, HQ2⟩ := hrel
        have c2 := (K.out.at 0 rfl).cell 2 _ rfl
        have x2c := HX2.out _ K.out.below
        by_cases hjt : j < acts.length
        · have d3 : decide (j < acts.length) = true := by simpa using hjt
          rcases HAc.out with hnil | ⟨ab, aoff, rfl, hablt, hacell⟩
          · rw [hnil] at hjt; simp at hjt
          have r1 := range_of hacell K.out.below hablt j hjt
          have HY := Lib.hid (HLx.out _ (List.getElem_mem hjt))
          have HQ3 : Hid (ledA L acts[j] = false → ∀ i (hi : i < acts.length), i < j + 1 → ledA L acts[i] = false) := Lib.hid (fun h i hi hik => if e : i = j then (by subst e; exact h) else HQ2.out i hi (by omega))
          have HF2 : Hid (ledA L acts[j] = true → R = true) := Lib.hid (fun h => HF1.out (List.any_eq_true.2 ⟨_, List.getElem_mem hjt, h⟩))
          clear hacell HAc HLx HF1 HQ2
          generalize acts[j] = y at *
          obtain ⟨y1, y2, y3⟩ := y
          simp only [encAction] at r1
          simp only at HY
          go_wp2_with (first
            | (refine wpList_load_mid rfl 58 _ rfl _ _ rfl _ _ r1 Try.underlying58 rfl (by kernel_rfl) ?_)
            | (refine wpList_store_row rfl 58 _ _ rfl _ rfl #[.int .i64 y1, .int .i64 y2, .int .u64 y3] rfl _ _ ((K.out.box _ _).at 0 rfl) rfl (by kernel_rfl) (by simp [Value.oneCell']) ?_)
            | fail)
          intro Wi hbi hbari
          replace K := Lib.hid (K.out.into hbari hbi)
          clear hbi hbari r1 c2 x2c
          generalize wr.heap.size = ag at *
          have hS : ∀ W, KR w.heap.size w [(ag, 58, #[.int .i64 y1, .int .i64 y2, .int .u64 y3]), (w.heap.size, 24, #[.int .i64 gi, .int .i64 gk, .slice (some ⟨b, off, none⟩) bs.length cap])] W → W.cell? ⟨ag, 0, none⟩ = some (.int .i64 y1) := fun W h => (h.at 0 rfl).cell 0 _ rfl
          have HS := Lib.hid hS
          clear hS
          go_wp2_with fail
          go_loopw [8] (fun nv wr => ∃ n : Nat, n ≤ L.length ∧ nv = .int .i64 n ∧ Hid (KR w.heap.size w [(ag, 58, #[.int .i64 y1, .int .i64 y2, .int .u64 y3]), (w.heap.size, 24, #[.int .i64 gi, .int .i64 gk, .slice (some ⟨b, off, none⟩) bs.length cap])] wr) ∧ Hid (∀ i (hi : i < L.length), i < n → L[i].fID ≠ y3)) (fun nv _ => L.length - (intOf nv).toNat)
          case atStart => exact ⟨0, Nat.zero_le _, rfl, K, Lib.hid (fun i hi hk => absurd hk (Nat.not_lt_zero _))⟩
          case round =>
            obtain ⟨n, hn, rfl, K, HQ4⟩ := hrel
            have a0 := HS.out _ K.out
            by_cases hnt : n < L.length
            · have d4 : decide (n < L.length) = true := by simpa using hnt
              by_cases h2 : y1 = 2
              · have t2 : (y1 == 2) = true := by simpa using h2
                obtain ⟨hv0, hv1⟩ := HY.out h2
                rcases HLC.out with hnil | ⟨lb, loff, rfl, hlblt, hlcell⟩
                · rw [hnil] at hnt; simp at hnt
                have HId : Hid (∀ W, Below w.heap.size w W → W.cell? ⟨lb, loff + n * 3, none⟩ = some (.int .i64 L[n].fID)) := Lib.hid (fun W hb => by
                  have := range_of hlcell hb hlblt n hnt 0 (.int .i64 L[n].fID) rfl
                  simpa using this)
                have HHit : Hid (L[n].fID = y3 → R = true) := Lib.hid (fun h => HF2.out (by
                  unfold ledA
                  simp only [h2, decide_true, Bool.true_and]
                  exact List.any_eq_true.2 ⟨_, List.getElem_mem hnt, by simpa using h⟩))
                have HMiss : Hid (L[n].fID ≠ y3 → ∀ i (hi : i < L.length), i < n + 1 → L[i].fID ≠ y3) := Lib.hid (fun h i hi hik => if e : i = n then (by subst e; exact h) else HQ4.out i hi (by omega))
                clear hlcell HLC HQ4 HF2 HQ3
                generalize L[n].fID = q at *
                go_upto_region 11 with fail
                clear a0
                refine wp_region_noPanic ?_
                refine wp_region_G 9 (KR w.heap.size w [(ag, 58, #[.int .i64 y1, .int .i64 y2, .int .u64 y3]), (w.heap.size, 24, #[.int .i64 gi, .int .i64 gk, .slice (some ⟨b, off, none⟩) bs.length cap])]) (by kernel_rfl) ?_
                change wpG _ _ _ _ _ 9 #[false, false, false, false, false, false, false, false, false] _ (World.drew _)
                replace K := Lib.hid K.out.drew
                refine wpG_pure (i := 0) (v := ?_) rfl (by kernel_rfl) (by kernel_rfl) (by kernel_rfl) (fun _ _ _ h => h) (Or.inl ⟨by rfl, ?_⟩) ?_
                rotate_left
                · (intro w_ hS; clear hS; go_simp; try with_reducible rfl)
                try simp only [List.getElem_toArray, List.getElem_cons_zero, List.getElem_cons_succ, Act.put, List.setIfInBounds_toArray, List.set_cons_zero, List.set_cons_succ]
                refine wpG_pure (i := 1) (v := ?_) rfl (by kernel_rfl) (by kernel_rfl) (by kernel_rfl) (fun _ _ _ h => h) (Or.inl ⟨by rfl, ?_⟩) ?_
                rotate_left
                · (intro w_ hS; clear hS; go_simp; try with_reducible rfl)
                try simp only [List.getElem_toArray, List.getElem_cons_zero, List.getElem_cons_succ, Act.put, List.setIfInBounds_toArray, List.set_cons_zero, List.set_cons_succ]
                refine wpG_pure (i := 2) (v := ?_) rfl (by kernel_rfl) (by kernel_rfl) (by kernel_rfl) (fun _ _ _ h => h) (Or.inl ⟨by rfl, ?_⟩) ?_
                rotate_left
                · (intro w_ hS; clear hS; go_simp; try with_reducible rfl)
                try simp only [List.getElem_toArray, List.getElem_cons_zero, List.getElem_cons_succ, Act.put, List.setIfInBounds_toArray, List.set_cons_zero, List.set_cons_succ]
                refine wpG_pure (i := 3) (v := ?_) rfl (by kernel_rfl) (by kernel_rfl) (by kernel_rfl) (fun _ _ _ h => h) (Or.inl ⟨by rfl, ?_⟩) ?_
                rotate_left
                · (intro w_ hS; clear hS; go_simp; try with_reducible rfl)
                try simp only [List.getElem_toArray, List.getElem_cons_zero, List.getElem_cons_succ, Act.put, List.setIfInBounds_toArray, List.set_cons_zero, List.set_cons_succ]
                refine wpG_take (i := 4) (v := ?_) rfl (by kernel_rfl) (by kernel_rfl) (by kernel_rfl) (fun _ _ _ h => h) (Or.inl ⟨by rfl, ?_⟩) K.out ?_
                rotate_left
                · (intro w_ hS; have cq_ := HId.out _ hS.below; clear hS; go_simp; try with_reducible rfl)
                try simp only [List.getElem_toArray, List.getElem_cons_zero, List.getElem_cons_succ, Act.put, List.setIfInBounds_toArray, List.set_cons_zero, List.set_cons_succ]
                refine wpG_pure (i := 5) (v := ?_) rfl (by kernel_rfl) (by kernel_rfl) (by kernel_rfl) (fun _ _ _ h => h) (Or.inl ⟨by rfl, ?_⟩) ?_
                rotate_left
                · (intro w_ hS; clear hS; go_simp; try with_reducible rfl)
                try simp only [List.getElem_toArray, List.getElem_cons_zero, List.getElem_cons_succ, Act.put, List.setIfInBounds_toArray, List.set_cons_zero, List.set_cons_succ]
                refine wpG_take (i := 6) (v := ?_) rfl (by kernel_rfl) (by kernel_rfl) (by kernel_rfl) (fun _ _ _ h => h) (Or.inl ⟨by rfl, ?_⟩) K.out ?_
                rotate_left
                · (intro w_ hS; have cq_ := (hS.at 0 rfl).cell 2 _ rfl; clear hS; go_simp; try with_reducible rfl)
                try simp only [List.getElem_toArray, List.getElem_cons_zero, List.getElem_cons_succ, Act.put, List.setIfInBounds_toArray, List.set_cons_zero, List.set_cons_succ]
                refine wpG_pure (i := 7) (v := ?_) rfl (by kernel_rfl) (by kernel_rfl) (by kernel_rfl) (fun _ _ _ h => h) (Or.inl ⟨by rfl, ?_⟩) ?_
                rotate_left
                · (intro w_ hS; clear hS; go_simp; try with_reducible rfl)
                try simp only [List.getElem_toArray, List.getElem_cons_zero, List.getElem_cons_succ, Act.put, List.setIfInBounds_toArray, List.set_cons_zero, List.set_cons_succ]
                refine wpG_pure (i := 8) (v := ?_) rfl (by kernel_rfl) (by kernel_rfl) (by kernel_rfl) (fun _ _ _ h => h) (Or.inl ⟨by rfl, ?_⟩) ?_
                rotate_left
                · (intro w_ hS; clear hS; go_simp; try with_reducible rfl)
                try simp only [List.getElem_toArray, List.getElem_cons_zero, List.getElem_cons_succ, Act.put, List.setIfInBounds_toArray, List.set_cons_zero, List.set_cons_succ]
                refine wpG_done (by kernel_rfl) ?_ _
                refine NoPanic.normal ?_
                rw [IntWalk.i64_in y3 (by omega)]
                by_cases hq : q = y3
                · have t5 : (q == y3) = true := by simpa using hq
                  have e := HHit.out hq
                  subst e
                  clear HMiss
                  go_wp2_with fail
                  go_ret
                  exact ⟨rfl, K.out.below⟩
                · have t5 : (q == y3) = false := by simpa using hq
                  have HQ5 := Lib.hid (HMiss.out hq)
                  clear HHit HMiss hq
                  go_wp2_with fail
                  go_roundw
                  case rel => exact ⟨n + 1, by omega, by go_num, K, HQ5⟩
                  case measure => simp [intOf]; omega
              · have t2 : (y1 == 2) = false := by simpa using h2
                have HA3 := Lib.hid (HQ3.out (by unfold ledA; simp [h2]))
                clear HQ3 HQ4 HF2
                go_wp2_with fail
                go_roundw
                case rel => exact ⟨j + 1, by omega, by go_num, Lib.hid (K.out.sub (by simp)), HA3⟩
                case measure => simp [intOf]; omega
            · have d4 : decide (n < L.length) = false := by simpa using hnt
              have HA3 := Lib.hid (HQ3.out (by
                unfold ledA
                have : (L.any fun d => decide (d.fID = y3)) = false := by
                  rw [List.any_eq_false]
                  intro d hd
                  obtain ⟨i, hi, rfl⟩ := List.getElem_of_mem hd
                  simp [HQ4.out i hi (by omega)]
                simp [this]))
              clear HQ3 HQ4 HF2
              go_wp2_with fail
              go_roundw
              case rel => exact ⟨j + 1, by omega, by go_num, Lib.hid (K.out.sub (by simp)), HA3⟩
              case measure => simp [intOf]; omega
        · have d3 : decide (j < acts.length) = false := by simpa using hjt
          have HA2 := Lib.hid (HQ1.out (by
            rw [List.any_eq_false]
            intro y hy
            obtain ⟨i, hi, rfl⟩ := List.getElem_of_mem hy
            simp [HQ2.out i hi (by omega)]))
          go_wp2_with fail
          go_roundw
          case rel => exact ⟨k + 1, by omega, by go_num, K, HA2⟩
          case measure => simp [intOf]; omega
    · have d2 : decide (k < bs.length) = false := by simpa using hlt
      have e := HN.out (fun i hi => HQ.out i hi (by omega))
      subst e
      go_wp2_with fail
      go_ret
      exact ⟨rfl, K.out.below⟩
end Go.Proofs.Ytfjngecgfmlnfaa
