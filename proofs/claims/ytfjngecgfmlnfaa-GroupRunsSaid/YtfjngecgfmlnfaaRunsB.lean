/- droverlaw10.there: all that the groups of a table lead to is there. -/
import Derived.Test.YtfjngecgfmlnfaaRunsA
namespace Go.Proofs.Ytfjngecgfmlnfaa
open Go.RowKit Go.Maps
set_option linter.unusedVariables false
set_option linter.unusedSimpArgs false

/-- The actions of a group with which nothing is wrong have small values. -/
theorem rightA_small {k f v : Int} (h : rightA k f v = true) : v ≤ 9223372036854775807 := by
  unfold rightA at h
  split at h
  · simp at h; omega
  · split at h
    · simp at h; omega
    · split at h
      · split at h
        · simp at h; omega
        · split at h
          · simp at h; omega
          · split at h
            · simp at h; omega
            · cases h
      · cases h
theorem wrong_acts {id kind : Int} {c : List Core} (h : wrongF id kind c = 0) : ∀ x ∈ c, ∀ a ∈ x.2.2, rightA a.fKind a.fField a.fValue = true := by
  obtain ⟨_, _, _, _, h3⟩ := wrong_ok h
  intro x hx a ha
  have := h3 x hx
  unfold badA at this
  have := List.any_eq_false.1 this a ha
  simpa using this
/-- What is asked of the list. -/
def ThereOk (l : List (Int × Group)) (g : Group) : Prop := leadOk (g.fBuckets.map coreB) ∧ (∀ b ∈ g.fBuckets, ∀ a ∈ b.fActions, 0 ≤ a.fValue ∧ a.fValue ≤ 9223372036854775807 ∧ (a.fKind = 2 → (lookL l a.fValue).isSome = true))

set_option maxRecDepth 100000 in
set_option maxHeartbeats 8000000 in
theorem there_any (w : World) (tb mb : Nat) (room : Int) (l : List (Int × Group)) (h : TableW w tb mb room l) (hok : TabOk l) (lv : Value) (L : List Group) (hL : ReadL w 3 encGroup lv L) (hLg : ∀ g ∈ L, okGroup w g ∧ ThereOk l g) :
    Calls Try.prog 26 #[.pointer (some ⟨tb, 0, none⟩), lv] w fun e w' => e = .returned (.bool true) ∧ Below w.heap.size w w' := by
  have HGet := Lib.hid (fun (id : Int) (hid : wfI id) (W : World) (hb : Below w.heap.size w W) => Get_any W tb mb room l (h.below hb (Nat.le_refl _)) hok id hid)
  have HLg := Lib.hid hLg
  obtain ⟨la, lcap, hlv, hlcap, hlmax, hlc⟩ := hL
  subst hlv
  unfold maxLen at hlmax
  have HLC := Lib.hid hlc
  have HB0 := Lib.hid (Below.refl w.heap.size w)
  clear hlc h hok hLg
  go_enter Try.func26, Try.ntmps26
  go_wp2_with fail
  go_loopw [5] (fun iv wr => ∃ k : Nat, k ≤ L.length ∧ iv = .int .i64 k ∧ Hid (Below w.heap.size w wr)) (fun iv _ => L.length - (intOf iv).toNat)
  case atStart => exact ⟨0, Nat.zero_le _, rfl, HB0⟩
  case round =>
    obtain ⟨k, hk, rfl, HB⟩ := hrel
    by_cases hlt : k < L.length
    · have d2 : decide (k < L.length) = true := by simpa using hlt
      rcases HLC.out with hnil | ⟨lb, loff, rfl, hlblt, hlcell⟩
      · rw [hnil] at hlt; simp at hlt
      have hg := HLg.out _ (List.getElem_mem hlt)
      have HX0 := Lib.hid (fun W (hb : Below w.heap.size w W) => range_of hlcell hb hlblt k hlt)
      clear hlcell HLg HLC
      generalize L[k] = g at *
      obtain ⟨gi, gk, gv, bs⟩ := g
      obtain ⟨⟨_, _, ⟨hR, hB⟩, _⟩, hT⟩ := hg
      simp only at hR hB hT
      have hT2 := hT.2
      have hla := hT.1.1
      have HLa := Lib.hid (fun b (hb : b ∈ bs) => (hT.1.2 (coreB b) (List.mem_map_of_mem hb)).1)
      simp only [List.length_map] at hla
      simp only at hT2
      have HT2 := Lib.hid hT2
      have HOk := Lib.hid hB
      obtain ⟨ba, bcap, hgv, hbcap, hbmax, hbc⟩ := hR
      subst hgv
      unfold maxLen at hbmax
      have HBC := Lib.hid hbc
      have HX : Hid (∀ W, Below w.heap.size w W → W.cell? ⟨lb, loff + k * 3 + 2, none⟩ = some (.slice ba bs.length bcap)) := Lib.hid (fun W hb => HX0.out W hb 2 _ rfl)
      clear hT hT2 hB hbc HX0
      go_wp2_with fail
      go_loopw [6] (fun jv wr => ∃ j : Nat, j ≤ bs.length ∧ jv = .int .i64 j ∧ Hid (Below w.heap.size w wr)) (fun jv _ => bs.length - (intOf jv).toNat)
      case atStart => exact ⟨0, Nat.zero_le _, rfl, HB⟩
      case round =>
        obtain ⟨j, hj, rfl, HB⟩ := hrel
        have xc := HX.out _ HB.out
        by_cases hjt : j < bs.length
        · have d3 : decide (j < bs.length) = true := by simpa using hjt
          rcases HBC.out with hnil | ⟨bb, boff, rfl, hbblt, hbcell⟩
          · rw [hnil] at hjt; simp at hjt
          have HY0 := Lib.hid (fun W (hb : Below w.heap.size w W) => range_of hbcell hb hbblt j hjt)
          have hok := HOk.out _ (List.getElem_mem hjt)
          have HTa := Lib.hid (HT2.out _ (List.getElem_mem hjt))
          have hac0 := HLa.out _ (List.getElem_mem hjt)
          clear hbcell HBC HOk HT2 HLa
          generalize bs[j] = x at *
          obtain ⟨x1, x2, x3, acts⟩ := x
          have hacts := hok.2.2.1.1
          simp only [coreB] at hacts HTa hac0
          obtain ⟨aa, acap, hxv, hacap, hamax, hac⟩ := hacts
          subst hxv
          unfold maxLen at hamax
          have HAC := Lib.hid hac
          have HY : Hid (∀ W, Below w.heap.size w W → W.cell? ⟨bb, boff + j * 3 + 2, none⟩ = some (.slice aa acts.length acap)) := Lib.hid (fun W hb => HY0.out W hb 2 _ rfl)
          clear hok hac HY0
          go_wp2_with fail
          clear xc
          go_loopw [7] (fun nv wr => ∃ n : Nat, n ≤ acts.length ∧ nv = .int .i64 n ∧ Hid (Below w.heap.size w wr)) (fun nv _ => acts.length - (intOf nv).toNat)
          case atStart => exact ⟨0, Nat.zero_le _, rfl, HB⟩
          case round =>
            obtain ⟨n, hn, rfl, HB⟩ := hrel
            have xc := HX.out _ HB.out
            have yc := HY.out _ HB.out
            by_cases hnt : n < acts.length
            · have d4 : decide (n < acts.length) = true := by simpa using hnt
              rcases HAC.out with hnil | ⟨ab, aoff, rfl, hablt, hacell⟩
              · rw [hnil] at hnt; simp at hnt
              have r1 := range_of hacell HB.out hablt n hnt
              have hta := HTa.out _ (List.getElem_mem hnt)
              clear hacell HAC HTa
              generalize acts[n] = y at *
              obtain ⟨y1, y2, y3⟩ := y
              obtain ⟨hv0, hv1, hv2⟩ := hta
              simp only [encAction] at r1
              simp only at hv0 hv1 hv2
              have HV2 := Lib.hid hv2
              have K : Hid (KR w.heap.size w [] wr) := Lib.hid (KR.start HB.out HB.out.size)
              have HGt := Lib.hid (fun W hb => HGet.out y3 (WalkArith.wf_i64 (by omega)) W hb)
              have hwr := IntWalk.i64_in y3 (by omega)
              clear hv2 HGet
              go_wp2_with (first
                | (refine wpList_load_mid rfl 58 _ rfl _ _ rfl _ _ r1 Try.underlying58 rfl (by kernel_rfl) ?_)
                | (refine wpList_store_row rfl 58 _ _ rfl _ rfl #[.int .i64 y1, .int .i64 y2, .int .u64 y3] rfl _ _ ((K.out.box _ _).at 0 rfl) rfl (by kernel_rfl) (by simp [Value.oneCell']) ?_)
                | fail)
              intro Wi hbi hbari
              replace K := Lib.hid (K.out.into hbari hbi)
              clear hbi hbari r1 xc yc
              generalize wr.heap.size = ag at *
              have a2 := (K.out.at 0 rfl).cell 2 _ rfl
              go_wp2_with fail
              refine (HGt.out _ K.out.below).mono ?_
              rintro e w2 ⟨g2, rfl, _, hok2, hb2⟩
              replace K := Lib.hid (K.out.call hb2)
              have hv1c := hok2.2.2.1.1.one
              clear hb2 HGt hok2 a2
              obtain ⟨g2i, g2k, g2v, g2b⟩ := g2
              have hx2 : ∀ u ∈ #[Value.int .i64 g2i, Value.int .i64 g2k, g2v].toList, u.oneCell' = true := by
                intro u hu; simp at hu; rcases hu with rfl | rfl | rfl <;> first | rfl | exact hv1c
              simp only [valGroup]
              go_wp2_with (first
                | (refine wpList_store_row rfl 24 _ _ rfl _ rfl #[.int .i64 g2i, .int .i64 g2k, g2v] rfl _ _ ((K.out.box _ _).at 0 rfl) rfl (by kernel_rfl) hx2 ?_)
                | fail)
              intro Wj hbj hbarj
              replace K := Lib.hid (K.out.into hbarj hbj)
              clear hbj hbarj hx2 hv1c
              generalize w2.heap.size = gg at *
              have a0 := (K.out.at 1 rfl).cell 0 _ rfl
              by_cases h2 : y1 = 2
              · have t2 : (y1 == 2) = true := by simpa using h2
                have hs := HV2.out h2
                rw [hs]
                rw [show okE true = 0 from rfl]
                clear HV2 hs
                go_wp2_with fail
                go_roundw
                case rel => exact ⟨n + 1, by omega, by go_num, Lib.hid K.out.below⟩
                case measure => simp [intOf]; omega
              · have t2 : (y1 == 2) = false := by simpa using h2
                clear HV2
                go_wp2_with fail
                go_roundw
                case rel => exact ⟨n + 1, by omega, by go_num, Lib.hid K.out.below⟩
                case measure => simp [intOf]; omega
            · have d4 : decide (n < acts.length) = false := by simpa using hnt
              go_wp2_with fail
              go_roundw
              case rel => exact ⟨j + 1, by omega, by go_num, HB⟩
              case measure => simp [intOf]; omega
        · have d3 : decide (j < bs.length) = false := by simpa using hjt
          go_wp2_with fail
          go_roundw
          case rel => exact ⟨k + 1, by omega, by go_num, HB⟩
          case measure => simp [intOf]; omega
    · have d2 : decide (k < L.length) = false := by simpa using hlt
      go_wp2_with fail
      go_ret
      exact ⟨rfl, HB.out⟩
end Go.Proofs.Ytfjngecgfmlnfaa
