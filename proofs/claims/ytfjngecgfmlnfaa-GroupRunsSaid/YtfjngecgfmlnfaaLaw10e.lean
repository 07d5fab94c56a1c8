/- GroupRuns: from no group one comes back to it, and each that one leads to is there. -/
import Derived.Test.YtfjngecgfmlnfaaRunsC
import Derived.Test.YtfjngecgfmlnfaaAwake10
namespace Go.Proofs.Ytfjngecgfmlnfaa
open Go.RowKit Go.Maps
set_option linter.unusedVariables false
set_option linter.unusedSimpArgs false

theorem okGroup_below {w W : World} {B : Nat} {g : Group} (h : okGroup w g) (hb : Below B w W) (hB : w.heap.size ≤ B) : okGroup W g :=
  ⟨h.1, h.2.1, ⟨h.2.2.1.1.below hb hB, fun y hy => okBucket_below (h.2.2.1.2 y hy) hb hB⟩, trivial⟩
theorem filter_take {α : Type} (p : α → Bool) (L : List α) (i : Nat) (hi : i < L.length) : (L.take (i + 1)).filter p = (L.take i).filter p ++ if p L[i] = true then [L[i]] else [] := by
  rw [List.take_succ_eq_append_getElem hi, List.filter_append]
  cases h : p L[i] <;> simp [h]

set_option maxRecDepth 100000 in
set_option maxHeartbeats 16000000 in
theorem GroupRuns_walk (w : World) (room : Int) (hroom : (Lit.int .i64 room).wf = true) (ov : Value) (ops : List GOp) (hops : ReadL w 4 encGOp ov ops) (hok : ∀ x ∈ ops, okGOp w x) :
    Calls Try.prog 6 #[.int .i64 room, ov] w fun x w' => x = .returned (.bool true) ∧ Below w.heap.size w w' := by
  have HA := Lib.hid awake10
  obtain ⟨oa, ocap, hov, hocap, homax, hoc⟩ := hops
  subst hov
  unfold maxLen at homax
  have HOC := Lib.hid hoc
  have HOk := Lib.hid (fun k (hk : k < ops.length) W (hb : Below w.heap.size w W) => okGroup_below (hok _ (List.getElem_mem hk)).2.1 hb (Nat.le_refl _))
  clear hoc hok
  cases hr : okRoom room with
  | false =>
    have HNw := Lib.hid (New_none w room hr)
    simp only [okRoom, Bool.and_eq_false_iff, decide_eq_false_iff_not] at hr
    by_cases h1 : room < 1
    · have t1 : decide (room < 1) = true := decide_eq_true h1
      clear hr
      go_enter Try.func6, Try.ntmps6
      go_wp2_with fail
      refine HNw.out.mono ?_
      rintro e w1 ⟨rfl, hb1⟩
      have HB := Lib.hid hb1
      clear hb1 HNw
      go_wp2_with fail
      refine (HA.out _).mono ?_
      rintro e w2 ⟨rfl, hb2⟩
      have HB2 := Lib.hid (HB.out.trans (hb2.mono HB.out.size))
      clear hb2
      go_wp2_with fail
      go_ret
      exact ⟨rfl, HB2.out⟩
    · have t1 : decide (room < 1) = false := decide_eq_false h1
      have t2 : decide (64 < room) = true := decide_eq_true (by omega)
      clear hr
      go_enter Try.func6, Try.ntmps6
      go_wp2_with fail
      refine HNw.out.mono ?_
      rintro e w1 ⟨rfl, hb1⟩
      have HB := Lib.hid hb1
      clear hb1 HNw
      go_wp2_with fail
      refine (HA.out _).mono ?_
      rintro e w2 ⟨rfl, hb2⟩
      have HB2 := Lib.hid (HB.out.trans (hb2.mono HB.out.size))
      clear hb2
      go_wp2_with fail
      go_ret
      exact ⟨rfl, HB2.out⟩
  | true =>
    have HNw := Lib.hid (New_any w room hr)
    simp only [okRoom, Bool.and_eq_true, decide_eq_true_eq] at hr
    have hr1 := hr.1
    have hr2 := hr.2
    clear hr
    go_enter Try.func6, Try.ntmps6
    go_wp2_with fail
    refine HNw.out.mono ?_
    rintro e w1 ⟨tb, mb, rfl, hmb, hT, hb1⟩
    have HT := Lib.hid hT
    have HB := Lib.hid hb1
    have HMb := Lib.hid hmb
    have HI := Lib.hid (TabI.nil hr1)
    clear hb1 hT hmb HNw
    go_wp2_with fail
    go_loopw [7] (fun iv wr => ∃ (k : Nat) (l : List (Int × Group)), k ≤ ops.length ∧ k ≤ 40 ∧ iv = .int .i64 k ∧ Hid (TableW wr tb mb room l) ∧ Hid (TabI l room) ∧ Hid (Below w.heap.size w wr)) (fun iv _ => ops.length - (intOf iv).toNat)
    case atStart => exact ⟨0, [], Nat.zero_le _, Nat.zero_le _, rfl, HT, HI, HB⟩
    case round =>
      obtain ⟨k, l, hk, hk40, rfl, HT, HI, HB⟩ := hrel
      have HDone : Hid True := Lib.hid trivial
      by_cases hlt : k < ops.length ∧ k < 40
      · obtain ⟨hlt, h40⟩ := hlt
        have d2 : decide (k < ops.length) = true := by simpa using hlt
        have d3 : decide ((k : Int) < 40) = true := decide_eq_true (by omega)
        rcases HOC.out with hnil | ⟨b, off, rfl, hblt, hcell⟩
        · rw [hnil] at hlt; simp at hlt
        have HR0 := Lib.hid (fun W (hb : Below w.heap.size w W) => range_of hcell hb hblt k hlt)
        have HRg : Hid (∀ W, Below w.heap.size w W → W.rangeAt b (off + k * 4 + 1) [.int .i64 ops[k].fGroup.fID, .int .i64 ops[k].fGroup.fKind, ops[k].fGroup.vBuckets]) := Lib.hid (fun W hb j v hv => by
          have := HR0.out W hb (j + 1) v (by simpa [encGOp] using hv)
          rwa [show off + k * 4 + 1 + j = off + k * 4 + (j + 1) by omega])
        have HAsk : Hid (∀ W, Below w.heap.size w W → W.cell? ⟨b, off + k * 4, none⟩ = some (.int .i64 ops[k].fAsk)) := Lib.hid (fun W hb => by
          have := HR0.out W hb 0 (.int .i64 ops[k].fAsk) rfl
          simpa using this)
        have HId1 : Hid (∀ W, Below w.heap.size w W → W.cell? ⟨b, off + k * 4 + 1, none⟩ = some (.int .i64 ops[k].fGroup.fID)) := Lib.hid (fun W hb => HR0.out W hb 1 _ rfl)
        have HG := Lib.hid (HOk.out k hlt)
        clear hcell HOC HOk HR0
        generalize ops[k] = x at *
        obtain ⟨ask, g⟩ := x
        simp only at HRg HAsk HId1 HG
        have HFew := Lib.hid (fun W hb => few_any W g (HG.out W hb))
        have r1 := HRg.out _ HB.out
        go_wp2_with (first
          | (refine wpList_load_mid rfl 24 _ rfl _ _ rfl _ _ r1 Try.underlying24 rfl (by kernel_rfl) ?_)
          | fail)
        refine (HFew.out _ HB.out).mono ?_
        rintro e w2 ⟨rfl, hb2⟩
        replace HT := Lib.hid (HT.out.below hb2 (Nat.le_refl _))
        replace HB := Lib.hid (HB.out.trans (hb2.mono HB.out.size))
        clear hb2 HFew r1
        cases hf : fewF g with
        | false =>
          clear hf
          go_wp2_with fail
          refine (HA.out _).mono ?_
          rintro e w3 ⟨rfl, hb3⟩
          replace HB := Lib.hid (HB.out.trans (hb3.mono HB.out.size))
          clear hb3
          go_wp2_with fail
          go_ret
          exact ⟨rfl, HB.out⟩
        | true =>
          clear hf
          have r1 := HRg.out _ HB.out
          have a1 := HAsk.out _ HB.out
          have i1 := HId1.out _ HB.out
          by_cases h0 : ask = 0
          · have t0 : (ask == 0) = true := by simpa using h0
            have HAd := Lib.hid (Add_any w2 tb mb room l HT.out g (HG.out _ HB.out) (by have := HI.out.ok.1; omega))
            clear h0
            go_wp2_with (first
              | (refine wpList_load_mid rfl 24 _ rfl _ _ rfl _ _ r1 Try.underlying24 rfl (by kernel_rfl) ?_)
              | fail)
            refine HAd.out.mono ?_
            rintro e w3 ⟨rfl, hg3, hq3⟩
            have HB3 := Lib.hid (HB.out.grown hg3 HB.out.size (fun q hq => by cases hq; exact HMb.out))
            have HX : Hid (∃ l', TableW w3 tb mb room l' ∧ TabI l' room) := Lib.hid (by
              rcases hq3 with ⟨_, h⟩ | ⟨h0, g', hc, h⟩
              · exact ⟨l, h, HI.out⟩
              · exact ⟨_, h, HI.out.add hr2 h0 hc⟩)
            clear hg3 hq3 HAd HT HI r1 a1 i1
            generalize addF l room g.fID g.fKind (g.fBuckets.map coreB) = z at *
            go_wp2_with fail
            obtain ⟨l', hT', hI'⟩ := HX.out
            go_roundw
            case rel => exact ⟨k + 1, l', by omega, by omega, by go_num, Lib.hid hT', Lib.hid hI', HB3⟩
            case measure => simp [intOf]; omega
          · have t0 : (ask == 0) = false := by simpa using h0
            by_cases h1 : ask = 1
            · have t1 : (ask == 1) = true := by simpa using h1
              have HAd := Lib.hid (Modify_any w2 tb mb room l HT.out HI.out.ok g (HG.out _ HB.out))
              clear h0 h1
              go_wp2_with (first
                | (refine wpList_load_mid rfl 24 _ rfl _ _ rfl _ _ r1 Try.underlying24 rfl (by kernel_rfl) ?_)
                | fail)
              refine HAd.out.mono ?_
              rintro e w3 ⟨rfl, hg3, hq3⟩
              have HB3 := Lib.hid (HB.out.grown hg3 HB.out.size (fun q hq => by cases hq; exact HMb.out))
              have HX : Hid (∃ l', TableW w3 tb mb room l' ∧ TabI l' room) := Lib.hid (by
                rcases hq3 with ⟨_, h⟩ | ⟨h0, g', hc, h⟩
                · exact ⟨l, h, HI.out⟩
                · exact ⟨_, h, HI.out.modify h0 hc⟩)
              clear hg3 hq3 HAd HT HI r1 a1 i1
              generalize modF l g.fID g.fKind (g.fBuckets.map coreB) = z at *
              go_wp2_with fail
              obtain ⟨l', hT', hI'⟩ := HX.out
              go_roundw
              case rel => exact ⟨k + 1, l', by omega, by omega, by go_num, Lib.hid hT', Lib.hid hI', HB3⟩
              case measure => simp [intOf]; omega
            · have t1 : (ask == 1) = false := by simpa using h1
              have HAd := Lib.hid (Delete_any w2 tb mb room l HT.out HI.out.ok g.fID (HG.out _ HB.out).1)
              clear h0 h1
              go_wp2_with fail
              refine HAd.out.mono ?_
              rintro e w3 ⟨rfl, hg3, hq3⟩
              have HB3 := Lib.hid (HB.out.grown hg3 HB.out.size (fun q hq => by cases hq; exact HMb.out))
              have HX : Hid (∃ l', TableW w3 tb mb room l' ∧ TabI l' room) := Lib.hid (by
                rcases hq3 with ⟨_, h⟩ | ⟨h0, h⟩
                · exact ⟨l, h, HI.out⟩
                · exact ⟨_, h, HI.out.delete h0⟩)
              clear hg3 hq3 HAd HT HI r1 a1 i1
              generalize delF l g.fID = z at *
              go_wp2_with fail
              obtain ⟨l', hT', hI'⟩ := HX.out
              go_roundw
              case rel => exact ⟨k + 1, l', by omega, by omega, by go_num, Lib.hid hT', Lib.hid hI', HB3⟩
              case measure => simp [intOf]; omega
      · rcases (by omega : ¬ k < ops.length ∨ (k < ops.length ∧ ¬ k < 40)) with hx | ⟨hx, hy⟩
        case' inl => have d2 : decide (k < ops.length) = false := by simpa using hx
        case' inr =>
          have d2 : decide (k < ops.length) = true := by simpa using hx
          have d3 : decide ((k : Int) < 40) = false := decide_eq_false (by omega)
          clear hy
        all_goals
          clear hx hlt
          clear HDone HOC HOk
          have HLi := Lib.hid (List_any wr tb mb room l HT.out HI.out.ok)
          go_wp2_with fail
          refine HLi.out.mono ?_
          rintro e w3 ⟨lv, B, gs, rfl, hB3, ho3, hgs3, hok3, hb3⟩
          have HT3 := Lib.hid (HT.out.below hb3 (Nat.le_refl _))
          have HB3 := Lib.hid (HB.out.trans (hb3.mono HB.out.size))
          have HLen := Lib.hid (listed HI.out hgs3).1
          have HRk := Lib.hid (listed_rank HI.out hgs3)
          have HTh := Lib.hid (fun g (hg : g ∈ gs) => listed_there HI.out hgs3 hg (hok3 g hg))
          have HOk3 := Lib.hid hok3
          have HRd := Lib.hid (ReadL.of_own ho3 encGroup_len)
          have HTb := Lib.hid HI.out.ok
          have hle : (gs.length : Int) ≤ room := by have := HI.out.len; have := HLen.out; omega
          have hl64 : gs.length ≤ 64 := by omega
          have HThere := Lib.hid (fun W (hb : Below w3.heap.size w3 W) => there_any W tb mb room l (HT3.out.below hb (Nat.le_refl _)) HTb.out lv gs (HRd.out.below hb (Nat.le_refl _)) (fun g hg => ⟨okGroup_below (HOk3.out g hg) hb (Nat.le_refl _), HTh.out g hg⟩))
          obtain ⟨la, lcap, hlv, hlcap, hlmax⟩ := ho3.slice
          subst hlv
          unfold maxLen at hlmax
          clear hB3 ho3 hgs3 hok3 hb3 HLi HT HI HB HLen HT3 HTb
          have d5 : decide (room < (gs.length : Int)) = false := decide_eq_false (by omega)
          have HO1 := Lib.hid (fun g (hg : g ∈ gs) u (hu : u ∈ encGroup g) => (by
            have := (HOk3.out g hg).2.2.1.1.one
            simp [encGroup] at hu; rcases hu with rfl | rfl | rfl <;> first | rfl | exact this : u.oneCell' = true))
          go_upto_region 19 with fail
          go_wp2_with (at_builtin; go_must (refine wpList_append_list (B := w3.heap.size) (vx := .slice none 0 0) (vy := .slice la gs.length lcap) (xs := ([] : List Group)) (ys := gs) rfl _ _ rfl Try.underlying49 groupInfo rfl (by decide) encGroup_len rfl rfl (OwnL.nil _ _ _ _ _) HRd.out HO1.out ?c1 ?c2 (Nat.le_refl _) ?_))
          case c1 => simp; omega
          case c2 => simp; omega
          intro v4 w4 ho4 hg4 _
          have HB4 : Hid (Below w3.heap.size w3 w4) := Lib.hid (grownBy_none hg4)
          have HR4 := Lib.hid (ReadL.of_own ho4 encGroup_len)
          have HZ4 := Lib.hid (rounds_nil gs.length gs HRk.out (Nat.le_refl _))
          clear ho4 hg4
          go_wp2_with fail
          go_loopw [9, 10] (fun fv iv wr => ∃ (r : Nat) (L : List Group), r ≤ gs.length ∧ iv = .int .i64 r ∧ Hid (ReadL wr 3 encGroup fv L) ∧ Hid (∀ g ∈ L, g ∈ gs) ∧ Hid (L.length ≤ 64) ∧ Hid (roundsG (gs.length - r) L = []) ∧ Hid (Below w3.heap.size w3 wr)) (fun _ iv _ => gs.length - (intOf iv).toNat)
          case atStart => exact ⟨0, gs, Nat.zero_le _, rfl, HR4, Lib.hid (fun g h => h), Lib.hid hl64, HZ4, HB4⟩
          case round =>
            obtain ⟨r, L, hr, rfl, HF, HSub, HLl, HZ, HB⟩ := hrel
            obtain ⟨fa, fcap, hfv, hfcap, hfmax⟩ := HF.out.slice
            subst hfv
            unfold maxLen at hfmax
            have hL64 := HLl.out
            by_cases hrt : r < gs.length
            · have d6 : decide (r < gs.length) = true := by simpa using hrt
              obtain ⟨B0, hB0⟩ : ∃ B0, B0 = wr.heap.size := ⟨_, rfl⟩
              obtain ⟨wR, hwR⟩ : ∃ wR : World, wR = wr := ⟨_, rfl⟩
              have HBR : Hid (Below w3.heap.size w3 wR ∧ w3.heap.size ≤ B0 ∧ B0 = wR.heap.size) := Lib.hid ⟨by rw [hwR]; exact HB.out, by rw [hB0]; exact HB.out.size, by rw [hB0, hwR]⟩
              have HFR : Hid (ReadL wR 3 encGroup (.slice fa L.length fcap) L) := Lib.hid (by rw [hwR]; exact HF.out)
              have HBI : Hid (Below B0 wR wr) := Lib.hid (by rw [hB0, hwR]; exact Below.refl _ _)
              clear hB0 hwR HF HB
              go_wp2_with fail
              go_loopw [11, 12] (fun nv iv wr => ∃ (i : Nat), i ≤ L.length ∧ iv = .int .i64 i ∧ Hid (OwnL wr B0 24 3 encGroup nv ((L.take i).filter fun g => ledG g.fBuckets L)) ∧ Hid (Below B0 wR wr)) (fun _ iv _ => L.length - (intOf iv).toNat)
              case atStart => exact ⟨0, Nat.zero_le _, rfl, Lib.hid (OwnL.nil _ _ _ _ _), HBI⟩
              case round =>
                obtain ⟨i, hi, rfl, HO, HBI⟩ := hrel
                by_cases hit : i < L.length
                · have d7 : decide (i < L.length) = true := by simpa using hit
                  rcases HFR.out with ⟨fa', fcap', hfv', _, _, hnil | ⟨fb, foff, rfl, hfblt, hfcell⟩⟩
                  · rw [hnil] at hit; simp at hit
                  obtain ⟨rfl, rfl⟩ : fa = some ⟨fb, foff, none⟩ ∧ fcap = fcap' := by simpa using hfv'
                  have HRow := Lib.hid (fun W (hb : Below B0 wR W) => range_of hfcell hb (by rw [HBR.out.2.2]; exact hfblt) i hit)
                  have hgm := HSub.out _ (List.getElem_mem hit)
                  have hB3 : ∀ W, Below B0 wR W → Below w3.heap.size w3 W := fun W hb => HBR.out.1.trans (hb.mono HBR.out.2.1)
                  have HLe := Lib.hid (fun W (hb : Below B0 wR W) => lleads_any W L[i] (okGroup_below (HOk3.out _ hgm) (hB3 W hb) (Nat.le_refl _)) (HTh.out _ hgm).1 (.slice (some ⟨fb, foff, none⟩) L.length fcap) L (HFR.out.below hb (by rw [HBR.out.2.2]; exact Nat.le_refl _)))
                  have HSn : Hid (((L.take (i + 1)).filter fun g => ledG g.fBuckets L) = ((L.take i).filter fun g => ledG g.fBuckets L) ++ if ledG L[i].fBuckets L = true then [L[i]] else []) := Lib.hid (filter_take (fun g => ledG g.fBuckets L) L i hit)
                  have HNl : Hid (((L.take i).filter fun g => ledG g.fBuckets L).length ≤ 64) := Lib.hid (by
                    have h1 := List.length_filter_le (fun g => ledG g.fBuckets L) (L.take i)
                    have h2 := List.length_take_le i L
                    omega)
                  have h1y := HO1.out _ hgm
                  clear hgm hfcell hfv'
                  obtain ⟨N2, hN2⟩ : ∃ N2, N2 = ((L.take (i + 1)).filter fun g => ledG g.fBuckets L) := ⟨_, rfl⟩
                  rw [← hN2] at HSn
                  have HN2 := Lib.hid hN2
                  clear hN2
                  generalize L[i] = g at *
                  generalize ((L.take i).filter fun g => ledG g.fBuckets L) = N at *
                  have r1 := HRow.out _ HBI.out
                  simp only [encGroup] at r1
                  go_wp2_with (first
                    | (refine wpList_load_mid rfl 24 _ rfl _ _ rfl _ _ r1 Try.underlying24 rfl (by kernel_rfl) ?_)
                    | fail)
                  refine (HLe.out _ HBI.out).mono ?_
                  rintro e w5 ⟨rfl, hb5⟩
                  have HO5 := Lib.hid (HO.out.belowAll hb5)
                  have HB5 := Lib.hid (HBI.out.trans (hb5.mono (by have := HBI.out.size; rw [← HBR.out.2.2] at this; exact this)))
                  have hle5 : B0 ≤ w5.heap.size := by have := HB5.out.size; rw [← HBR.out.2.2] at this; exact this
                  have hnl := HNl.out
                  clear hb5 HLe r1 HO HBI
                  cases hld : ledG g.fBuckets L with
                  | false =>
                    rw [hld, if_neg (by simp), List.append_nil] at HSn
                    rw [← HSn.out] at HO5
                    clear hld
                    go_wp2_with fail
                    go_roundw
                    case rel => exact ⟨i + 1, by omega, by go_num, Lib.hid (by rw [← HN2.out]; exact HO5.out), HB5⟩
                    case measure => simp [intOf]; omega
                  | true =>
                    rw [hld, if_pos rfl] at HSn
                    clear hld
                    have r1 := HRow.out _ HB5.out
                    simp only [encGroup] at r1
                    go_wp2_with (first
                      | (refine wpList_load_mid rfl 24 _ rfl _ _ rfl _ _ r1 Try.underlying24 rfl (by kernel_rfl) ?_)
                      | (at_builtin; refine app_at HO5.out g Try.underlying49 groupInfo rfl (by decide) encGroup_len h1y rfl rfl rfl rfl ?c1 ?c2 hle5 ?_)
                      | fail)
                    case c1 => omega
                    case c2 => omega
                    intro g6 cap6 w6 hown6 hgrow6 _
                    rw [← HSn.out] at hown6
                    have HO6 := Lib.hid hown6
                    have HB6 := Lib.hid (HB5.out.grown hgrow6 (by have := hle5; exact HB5.out.size |> fun h => by rw [← HBR.out.2.2] at h; exact h) (fun q hq => (HO5.out.block q hq).1))
                    clear hown6 hgrow6 HO5 HB5 HSn r1
                    go_wp2_with fail
                    go_roundw
                    case rel => exact ⟨i + 1, by omega, by go_num, Lib.hid (by rw [← HN2.out]; exact HO6.out), HB6⟩
                    case measure => simp [intOf]; omega
                · have d7 : decide (i < L.length) = false := by simpa using hit
                  rw [List.take_of_length_le (by omega)] at HO
                  have HR2 := Lib.hid (ReadL.of_own HO.out encGroup_len)
                  have HZ2 : Hid (roundsG (gs.length - (r + 1)) (L.filter fun g => ledG g.fBuckets L) = []) := Lib.hid (by
                    have := HZ.out
                    rw [show gs.length - r = (gs.length - (r + 1)) + 1 by omega, roundsG] at this
                    exact this)
                  have HS2 : Hid (∀ g ∈ (L.filter fun g => ledG g.fBuckets L), g ∈ gs) := Lib.hid (fun g hg => HSub.out g (List.mem_filter.1 hg).1)
                  have HL2 : Hid ((L.filter fun g => ledG g.fBuckets L).length ≤ 64) := Lib.hid (Nat.le_trans (List.length_filter_le _ _) hL64)
                  have HB2 := Lib.hid (HBR.out.1.trans (HBI.out.mono HBR.out.2.1))
                  clear HO HBI HZ HSub
                  generalize (L.filter fun g => ledG g.fBuckets L) = N at *
                  go_wp2_with fail
                  go_roundw
                  case rel => exact ⟨r + 1, N, by omega, by go_num, HR2, HS2, HL2, HZ2, HB2⟩
                  case measure => simp [intOf]; omega
            · have d6 : decide (r < gs.length) = false := by simpa using hrt
              have hz := HZ.out
              rw [show gs.length - r = 0 by omega, roundsG] at hz
              subst hz
              simp only [List.length_nil] at *
              go_wp2_with fail
              refine (HThere.out _ HB.out).mono ?_
              rintro e w5 ⟨rfl, hb5⟩
              have HB5 := Lib.hid (HB.out.trans (hb5.mono HB.out.size))
              clear hb5
              go_wp2_with fail
              refine (HA.out _).mono ?_
              rintro e w6 ⟨rfl, hb6⟩
              have HB6 := Lib.hid (HB3.out.trans ((HB5.out.trans (hb6.mono HB5.out.size)).mono HB3.out.size))
              clear hb6
              go_wp2_with fail
              go_ret
              exact ⟨rfl, HB6.out⟩
end Go.Proofs.Ytfjngecgfmlnfaa
