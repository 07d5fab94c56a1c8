/- A table of groups: List. -/
import Derived.Test.YtfjngecgfmlnfaaGroupX
import Derived.Test.YtfjngecgfmlnfaaAppL
namespace Go.Proofs.Ytfjngecgfmlnfaa
open Go.RowKit Go.Maps
set_option linter.unusedVariables false
set_option linter.unusedSimpArgs false

theorem okGX.stay {w : World} {m : Nat} {g : Group} (h : okGX w m g) {row : Option Nat} (hr : ∀ k, row = some k → k ≤ m) : Stay (fun W => okGroup W g) w row := by
  intro W hW
  cases row with
  | none => exact (h.below (grownBy_none hW) (Nat.le_refl _)).ok
  | some k => exact (h.bar (grownBy_Bar hW) (hr k rfl)).ok
theorem groupInfo : (Try.prog.info? 24).map (fun i => (i.zero, i.size, i.bytes)) = some (some (.agg #[.int .i64 0, .int .i64 0, .slice none 0 0]), 3, 40) := by kernel_rfl
def listF (l : List (Int × Group)) : List (Int × Int × List Core) := (sortI (l.map (·.1))).map fun id => coreG (getG l id)
theorem sortI_len (xs : List Int) : (sortI xs).length = xs.length := List.length_mergeSort ..
theorem sortI_wf {xs : List Int} (h : ∀ n ∈ xs, wfI n) : ∀ n ∈ sortI xs, wfI n := fun n hn => h n ((List.mergeSort_perm _ _).mem_iff.1 hn)
theorem snoc_map {α β γ : Type} (f : α → γ) (c : β → γ) (xs : List α) (gs : List β) (k : Nat) (hk : k < xs.length) (g : β) (h : gs.map c = (xs.take k).map f) (hg : c g = f xs[k]) : (gs ++ [g]).map c = (xs.take (k + 1)).map f := by
  rw [List.take_succ_eq_append_getElem hk, List.map_append, List.map_append, h]
  simp [hg]

set_option maxRecDepth 100000 in
set_option maxHeartbeats 8000000 in
theorem List_any (w : World) (tb mb : Nat) (room : Int) (l : List (Int × Group)) (h : TableW w tb mb room l) (hok : TabOk l) :
    Calls Try.prog 24 #[.pointer (some ⟨tb, 0, none⟩)] w fun e w' => ∃ v B gs, e = .returned v ∧ w.heap.size ≤ B ∧ OwnL w' B 24 3 encGroup v gs ∧ gs.map coreG = listF l ∧ (∀ g ∈ gs, okGroup w' g) ∧ Below w.heap.size w w' := by
  have HT := Lib.hid h
  have HTk := Lib.hid hok
  have HLs : Hid (listF l = _) := Lib.hid (by unfold listF; rfl)
  have hlen := hok.1
  have HSl : Hid ((sortI (l.map (·.1))).length ≤ 64) := Lib.hid (by rw [sortI_len]; simpa using hlen)
  have HSw : Hid (∀ n ∈ sortI (l.map (·.1)), wfI n) := Lib.hid (sortI_wf (fun n hn => by obtain ⟨p, hp, rfl⟩ := List.mem_map.1 hn; exact h.keys p hp))
  have c1 := h.tab.cell 1 _ rfl
  have HKy := Lib.hid (keys_any mb w)
  have HSo := Lib.hid (sorted_any h.map h.keys (by omega))
  generalize hids : sortI (l.map (·.1)) = ids at *
  clear h hok hlen hids
  go_enter Try.func24, Try.ntmps24
  go_wp2_with fail
  refine HKy.out.mono ?_
  rintro e w1 ⟨rfl, hw1⟩
  subst hw1
  have HB0 := Lib.hid ((Below.refl w.heap.size w).alloc (Nat.le_refl _) (.cells #[.map (some mb)] 66))
  clear HKy
  go_wp2_with fail
  refine HSo.out.mono ?_
  rintro e w2 ⟨v2, rfl, ho2, hb2⟩
  have HB := Lib.hid (HB0.out.trans (hb2.mono (Nat.le_succ _)))
  have HO2 := Lib.hid ho2
  obtain ⟨a2, cap2, hv2, hc2, hm2⟩ := ho2.slice
  subst hv2
  unfold maxLen at hm2
  obtain ⟨B, hB⟩ : ∃ B, B = w2.heap.size := ⟨_, rfl⟩
  have HBs : Hid (w.heap.size ≤ B ∧ ∀ k, (Value.slice a2 ids.length cap2).ownBlock = some k → k < B) := Lib.hid ⟨by rw [hB]; exact HB.out.size, fun k hk => by rw [hB]; exact (HO2.out.block k hk).2⟩
  have HBW : Hid (B ≤ w2.heap.size) := Lib.hid (by rw [hB]; exact Nat.le_refl _)
  have HSl2 := HSl.out
  clear ho2 hb2 HSo HB0 hB c1
  go_wp2_with fail
  go_loopw [3, 15] (fun ov iv wr => ∃ k : Nat, ∃ gs : List Group, k ≤ ids.length ∧ iv = .int .i64 k ∧ Hid (OwnL wr B 24 3 encGroup ov gs) ∧ Hid (gs.length = k) ∧ Hid (gs.map coreG = (ids.take k).map fun id => coreG (getG l id)) ∧ Hid (∀ g ∈ gs, Stay (fun W => okGroup W g) wr ov.ownBlock) ∧
    Hid (OwnL wr (w.heap.size + 1) 3 1 encI (.slice a2 ids.length cap2) ids) ∧ Hid (B ≤ wr.heap.size) ∧ Hid (Below w.heap.size w wr)) (fun _ iv _ => ids.length - (intOf iv).toNat)
  case atStart => exact ⟨0, [], Nat.zero_le _, rfl, Lib.hid (OwnL.nil _ _ _ _ _), Lib.hid rfl, Lib.hid (by simp), Lib.hid (by simp), HO2, HBW, HB⟩
  case round =>
    obtain ⟨k, gs, hk, rfl, HG, HGl, HGc, HGs, HO, HBW, HB⟩ := hrel
    by_cases hlt : k < ids.length
    · have d2 : decide (k < ids.length) = true := by simpa using hlt
      rcases HO.out.form encI_len with ⟨hnil, h0⟩ | ⟨b, cp, hv, hbB, hblt, _, _, _, hcell⟩
      · rw [h0] at hlt; simp at hlt
      obtain ⟨rfl, rfl⟩ : a2 = some ⟨b, 0, none⟩ ∧ cap2 = cp := by simpa using hv
      have r1 := hcell k 0 (.int .i64 ids[k]) hlt rfl
      simp only [Nat.mul_one, Nat.add_zero] at r1
      have hidw := HSw.out _ (List.getElem_mem hlt)
      have HSn := Lib.hid (fun (g : Group) (hg : coreG g = coreG (getG l ids[k])) => snoc_map (fun id => coreG (getG l id)) coreG ids gs k hlt g HGc.out hg)
      have HT1 := HT.out.below HB.out (Nat.le_refl _)
      have hlk := HT1.get ids[k] hidw
      have c1 := HT1.tab.cell 1 _ rfl
      have HKp := Lib.hid (kept_any wr (getG l ids[k]) (HT1.getOk ids[k]).ok (few_get HTk.out ids[k]))
      have hok := HT1.getOk ids[k]
      have HOkI := Lib.hid (And.intro hok.1 hok.2.1)
      have HCG : Hid (∀ g' : Group, coreG g' = coreG (getG l ids[k]) ↔ g'.fID = (getG l ids[k]).fID ∧ g'.fKind = (getG l ids[k]).fKind ∧ g'.fBuckets.map coreB = (getG l ids[k]).fBuckets.map coreB) := Lib.hid (fun g' => by simp [coreG])
      clear hok HT1 hcell hv hidw
      generalize getG l ids[k] = G at *
      generalize ids[k] = n at *
      go_wp2_with fail
      refine HKp.out.mono ?_
      rintro e w3 ⟨v3, news, rfl, hn3, hc3, hb3⟩
      have hN3 : okGX w3 (wr.heap.size - 1) ⟨G.fID, G.fKind, v3, news⟩ := hn3.okGX (by omega) HOkI.out.1 HOkI.out.2
      have HN3 : Hid (Stay (fun W => okGroup W ⟨G.fID, G.fKind, v3, news⟩) w3 u3.ownBlock) := Lib.hid (hN3.stay (fun q hq => by have := (HG.out.block q hq).2; omega))
      have HC3 := Lib.hid (HSn.out ⟨G.fID, G.fKind, v3, news⟩ ((HCG.out _).2 ⟨rfl, rfl, hc3⟩))
      have h1y : ∀ u ∈ encGroup ⟨G.fID, G.fKind, v3, news⟩, u.oneCell' = true := by
        have := hN3.2.2.1.read.one
        intro u hu; simp [encGroup] at hu; rcases hu with rfl | rfl | rfl <;> first | rfl | exact this
      have HG3 := Lib.hid (HG.out.belowAll hb3)
      have HGs3 := Lib.hid (fun g hg => (HGs.out g hg).below hb3)
      have HO3 := Lib.hid (HO.out.belowAll hb3)
      have HB3 := Lib.hid (HB.out.trans (hb3.mono HB.out.size))
      have HBW3 := Lib.hid (Nat.le_trans HBW.out hb3.size)
      have hgl : gs.length ≤ 64 := by have := HGl.out; omega
      have hle : B ≤ w3.heap.size := HBW3.out
      clear hN3 hn3 hc3 hb3 HKp hlk c1 HOkI HCG HSn HG HGs HO HB r1
      go_wp2_with (at_builtin; go_must (refine app_at HG3.out (⟨G.fID, G.fKind, v3, news⟩ : Group) Try.underlying49 groupInfo rfl (by decide) encGroup_len h1y rfl rfl rfl rfl ?c1 ?c2 hle ?_))
      case c1 => omega
      case c2 => omega
      intro g6 cap6 w6 hown6 hgrow6 hat6
      have HGs6 : Hid (∀ g ∈ gs ++ [⟨G.fID, G.fKind, v3, news⟩], Stay (fun W => okGroup W g) w6 (some g6)) := Lib.hid (by
        have hr : some g6 = u3.ownBlock ∨ ∀ q, some g6 = some q → w3.heap.size ≤ q := hat6.imp Eq.symm (fun h q e => by cases e; exact h)
        intro g hg
        rcases List.mem_append.1 hg with hg | hg
        · exact (HGs3.out g hg).grown hgrow6 hr
        · obtain rfl := List.mem_singleton.1 hg
          exact HN3.out.grown hgrow6 hr)
      have HO6 := Lib.hid (HO3.out.kept hgrow6 (.inr (fun e => by
        have h1 := (HG3.out.block b e.symm).1
        have h2 := HBs.out.2 b rfl
        omega)))
      have HB6 := Lib.hid (HB3.out.grown hgrow6 HB3.out.size (fun q hq => Nat.le_trans HBs.out.1 (HG3.out.block q hq).1))
      have HBW6 := Lib.hid (Nat.le_trans HBW3.out hgrow6.size)
      have HOwn6 := Lib.hid hown6
      clear hown6 hgrow6 hat6 HG3 HGs3 HO3 HB3 HBW3 HN3 h1y hle
      rw [HGl.out] at HOwn6 ⊢
      go_wp2_with fail
      go_roundw
      case rel => exact ⟨k + 1, gs ++ [⟨G.fID, G.fKind, v3, news⟩], by omega, by go_num, HOwn6, Lib.hid (by simp [HGl.out]), HC3, HGs6, HO6, HBW6, HB6⟩
      case measure => simp [intOf]; omega
    · have d2 : decide (k < ids.length) = false := by simpa using hlt
      have HGc2 : Hid (gs.map coreG = ids.map fun id => coreG (getG l id)) := Lib.hid (by rw [HGc.out, List.take_of_length_le (by omega)])
      go_wp2_with fail
      go_ret
      exact ⟨_, B, gs, rfl, HBs.out.1, HG.out, by rw [HLs.out]; exact HGc2.out, fun g hg => (HGs.out g hg).now, HB.out⟩
end Go.Proofs.Ytfjngecgfmlnfaa
