/- comes: whether from some groups one comes to a group. -/
import Derived.Test.YtfjngecgfmlnfaaGroupS
import Derived.Deep.LoopGhost
namespace Go.Proofs.Ytfjngecgfmlnfaa
open Go.RowKit Go.Maps Go.Deep
set_option linter.unusedVariables false
set_option linter.unusedSimpArgs false

theorem zeroBoo (w : World) : (zeroValue 4).run Try.prog w = .ok (.bool false) w := by kernel_rfl
theorem seen_get {w : World} {sb : Nat} {seen : List Int} (h : MapL w sb keyI boV (seenM seen)) (hs : ∀ n ∈ seen, wfI n) (n : Int) (hn : wfI n) : (Instr.lookup 86 (.map (some sb)) (.int .i64 n) false).run Try.prog w = .ok (.bool (decide (n ∈ seen))) w := by
  have hl := h.look keyE_int (T := 86) (E := 4) Try.underlying86 zeroBoo (fun p hp => by
    unfold seenM at hp
    obtain ⟨m, hm, rfl⟩ := List.mem_map.1 hp
    exact hs m hm) n hn false
  rw [← seenM_look]
  cases hq : lookL (seenM seen) n with
  | none => rw [hq] at hl; simpa [keyI, boV] using hl
  | some g => rw [hq] at hl; simpa [keyI, boV] using hl
theorem seen_put {w : World} {sb : Nat} {seen : List Int} (h : MapL w sb keyI boV (seenM seen)) (hs : ∀ n ∈ seen, wfI n) (n : Int) (hn : wfI n) (hne : n ∉ seen) :
    ∃ w', (Instr.mapUpdate 86 (.map (some sb)) (.int .i64 n) (.bool true)).run Try.prog w = .ok () w' ∧ MapL w' sb keyI boV (seenM (seen ++ [n])) ∧ Bar sb w w' := by
  have hl := h.update keyE_int (T := 86) (E := 4) Try.underlying86 (fun p hp => by
    unfold seenM at hp
    obtain ⟨m, hm, rfl⟩ := List.mem_map.1 hp
    exact hs m hm) n hn true
  rwa [seenM_put seen n hne] at hl
/-- What comes' last region keeps. -/
def ComesS (w0 : World) (tb mb sb : Nat) (room : Int) (l : List (Int × Group)) (seen : List Int) (tv : Value) (todo : List Int) (w W : World) : Prop :=
  TableW W tb mb room l ∧ MapL W sb keyI boV (seenM seen) ∧ TodoW W sb tv todo ∧ Below w.heap.size w W ∧ Below sb w0 W
section
variable {w0 w W W' : World} {tb mb sb : Nat} {room : Int} {l : List (Int × Group)} {seen todo : List Int} {tv : Value}
theorem ComesS.drew (h : ComesS w0 tb mb sb room l seen tv todo w W) : ComesS w0 tb mb sb room l seen tv todo w W.drew :=
  ⟨h.1.drew, h.2.1.drew, h.2.2.1, h.2.2.2.1.drew, h.2.2.2.2.drew⟩
theorem ComesS.call (h : ComesS w0 tb mb sb room l seen tv todo w W) (hb : Below W.heap.size W W') : ComesS w0 tb mb sb room l seen tv todo w W' :=
  ⟨h.1.below hb (Nat.le_refl _), h.2.1.below hb h.2.1.lt, h.2.2.1.below hb (Nat.le_refl _), h.2.2.2.1.trans (hb.mono h.2.2.2.1.size), h.2.2.2.2.trans (hb.mono (by have := h.2.1.lt; omega))⟩
end
def ComesPost (w : World) (nx : Int → List Int) (L : List Int) (id : Int) (e : Ending) (w' : World) : Prop := ∃ b, e = .returned (.bool b) ∧ (b = true ↔ ∃ n ∈ L, Comes nx n id) ∧ Below w.heap.size w w'

set_option maxRecDepth 100000 in
set_option maxHeartbeats 8000000 in
theorem comes_any (w : World) (tb mb : Nat) (room : Int) (l : List (Int × Group)) (h : TableW w tb mb room l) (hok : TabOk l) (v : Value) (L : List Int) (hr : ReadL w 1 encI v L) (hL : L.length ≤ 400) (hwf : ∀ n ∈ L, wfI n) (id : Int) :
    Calls Try.prog 42 #[.pointer (some ⟨tb, 0, none⟩), v, .int .i64 id] w (ComesPost w (nextF l) L id) := by
  have HT := Lib.hid h
  have HOK := Lib.hid hok
  have HTd := Lib.hid (TodoW.of_read hr (Nat.le_refl _))
  obtain ⟨a0, cap0, hv0, hq0, hm0, _⟩ := hr
  subst hv0
  have HL := Lib.hid hL
  have HWf := Lib.hid hwf
  have hmm := @run_makeMap Try.prog
  have HM0 := Lib.hid (MapL.new w keyI boV)
  have HB0 := Lib.hid ((Below.refl w.heap.size w).alloc (Nat.le_refl _) (.map #[] 0))
  replace HTd := Lib.hid (HTd.out.below HB0.out (Nat.le_refl _))
  clear h hok hL hwf
  go_enter Try.func42, Try.ntmps42
  go_wp2_with fail
  generalize hsb : w.heap.size = sb at *
  have HSB := Lib.hid hsb
  clear hmm hsb
  go_loopg [8] (L.length + 401 * unseen l []) (fun k tv wr => ∃ todo seen : List Int, Hid (TodoW wr sb tv todo) ∧ Hid (MapL wr sb keyI boV (seenM seen)) ∧ Hid (ComesI (nextF l) L id todo seen) ∧ Hid ((∀ n ∈ todo, wfI n) ∧ (∀ n ∈ seen, wfI n) ∧ k = todo.length + 401 * unseen l seen ∧ k ≤ 30000) ∧ Hid (Below sb w wr))
  case atStart =>
    refine ⟨L, [], HTd, HM0, Lib.hid (ComesI.init _ _ _), Lib.hid ⟨HWf.out, by simp, rfl, ?_⟩, HB0⟩
    have := HL.out
    have := HOK.out.1
    have := unseen_len l []
    omega
  case round =>
    obtain ⟨todo, seen, HTd, HM, HI, HN, HB⟩ := hrel
    cases todo with
    | nil =>
      obtain ⟨a, cap, rfl, _⟩ := HTd.out
      simp only [List.length_nil]
      go_wp2_with fail
      go_ret
      exact ⟨false, rfl, ⟨fun h => (by cases h), fun h => absurd h HI.out.done⟩, by rw [HSB.out]; exact HB.out⟩
    | cons n t =>
      obtain ⟨b, off, cap, rfl, hcap, hmax, hcell, htl⟩ := HTd.out.tail
      unfold maxLen at hmax
      have HTl := Lib.hid htl
      clear htl HTd
      go_upto_region 6 with fail
      generalize (Value.slice (if cap = 1 then some ⟨b, off, none⟩ else some ⟨b, off + 1, none⟩) t.length (cap - 1)) = tv2 at *
      clear hcell
      by_cases hn : n = id
      · have t1 : (n == id) = true := by simpa using hn
        subst hn
        have HH := Lib.hid HI.out.hit
        clear HTl
        go_wp2_with fail
        go_ret
        exact ⟨true, rfl, ⟨fun _ => HH.out, fun _ => rfl⟩, by rw [HSB.out]; exact HB.out⟩
      · have t1 : (n == id) = false := by simpa using hn
        have hlk := seen_get HM.out HN.out.2.1 n (HN.out.1 n (by simp))
        by_cases hs : n ∈ seen
        · rw [decide_eq_true hs] at hlk
          have HI2 := Lib.hid (HI.out.skip hs)
          clear hn hs
          go_wp2_with fail
          go_roundg (t.length + 401 * unseen l seen)
          case measure => have := HN.out.2.2.1; simp at this; omega
          case rel => exact ⟨t, seen, HTl, HM, HI2, Lib.hid ⟨fun m hm => HN.out.1 m (by simp [hm]), HN.out.2.1, rfl, by have := HN.out.2.2; simp at this; omega⟩, HB⟩
        · rw [decide_eq_false hs] at hlk
          obtain ⟨w2, hup, hM2, hbar⟩ := seen_put HM.out HN.out.2.1 n (HN.out.1 n (by simp)) hs
          have HHs := Lib.hid hs
          clear hs
          have HT2 := Lib.hid (HT.out.below (hbar.below HB.out (Nat.le_refl _) (by rw [← HSB.out]; exact HB.out.size)) (by rw [HSB.out]; exact Nat.le_refl _))
          have K : Hid (ComesS w tb mb sb room l (seen ++ [n]) tv2 t w2 w2) := Lib.hid ⟨HT2.out, hM2, HTl.out.bar hbar, Below.refl _ _, hbar.below HB.out (Nat.le_refl _) (by rw [← HSB.out]; exact HB.out.size)⟩
          have HSz : Hid (sb < w2.heap.size) := Lib.hid hM2.lt
          have HI2 := Lib.hid (HI.out.more hn)
          have HMs := Lib.hid (more_measure HOK.out (t := t) HHs.out)
          go_upto_region 10 with fail
          clear hup hM2 hbar HT2 HTl HM HI hlk t1 HTd
          have hnw := Lib.hid (HN.out.1 n (by simp))
          have HCl := Lib.hid (fun W (hS : ComesS w tb mb sb room l (seen ++ [n]) tv2 t w2 W) => cloneInt W tv2 t hS.2.2.1.read (fun x _ => encI_one x) (by have := HN.out.2.2; simp at this; omega))
          have HLd := Lib.hid (fun W (hS : ComesS w tb mb sb room l (seen ++ [n]) tv2 t w2 W) => leads_any W (getG l n) (hS.1.getOk n).ok (HOK.out.lead n))
          refine wp_region_noPanic ?_
          refine wp_region_G 9 (ComesS w tb mb sb room l (seen ++ [n]) tv2 t w2) (by kernel_rfl) ?_
          change wpG _ _ _ _ _ 11 #[false, false, false, false, false, false, false, false, false, false, false] _ (World.drew _)
          replace K := Lib.hid K.out.drew
          refine wpG_pure (i := 0) (v := ?_) rfl (by kernel_rfl) (by kernel_rfl) (by kernel_rfl) (fun _ _ _ h => h) (Or.inl ⟨by rfl, ?_⟩) ?_
          rotate_left
          · (intro w_ hS; clear hS; go_simp; try with_reducible rfl)
          try simp only [List.getElem_toArray, List.getElem_cons_zero, List.getElem_cons_succ, Act.put, List.setIfInBounds_toArray, List.set_cons_zero, List.set_cons_succ]
          refine wpG_pure (i := 2) (v := ?_) rfl (by kernel_rfl) (by kernel_rfl) (by kernel_rfl) (fun _ _ _ h => h) (Or.inl ⟨by rfl, ?_⟩) ?_
          rotate_left
          · (intro w_ hS; clear hS; go_simp; try with_reducible rfl)
          try simp only [List.getElem_toArray, List.getElem_cons_zero, List.getElem_cons_succ, Act.put, List.setIfInBounds_toArray, List.set_cons_zero, List.set_cons_succ]
          refine wpG_pure (i := 3) (v := ?_) rfl (by kernel_rfl) (by kernel_rfl) (by kernel_rfl) (fun _ _ _ h => h) (Or.inl ⟨by rfl, ?_⟩) ?_
          rotate_left
          · (intro w_ hS; clear hS; go_simp; try with_reducible rfl)
          try simp only [List.getElem_toArray, List.getElem_cons_zero, List.getElem_cons_succ, Act.put, List.setIfInBounds_toArray, List.set_cons_zero, List.set_cons_succ]
          refine wpG_pure (i := 4) (v := ?_) rfl (by kernel_rfl) (by kernel_rfl) (by kernel_rfl) (fun _ _ _ h => h) (Or.inl ⟨by rfl, ?_⟩) ?_
          rotate_left
          · (intro w_ hS; clear hS; go_simp; try with_reducible rfl)
          try simp only [List.getElem_toArray, List.getElem_cons_zero, List.getElem_cons_succ, Act.put, List.setIfInBounds_toArray, List.set_cons_zero, List.set_cons_succ]
          refine wpG_take (i := 5) (v := ?_) rfl (by kernel_rfl) (by kernel_rfl) (by kernel_rfl) (fun _ _ _ h => h) (Or.inl ⟨by rfl, ?_⟩) K.out ?_
          rotate_left
          · (intro w_ hS; have cq_ := hS.1.tab.cell 1 _ rfl; clear hS; go_simp; try with_reducible rfl)
          try simp only [List.getElem_toArray, List.getElem_cons_zero, List.getElem_cons_succ, Act.put, List.setIfInBounds_toArray, List.set_cons_zero, List.set_cons_succ]
          refine wpG_pure (i := 6) (v := ?_) rfl (by kernel_rfl) (by kernel_rfl) (by kernel_rfl) (fun _ _ _ h => h) (Or.inl ⟨by rfl, ?_⟩) ?_
          rotate_left
          · (intro w_ hS; clear hS; go_simp; try with_reducible rfl)
          try simp only [List.getElem_toArray, List.getElem_cons_zero, List.getElem_cons_succ, Act.put, List.setIfInBounds_toArray, List.set_cons_zero, List.set_cons_succ]
          refine wpG_take (i := 7) (v := ?_) rfl (by kernel_rfl) (by kernel_rfl) (by kernel_rfl) (fun _ _ _ h => h) (Or.inl ⟨by rfl, ?_⟩) K.out ?_
          rotate_left
          · (intro w_ hS; have cq_ := hS.1.get n hnw.out; clear hS; go_simp; try with_reducible rfl)
          try simp only [List.getElem_toArray, List.getElem_cons_zero, List.getElem_cons_succ, Act.put, List.setIfInBounds_toArray, List.set_cons_zero, List.set_cons_succ]
          refine wpG_ready (i := 1) rfl (by kernel_rfl) (fun K_ hK => ?_)
          go_simp
          refine (HCl.out _ K.out).mono ?_
          rintro e w4 ⟨v4, rfl, ho4, hb4⟩
          replace K := Lib.hid (K.out.call hb4)
          refine hK.out _ _ (fun h_ _ => K.out) ?_
          clear hK K_
          try simp only [List.getElem_toArray, List.getElem_cons_zero, List.getElem_cons_succ, Act.put, List.setIfInBounds_toArray, List.set_cons_zero, List.set_cons_succ]
          refine wpG_ready (i := 8) rfl (by kernel_rfl) (fun K_ hK => ?_)
          go_simp
          refine (HLd.out _ K.out).mono ?_
          rintro e w5 ⟨v5, B5, hB5, rfl, ho5, hb5⟩
          replace K := Lib.hid (K.out.call hb5)
          refine hK.out _ _ (fun h_ _ => K.out) ?_
          clear hK K_
          try simp only [List.getElem_toArray, List.getElem_cons_zero, List.getElem_cons_succ, Act.put, List.setIfInBounds_toArray, List.set_cons_zero, List.set_cons_succ]
          have HO4 := Lib.hid (ho4.belowAll hb5)
          have HO5 := Lib.hid (ReadL.of_own ho5 encI_len)
          have HSb := HSz
          have hle : w2.drew.heap.size ≤ w5.heap.size := K.out.2.2.2.1.size
          have hll : t.length + (leadsF ((getG l n).fBuckets.map coreB)).length ≤ 1000000 := by
            have h1 := HOK.out.next_len n
            have h2 := HN.out.2.2
            unfold nextF at h1
            simp at h2
            omega
          clear ho4 ho5 hb4 hb5 hB5 HCl HLd
          refine wpG_ready (i := 9) rfl (by kernel_rfl) (fun K_ hK => ?_)
          rw [if_pos (by rfl)]
          refine wp_append_I _ _ rfl w2.drew.heap.size v4 v5 t (leadsF ((getG l n).fBuckets.map coreB)) rfl rfl HO4.out HO5.out hll hle ?_
          intro v6 w6 hown6 hgrow6 hat6
          have hB4 := fun k hk => (HO4.out.block k hk).1
          have HTd6 : Hid (TodoW w6 sb v6 (t ++ nextF l n)) := Lib.hid (TodoW.of_own hown6 HSb.out)
          have HM6 : Hid (MapL w6 sb keyI boV (seenM (seen ++ [n]))) := Lib.hid (K.out.2.1.of_block (hgrow6.block sb K.out.2.1.lt (fun hk => by have := hB4 sb hk.symm; have h1 := HSb.out; simp at this; omega)))
          have HB6 : Hid (Below sb w w6) := Lib.hid (K.out.2.2.2.2.grown hgrow6 (by have := K.out.2.1.lt; omega) (fun k hk => by have := hB4 k hk; have h1 := HSb.out; simp at this; omega))
          clear hown6 hgrow6 hat6 HO4 HO5 hB4 hle hll
          refine hK.out _ _ (fun h_ _ => absurd h_ (by decide)) ?_
          clear hK K_
          try simp only [List.getElem_toArray, List.getElem_cons_zero, List.getElem_cons_succ, Act.put, List.setIfInBounds_toArray, List.set_cons_zero, List.set_cons_succ]
          clear K
          refine wpG_pure (i := 10) (v := ?_) rfl (by kernel_rfl) (by kernel_rfl) (by kernel_rfl) (fun _ _ _ h => h) (Or.inl ⟨by rfl, ?_⟩) ?_
          rotate_left
          · (intro w_ hS; clear hS; go_simp; try with_reducible rfl)
          try simp only [List.getElem_toArray, List.getElem_cons_zero, List.getElem_cons_succ, Act.put, List.setIfInBounds_toArray, List.set_cons_zero, List.set_cons_succ]
          refine wpG_done (by kernel_rfl) ?_ _
          refine NoPanic.normal ?_
          go_wp2_with fail
          go_roundg ((t ++ nextF l n).length + 401 * unseen l (seen ++ [n]))
          case measure => have h1 := HN.out.2.2.1; have h2 := HMs.out; omega
          case rel =>
            refine ⟨t ++ nextF l n, seen ++ [n], HTd6, HM6, HI2, Lib.hid ⟨fun m hm => ?_, fun m hm => ?_, rfl, by have h1 := HN.out.2.2; have h2 := HMs.out; omega⟩, HB6⟩
            · rcases List.mem_append.1 hm with hm | hm
              · exact HN.out.1 m (by simp [hm])
              · exact HOK.out.next_wf n m hm
            · rcases List.mem_append.1 hm with hm | hm
              · exact HN.out.2.1 m hm
              · obtain rfl := List.mem_singleton.1 hm
                exact HN.out.1 m (by simp)
end Go.Proofs.Ytfjngecgfmlnfaa
