/- GroupOne: a bucket that is chosen is one of the group's, of a Failover the first one that is alive (printed by gen/law10b.py). -/
import Derived.Test.YtfjngecgfmlnfaaAwake10
namespace Go.Proofs.Ytfjngecgfmlnfaa
open Go.RowKit
set_option linter.unusedVariables false
set_option linter.unusedSimpArgs false

theorem atF_len {α : Type} (wt : α → Int) : ∀ (l : List α) (n : Int), (atF wt l n).length ≤ 1
  | [], _ => by simp [atF]
  | x :: r, n => by
    unfold atF
    split
    · simp
    · exact atF_len wt r _
theorem pickedF_len {α : Type} (wt : α → Int) (l : List α) (pick : Int) : (pickedF wt l pick).length ≤ 1 := by
  unfold pickedF
  split
  · simp
  · exact atF_len wt l _
def liveB (live : List Bool) (bs : List Bucket) (j : Nat) : Bool := match bs[j]? with
  | some b => aliveF b.fWatch live
  | none => false
theorem liveB_eq (live : List Bool) (bs : List Bucket) (j : Nat) (hj : j < bs.length) : liveB live bs j = aliveF bs[j].fWatch live := by
  unfold liveB; rw [List.getElem?_eq_getElem hj]
/-- The first one that is alive, of those from k on. -/
def FirstA (live : List Bool) (bs : List Bucket) (k : Nat) (av : Int) : Prop := (av = -1 ∧ ∀ j, k ≤ j → liveB live bs j = false) ∨
  ∃ m : Nat, m < bs.length ∧ k ≤ m ∧ av = m ∧ liveB live bs m = true ∧ ∀ j, k ≤ j → j < m → liveB live bs j = false
theorem FirstA.start (live : List Bool) (bs : List Bucket) : FirstA live bs bs.length (-1) := .inl ⟨rfl, fun j hj => by
  unfold liveB; rw [List.getElem?_eq_none hj]⟩
theorem FirstA.dead {live : List Bool} {bs : List Bucket} {m : Nat} {av : Int} (h : FirstA live bs (m + 1) av) (hd : liveB live bs m = false) : FirstA live bs m av := by
  rcases h with ⟨h1, h2⟩ | ⟨q, h1, h2, h3, h4, h5⟩
  · refine .inl ⟨h1, fun j hj => ?_⟩
    by_cases e : j = m
    · rw [e]; exact hd
    · exact h2 j (by omega)
  · refine .inr ⟨q, h1, by omega, h3, h4, fun j hj hjq => ?_⟩
    by_cases e : j = m
    · rw [e]; exact hd
    · exact h5 j (by omega) hjq
theorem FirstA.live {live : List Bool} {bs : List Bucket} {m : Nat} (hm : m < bs.length) (hd : liveB live bs m = true) : FirstA live bs m m :=
  .inr ⟨m, hm, Nat.le_refl _, rfl, hd, fun j hj hjm => absurd hjm (by omega)⟩
theorem FirstA.neg {live : List Bool} {bs : List Bucket} {av : Int} (h : FirstA live bs 0 av) (hn : av < 0) : ∀ j (hj : j < bs.length), aliveF bs[j].fWatch live = false := by
  rcases h with ⟨h1, h2⟩ | ⟨q, h1, h2, h3, h4, h5⟩
  · intro j hj; rw [← liveB_eq]; exact h2 j (Nat.zero_le _)
  · omega
theorem FirstA.pos {live : List Bool} {bs : List Bucket} {av : Int} (h : FirstA live bs 0 av) (hn : ¬ av < 0) : ∃ m : Nat, ∃ hm : m < bs.length, av = m ∧ aliveF bs[m].fWatch live = true ∧ ∀ j (hj : j < bs.length), j < m → aliveF bs[j].fWatch live = false := by
  rcases h with ⟨h1, h2⟩ | ⟨q, h1, h2, h3, h4, h5⟩
  · omega
  · refine ⟨q, h1, h3, by rw [← liveB_eq]; exact h4, fun j hj hjq => ?_⟩
    rw [← liveB_eq]; exact h5 j (Nat.zero_le _) hjq
/-- Of a Select: at most one, alive, of a weight. -/
theorem select_one {live : List Bool} {bs l : List Bucket} {pick av : Int} (hc : l.map coreB = chooseF 2 (bs.map coreB) live pick) (hf : FirstA live bs 0 av) : l.length ≤ 1 ∧ (l = [] ∨ (0 ≤ av ∧ ∃ x, l = [x] ∧ 0 < x.fWeight)) := by
  have h1 : chooseF 2 (bs.map coreB) live pick = pickedF (fun c : Core => c.2.1) ((bs.map coreB).filter (fitF live)) pick := by simp [chooseF]
  rw [h1] at hc
  have hl := pickedF_len (fun c : Core => c.2.1) ((bs.map coreB).filter (fitF live)) pick
  rw [← hc, List.length_map] at hl
  refine ⟨hl, ?_⟩
  match l, hl with
  | [], _ => exact .inl rfl
  | [x], _ =>
    right
    have hm : coreB x ∈ pickedF (fun c : Core => c.2.1) ((bs.map coreB).filter (fitF live)) pick := by rw [← hc]; simp
    have hm2 := pickedF_mem _ _ _ _ hm
    obtain ⟨hb, hfit⟩ := List.mem_filter.1 hm2
    simp only [fitF, Bool.and_eq_true, decide_eq_true_eq] at hfit
    obtain ⟨b, hb1, hb2⟩ := List.mem_map.1 hb
    refine ⟨?_, x, rfl, hfit.2⟩
    rcases Int.lt_or_le av 0 with hn | hn
    · exfalso
      obtain ⟨j, hj, rfl⟩ := List.getElem_of_mem hb1
      have h2 := hf.neg hn j hj
      have h3 : (coreB bs[j]).1 = (coreB x).1 := by rw [hb2]
      have h4 := hfit.1
      rw [← h3] at h4
      rw [show (coreB bs[j]).1 = bs[j].fWatch from rfl, h2] at h4
      cases h4
    · exact hn

set_option maxRecDepth 100000 in
set_option maxHeartbeats 16000000 in
theorem GroupOne_walk (w : World) (g : Group) (hok : okGroup w g) (lv : Value) (live : List Bool) (hl : ReadL w 1 encBo lv live) (htr : ∀ x ∈ live, True) (pick : Int) (wf : (Lit.int .i64 pick).wf = true) :
    Calls Try.prog 4 #[valGroup g, lv, .int .i64 pick] w fun x w' => x = .returned (.bool true) ∧ Below w.heap.size w w' := by
  have HA := Lib.hid awake10
  have hgv := hok.2.2.1.1.one
  have HFew : Hid (∀ W : World, Below w.heap.size w W → _) := Lib.hid (fun W hb => few_any W g ⟨hok.1, hok.2.1, ⟨hok.2.2.1.1.below hb (Nat.le_refl _), fun y hy => okBucket_below (hok.2.2.1.2 y hy) hb (Nat.le_refl _)⟩, trivial⟩)
  have HOk : Hid (∀ W : World, Below w.heap.size w W → okGroup W g) := Lib.hid (fun W hb => ⟨hok.1, hok.2.1, ⟨hok.2.2.1.1.below hb (Nat.le_refl _), fun y hy => okBucket_below (hok.2.2.1.2 y hy) hb (Nat.le_refl _)⟩, trivial⟩)
  have HCh : Hid (fewF g = true → (∀ b ∈ g.fBuckets, b.fWeight ≤ 1099511627776) → ∀ W : World, Below w.heap.size w W → Calls Try.prog 10 #[valGroup g, lv, .int .i64 pick] W (Chosen W W.heap.size g.fKind g.fBuckets live pick)) :=
    Lib.hid (fun hf hw W hb => Choose_any W g lv live pick (HOk.out W hb) hf (hl.below hb (Nat.le_refl _)) hw)
  have HLv := Lib.hid hl
  obtain ⟨la, lc, hlv, hlc, hlm⟩ := hl.slice
  subst hlv
  unfold maxLen at hlm
  obtain ⟨gi, gk, gv, bs⟩ := g
  obtain ⟨_, _, ⟨hR, hB⟩, _⟩ := hok
  simp only at *
  have hR0 := hR
  obtain ⟨a, cap, hgv', hcap, hmax, hc⟩ := hR
  subst hgv'
  unfold maxLen at hmax
  have HC := Lib.hid hc
  have HRd := Lib.hid hR0
  have HBk := Lib.hid hB
  clear hc hB hl hR0
  go_enter Try.func4, Try.ntmps4
  go_upto_region 1 with fail
  refine one_box_wp ?_
  intro W hb1 hbel hsz
  have K : Hid (KR w.heap.size w [(w.heap.size, 24, #[.int .i64 gi, .int .i64 gk, .slice a bs.length cap])] W) := Lib.hid ((KR.start hbel hbel.size).add hb1)
  clear hb1 hbel hsz
  go_wp2_with (first
    | (refine wpList_load_row rfl 24 _ rfl _ rfl _ _ _ _ (K.out.at 0 rfl) Try.underlying24 rfl (by kernel_rfl) ?_)
    | fail)
  refine (HFew.out _ K.out.below).mono ?_
  rintro x w1 ⟨rfl, hb1⟩
  replace K := Lib.hid (K.out.call hb1)
  clear hb1 HFew
  cases hf : fewF ⟨gi, gk, .slice a bs.length cap, bs⟩ with
  | false =>
    clear HCh HC HLv hf
    go_wp2_with fail
    refine (HA.out _).mono ?_
    rintro x w2 ⟨rfl, hb2⟩
    replace K := Lib.hid (K.out.call hb2)
    clear hb2
    go_wp2_with fail
    go_ret
    exact ⟨rfl, K.out.below⟩
  | true =>
    have HCh2 := Lib.hid (HCh.out hf)
    clear HCh hf
    by_cases h100 : 100 < live.length
    · have t1 : decide ((100 : Int) < (live.length : Int)) = true := decide_eq_true (by omega)
      clear HCh2 HC HLv h100
      go_wp2_with fail
      refine (HA.out _).mono ?_
      rintro x w2 ⟨rfl, hb2⟩
      replace K := Lib.hid (K.out.call hb2)
      clear hb2
      go_wp2_with fail
      go_ret
      exact ⟨rfl, K.out.below⟩
    · have t1 : decide ((100 : Int) < (live.length : Int)) = false := decide_eq_false (by omega)
      clear h100
      have c2 := (K.out.at 0 rfl).cell 2 _ rfl
      have hbl : (bs.length : Int) ≤ 9223372036854775807 := by omega
      go_wp2_with fail
      clear c2
      go_loopw [7, 8] (fun av iv wr => ∃ k : Nat, k ≤ bs.length ∧ iv = .int .i64 ((k : Int) - 1) ∧ (∃ al : Int, av = .int .i64 al ∧ Hid (FirstA live bs k al)) ∧ Hid (KR w.heap.size w [(w.heap.size, 24, #[.int .i64 gi, .int .i64 gk, .slice a bs.length cap])] wr) ∧ Hid (∀ j (hj : j < bs.length), k ≤ j → bs[j].fWeight ≤ 1099511627776)) (fun _ iv _ => (intOf iv + 1).toNat)
      case atStart => exact ⟨bs.length, Nat.le_refl _, rfl, ⟨-1, rfl, Lib.hid (FirstA.start _ _)⟩, K, Lib.hid (fun j hj hk => absurd hj (by omega))⟩
      case round =>
        obtain ⟨k, hk, rfl, ⟨al, rfl, HF⟩, K, HQ⟩ := hrel
        have c2 := (K.out.at 0 rfl).cell 2 _ rfl
        cases k with
        | succ m =>
          have hm : m < bs.length := by omega
          have em : ((m + 1 : Nat) : Int) - 1 = m := by omega
          rw [em]
          clear em
          have d2 : decide ((0 : Int) ≤ (m : Int)) = true := by simp
          rcases HC.out with hnil | ⟨b, off, rfl, hblt, hcell⟩
          · rw [hnil] at hm; simp at hm
          have e1 := (K.out.below.cell (p := ⟨b, off + (m * 3 + 1), none⟩) hblt).trans (hcell m 1 _ hm rfl)
          have e0 := (K.out.below.cell (p := ⟨b, off + (m * 3 + 0), none⟩) hblt).trans (hcell m 0 _ hm rfl)
          simp only [← Nat.add_assoc, Nat.add_zero] at e1 e0
          have HQ2 : Hid (bs[m].fWeight ≤ 1099511627776 → ∀ j (hj : j < bs.length), m ≤ j → bs[j].fWeight ≤ 1099511627776) := Lib.hid (fun h j hj hjk => if e : j = m then (by subst e; exact h) else HQ.out j hj (by omega))
          have HD := Lib.hid (fun h => HF.out.dead (liveB_eq live bs m hm ▸ h))
          have HL : Hid (aliveF bs[m].fWatch live = true → FirstA live bs m m) := Lib.hid (fun h => FirstA.live hm (by rw [liveB_eq live bs m hm]; exact h))
          have HAl : Hid (aliveF bs[m].fWatch live = (decide (bs[m].fWatch = 0) || (decide (0 < bs[m].fWatch) && decide (bs[m].fWatch < live.length) && live.getD bs[m].fWatch.toNat false))) := Lib.hid rfl
          clear hcell HC HQ HF HCh2 HRd HBk
          generalize bs[m].fWeight = wg at *
          generalize aliveF bs[m].fWatch live = R at *
          generalize bs[m].fWatch = x at *
          by_cases hwg : 1099511627776 < wg
          · have d3 : decide ((1099511627776 : Int) < wg) = true := decide_eq_true hwg
            clear HQ2 HD HL HAl HLv
            go_wp2_with fail
            refine (HA.out _).mono ?_
            rintro x wz ⟨rfl, hbz⟩
            replace K := Lib.hid (K.out.call hbz)
            clear hbz
            go_wp2_with fail
            go_ret
            exact ⟨rfl, K.out.below⟩
          have d3 : decide ((1099511627776 : Int) < wg) = false := decide_eq_false hwg
          have HQ3 := Lib.hid (HQ2.out (by omega))
          clear HQ2
          by_cases h0 : x = 0
          · subst h0
            have e : R = true := by rw [HAl.out]; simp
            have HF2 := Lib.hid (HL.out e)
            clear e HL HD HAl
            go_wp2_with fail
            go_roundw
            case rel => exact ⟨m, by omega, by go_num, ⟨_, rfl, HF2⟩, K, HQ3⟩
            case measure => simp [intOf]
          have b0 : (x == 0) = false := by simpa using h0
          by_cases h1 : 0 < x
          · have f1 : decide (0 < x) = true := decide_eq_true h1
            by_cases h2 : x < live.length
            · obtain ⟨q, rfl⟩ : ∃ q : Nat, x = q := ⟨x.toNat, by omega⟩
              have hq : q < live.length := by omega
              have f2 : decide (q < live.length) = true := decide_eq_true hq
              have e : R = live[q] := by rw [HAl.out, decide_eq_false h0, decide_eq_true h1, decide_eq_true h2]; simp [hq]
              subst e
              obtain ⟨lb, loff, lcap, hlv, _, _, hlblt, hlcell⟩ := HLv.out.cells (by omega)
              obtain ⟨rfl, rfl⟩ : la = some ⟨lb, loff, none⟩ ∧ lc = lcap := by simpa using hlv
              have e3 := (K.out.below.cell (p := ⟨lb, loff + q, none⟩) hlblt).trans (by simpa using hlcell q 0 _ hq rfl)
              clear hlcell HLv hlv HAl
              cases hlq : live[q] with
              | true =>
                rw [hlq] at e3
                have HF2 := Lib.hid (HL.out hlq)
                clear HL HD hlq
                go_wp2_with fail
                go_roundw
                case rel => exact ⟨m, by omega, by go_num, ⟨_, rfl, HF2⟩, K, HQ3⟩
                case measure => simp [intOf]
              | false =>
                rw [hlq] at e3
                have HF2 := Lib.hid (HD.out hlq)
                clear HL HD hlq
                go_wp2_with fail
                go_roundw
                case rel => exact ⟨m, by omega, by go_num, ⟨_, rfl, HF2⟩, K, HQ3⟩
                case measure => simp [intOf]
            · have f2 : decide (x < (live.length : Int)) = false := decide_eq_false h2
              have e : R = false := by rw [HAl.out]; simp [h0, h2]
              have HF2 := Lib.hid (HD.out e)
              clear e HL HD HAl
              go_wp2_with fail
              go_roundw
              case rel => exact ⟨m, by omega, by go_num, ⟨_, rfl, HF2⟩, K, HQ3⟩
              case measure => simp [intOf]
          · have f1 : decide (0 < x) = false := decide_eq_false h1
            have e : R = false := by rw [HAl.out]; simp [h0, h1]
            have HF2 := Lib.hid (HD.out e)
            clear e HL HD HAl
            go_wp2_with fail
            go_roundw
            case rel => exact ⟨m, by omega, by go_num, ⟨_, rfl, HF2⟩, K, HQ3⟩
            case measure => simp [intOf]
        | zero =>
          have em : ((0 : Nat) : Int) - 1 = -1 := by omega
          rw [em]
          clear em
          have hw : ∀ b ∈ bs, b.fWeight ≤ 1099511627776 := fun b hb => by
            obtain ⟨j, hj, rfl⟩ := List.getElem_of_mem hb
            exact HQ.out j hj (by omega)
          have HCh := Lib.hid (HCh2.out hw)
          clear HCh2 HC HQ hw c2 HLv
          go_wp2_with (first
            | (refine wpList_load_row rfl 24 _ rfl _ rfl _ _ _ _ (K.out.at 0 rfl) Try.underlying24 rfl (by kernel_rfl) ?_)
            | fail)
          refine (HCh.out _ K.out.below).mono ?_
          rintro x w2 ⟨v1, l1, rfl, hr1, hk1, hc1, hb2⟩
          replace K := Lib.hid (K.out.call hb2)
          obtain ⟨va, vc, hv1, hvc, hvm⟩ := hr1.slice
          subst hv1
          unfold maxLen at hvm
          have HR1 := Lib.hid hr1
          have HK1 := Lib.hid hk1
          have HC1 := Lib.hid hc1
          clear hr1 hk1 hc1 hb2 HCh
          have c1 := (K.out.at 0 rfl).cell 1 _ rfl
          have c2 := (K.out.at 0 rfl).cell 2 _ rfl
          by_cases k13 : gk = 1 ∨ gk = 3
          · have hlen : l1.length = bs.length := by
              have := congrArg List.length HC1.out
              simpa [chooseF, k13] using this
            have t7 : ((l1.length : Int) == (bs.length : Int)) = true := by rw [hlen]; simp
            have t8 : (l1.length == bs.length) = true := by rw [hlen]; simp
            clear HF HR1 HK1 HC1 hlen HRd HBk
            rcases k13 with rfl | rfl
            · go_wp2_with fail
              refine (HA.out _).mono ?_
              rintro x wz ⟨rfl, hbz⟩
              replace K := Lib.hid (K.out.call hbz)
              clear hbz
              go_wp2_with fail
              go_ret
              exact ⟨rfl, K.out.below⟩
            · go_wp2_with fail
              refine (HA.out _).mono ?_
              rintro x wz ⟨rfl, hbz⟩
              replace K := Lib.hid (K.out.call hbz)
              clear hbz
              go_wp2_with fail
              go_ret
              exact ⟨rfl, K.out.below⟩
          have k1 : gk ≠ 1 := fun h => k13 (.inl h)
          have k3 : gk ≠ 3 := fun h => k13 (.inr h)
          have s1 : (gk == 1) = false := by simpa using k1
          have s3 : (gk == 3) = false := by simpa using k3
          clear k13
          by_cases k4 : gk = 4
          · have s4 : (gk == 4) = true := by simpa using k4
            have HC4 : Hid (l1.map coreB = firstF live (bs.map coreB)) := Lib.hid (by rw [HC1.out, k4]; simp [chooseF])
            clear HC1 k4 k1 k3
            by_cases hneg : al < 0
            · have s5 : decide (al < 0) = true := decide_eq_true hneg
              have hl0 : l1 = [] := by
                have := HC4.out
                rw [first_none bs live (HF.out.neg hneg)] at this
                simpa using this
              subst hl0
              clear HF HR1 HK1 HC4 HRd HBk
              go_wp2_with fail
              refine (HA.out _).mono ?_
              rintro x wz ⟨rfl, hbz⟩
              replace K := Lib.hid (K.out.call hbz)
              clear hbz
              go_wp2_with fail
              go_ret
              exact ⟨rfl, K.out.below⟩
            · have s5 : decide (al < 0) = false := decide_eq_false hneg
              obtain ⟨m, hm, rfl, hal, hbef⟩ := HF.out.pos hneg
              have HE : Hid (l1.map coreB = ((bs.drop m).take 1).map coreB) := Lib.hid (by rw [HC4.out, first_hit bs live m hm hal hbef])
              have hl1 : l1.length = 1 := by
                have := congrArg List.length HE.out
                simp at this
                omega
              have hvb : ∃ b off, a = some ⟨b, off, none⟩ := by
                obtain ⟨b, off, cp, hv, _⟩ := HRd.out.cells (by omega)
                exact ⟨b, off, by simpa using (congrArg (fun v => match v with | .slice a _ _ => a | _ => none) hv)⟩
              obtain ⟨b, off, rfl⟩ := hvb
              have HPart := Lib.hid (HRd.out.part m 1 (by omega) (by omega) (some ⟨b, off + m * 3, none⟩) rfl)
              have g1 : ((m : Int) + 1) ≤ bs.length := by omega
              have g2 : ((m : Int) + 1) ≤ cap := by omega
              have g3 : (0 : Int) ≤ (m : Int) := by omega
              have HS : Hid (Calls Try.prog 12 #[.agg #[.int .i64 0, .int .i64 0, .slice va l1.length vc], .agg #[.int .i64 0, .int .i64 0, .slice (some ⟨b, off + m * 3, none⟩) 1 (cap - m)]] w2 fun x w' => x = .returned (.bool true) ∧ Below w2.heap.size w2 w') :=
                Lib.hid (SameGroup_eq w2 ⟨0, 0, .slice va l1.length vc, l1⟩ ⟨0, 0, .slice (some ⟨b, off + m * 3, none⟩) 1 (cap - m), (bs.drop m).take 1⟩ ⟨rfl, rfl, ⟨HR1.out, HK1.out⟩, trivial⟩ ⟨rfl, rfl, ⟨HPart.out.below K.out.below (Nat.le_refl _), fun x hx => okBucket_below (HBk.out x (List.mem_of_mem_drop (List.mem_of_mem_take hx))) K.out.below (Nat.le_refl _)⟩, trivial⟩ (by simp only [coreG]; rw [HE.out]))
              rw [hl1] at HS
              simp only [hl1]
              clear HF HR1 HK1 HC4 HRd HBk HE HPart hal hbef hneg hl1
              go_wp2_with fail
              refine HS.out.mono ?_
              rintro x w3 ⟨rfl, hb3⟩
              replace K := Lib.hid (K.out.call hb3)
              clear hb3 HS c1 c2
              go_wp2_with fail
              refine (HA.out _).mono ?_
              rintro x wz ⟨rfl, hbz⟩
              replace K := Lib.hid (K.out.call hbz)
              clear hbz
              go_wp2_with fail
              go_ret
              exact ⟨rfl, K.out.below⟩
          have s4 : (gk == 4) = false := by simpa using k4
          by_cases k2 : gk = 2
          · have s2 : (gk == 2) = true := by simpa using k2
            have hsel := select_one (k2 ▸ HC1.out) HF.out
            clear HC1 k2 k1 k3 k4 HF
            obtain ⟨hle, hsel⟩ := hsel
            have s6 : decide ((l1.length : Int) ≤ 1) = true := decide_eq_true (by omega)
            rcases hsel with rfl | ⟨hal, x, rfl, hxw⟩
            · clear HR1 HK1 HRd HBk
              by_cases hal : 0 ≤ al
              · have s5 : decide (0 ≤ al) = true := decide_eq_true hal
                go_wp2_with fail
                refine (HA.out _).mono ?_
                rintro x wz ⟨rfl, hbz⟩
                replace K := Lib.hid (K.out.call hbz)
                clear hbz
                go_wp2_with fail
                go_ret
                exact ⟨rfl, K.out.below⟩
              · have s5 : decide (0 ≤ al) = false := decide_eq_false hal
                go_wp2_with fail
                refine (HA.out _).mono ?_
                rintro x wz ⟨rfl, hbz⟩
                replace K := Lib.hid (K.out.call hbz)
                clear hbz
                go_wp2_with fail
                go_ret
                exact ⟨rfl, K.out.below⟩
            · have s5 : decide (0 ≤ al) = true := decide_eq_true hal
              obtain ⟨b, off, cp, hv, _, _, hblt, hcell⟩ := HR1.out.cells (by simp)
              obtain ⟨rfl, rfl⟩ : va = some ⟨b, off, none⟩ ∧ vc = cp := by simpa using hv
              have cw : w2.cell? ⟨b, off + 1, none⟩ = some (.int .i64 x.fWeight) := by simpa using hcell 0 1 (.int .i64 x.fWeight) (by simp) (by simp [encBucket])
              have s7 : decide (0 < x.fWeight) = true := decide_eq_true hxw
              clear hcell hv HR1 HK1 HRd HBk hxw hal
              go_wp2_with fail
              refine (HA.out _).mono ?_
              rintro x wz ⟨rfl, hbz⟩
              replace K := Lib.hid (K.out.call hbz)
              clear hbz
              go_wp2_with fail
              go_ret
              exact ⟨rfl, K.out.below⟩
          · have s2 : (gk == 2) = false := by simpa using k2
            have hl0 : l1 = [] := by
              have := HC1.out
              simpa [chooseF, k1, k2, k3, k4] using this
            subst hl0
            clear HF HR1 HK1 HC1 HRd HBk
            go_wp2_with fail
            refine (HA.out _).mono ?_
            rintro x wz ⟨rfl, hbz⟩
            replace K := Lib.hid (K.out.call hbz)
            clear hbz
            go_wp2_with fail
            go_ret
            exact ⟨rfl, K.out.below⟩
end Go.Proofs.Ytfjngecgfmlnfaa
