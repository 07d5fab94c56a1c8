/- The reference's leads, at, there, has. -/
import Derived.Test.YtfjngecgfmlnfaaPlaysA
namespace Go.Proofs.Ytfjngecgfmlnfaa
open Go.RowKit Go.Maps
set_option linter.unusedVariables false
set_option linter.unusedSimpArgs false

set_option maxRecDepth 100000 in
set_option maxHeartbeats 8000000 in
theorem rleads_any (w : World) (g : Group) (h : okGroup w g) (hl : leadOk (g.fBuckets.map coreB)) :
    Calls Try.prog 44 #[valGroup g] w fun e w' => ∃ v B, w.heap.size ≤ B ∧ e = .returned v ∧ OwnL w' B 3 1 encI v (leadsF (g.fBuckets.map coreB)) ∧ Below w.heap.size w w' := by
  obtain ⟨gi, gk, gv, bs⟩ := g
  obtain ⟨_, _, ⟨hR, hB⟩, _⟩ := h
  simp only at *
  have HOk := Lib.hid hB
  have HL := Lib.hid hl
  have hlen : bs.length ≤ 20 := by have := hl.1; simpa using this
  obtain ⟨a, cap, hgv, hcap, hmax, hc⟩ := hR
  subst hgv
  unfold maxLen at hmax
  have HC := Lib.hid hc
  have HSn := Lib.hid (fun k (hk : k < bs.length) => (by
    have := leadsF_snoc (bs.map coreB) k (by simpa using hk)
    rwa [List.getElem_map] at this : leadsF ((bs.map coreB).take (k + 1)) = leadsF ((bs.map coreB).take k) ++ leadsA bs[k].fActions))
  clear hc hB hl
  go_enter Try.func44, Try.ntmps44
  go_upto_region 1 with fail
  refine one_box_wp ?_
  intro W hb1 hbel hsz
  have K : Hid (KR w.heap.size w [(w.heap.size, 24, #[.int .i64 gi, .int .i64 gk, .slice a bs.length cap])] W) := Lib.hid ((KR.start hbel hbel.size).add hb1)
  obtain ⟨B, hB⟩ : ∃ B, B = W.heap.size := ⟨_, rfl⟩
  have HBs : Hid (w.heap.size + 1 ≤ B) := Lib.hid (by rw [hB]; exact hsz.out)
  have HBW : Hid (B ≤ W.heap.size) := Lib.hid (by rw [hB]; exact Nat.le_refl _)
  clear hb1 hbel hsz hB
  go_wp2_with fail
  go_loopw [3, 4] (fun ov iv wr => ∃ k : Nat, k ≤ bs.length ∧ iv = .int .i64 k ∧ Hid (KR w.heap.size w [(w.heap.size, 24, #[.int .i64 gi, .int .i64 gk, .slice a bs.length cap])] wr) ∧ Hid (B ≤ wr.heap.size) ∧ Hid (OwnL wr B 3 1 encI ov (leadsF ((bs.map coreB).take k)))) (fun _ iv _ => bs.length - (intOf iv).toNat)
  case atStart => exact ⟨0, Nat.zero_le _, rfl, K, HBW, Lib.hid (OwnL.nil _ _ _ _ _)⟩
  case round =>
    obtain ⟨k, hk, rfl, K, HBW, Hown⟩ := hrel
    have c2 := (K.out.at 0 rfl).cell 2 _ rfl
    by_cases hlt : k < bs.length
    · have d2 : decide (k < bs.length) = true := by simpa using hlt
      rcases HC.out with hnil | ⟨b, off, rfl, hblt, hcell⟩
      · rw [hnil] at hlt; simp at hlt
      have HRg := Lib.hid (fun W (hb : Below w.heap.size w W) => range_of hcell hb hblt k hlt)
      have hok := HOk.out _ (List.getElem_mem hlt)
      have hlx := HL.out.2 (coreB bs[k]) (List.mem_map_of_mem (List.getElem_mem hlt))
      have hl1 := leadsF_len _ HL.out k
      have hSn := HSn.out k hlt
      have hacts := hok.2.2.1.1
      clear hcell HC HSn HL hok HOk
      generalize bs[k] = x at *
      obtain ⟨x1, x2, x3, acts⟩ := x
      simp only [coreB] at hlx hacts hSn
      have HSn := Lib.hid hSn
      have HLx := Lib.hid hlx.2
      have hla : acts.length ≤ 20 := hlx.1
      obtain ⟨xa, xc, hxv, hxc, hxm, hac⟩ := hacts
      subst hxv
      unfold maxLen at hxm
      have HAc := Lib.hid hac
      have HX2 : Hid (∀ W, Below w.heap.size w W → W.cell? ⟨b, off + k * 3 + 2, none⟩ = some (.slice xa acts.length xc)) := Lib.hid (fun W hb => HRg.out W hb 2 _ rfl)
      clear hlx hac HRg hSn
      obtain ⟨L0, hL0⟩ : ∃ L0, L0 = leadsF ((bs.map coreB).take k) := ⟨_, rfl⟩
      rw [← hL0] at Hown hl1 HSn
      clear hL0
      have hl2 : L0.length ≤ 400 := by omega
      go_wp2_with fail
      clear c2
      go_loopw [3, 5] (fun ov jv wr => ∃ j : Nat, j ≤ acts.length ∧ jv = .int .i64 j ∧ Hid (KR w.heap.size w [(w.heap.size, 24, #[.int .i64 gi, .int .i64 gk, .slice (some ⟨b, off, none⟩) bs.length cap])] wr) ∧ Hid (B ≤ wr.heap.size) ∧ Hid (OwnL wr B 3 1 encI ov (L0 ++ leadsA (acts.take j)))) (fun _ jv _ => acts.length - (intOf jv).toNat)
      case atStart => exact ⟨0, Nat.zero_le _, rfl, K, HBW, Lib.hid (by simpa [leadsA] using Hown.out)⟩
      case round =>
        obtain ⟨j, hj, rfl, K, HBW, Hown⟩ := hrel
        have c2 := (K.out.at 0 rfl).cell 2 _ rfl
        have x2c := HX2.out _ K.out.below
        by_cases hjt : j < acts.length
        · have d3 : decide (j < acts.length) = true := by simpa using hjt
          rcases HAc.out with hnil | ⟨ab, aoff, rfl, hablt, hacell⟩
          · rw [hnil] at hjt; simp at hjt
          have r1 := range_of hacell K.out.below hablt j hjt
          have HY := Lib.hid (HLx.out _ (List.getElem_mem hjt))
          have HLn := Lib.hid (leadsA_len (acts.take j))
          have HSnA := Lib.hid (leadsA_snoc acts j hjt)
          clear hacell HAc HLx
          generalize acts[j] = y at *
          obtain ⟨y1, y2, y3⟩ := y
          simp only [encAction] at r1
          simp only at HY HSnA
          have hlj : (leadsA (acts.take j)).length ≤ 20 := Nat.le_trans HLn.out (Nat.le_trans (List.length_take_le _ _) (by omega))
          obtain ⟨L1, hL1⟩ : ∃ L1, L1 = leadsA (acts.take j) := ⟨_, rfl⟩
          rw [← hL1] at Hown HSnA hlj
          clear hL1 HLn
          go_wp2_with (first
            | (refine wpList_load_mid rfl 58 _ rfl _ _ rfl _ _ r1 Try.underlying58 rfl (by kernel_rfl) ?_)
            | (refine wpList_store_row rfl 58 _ _ rfl _ rfl #[.int .i64 y1, .int .i64 y2, .int .u64 y3] rfl _ _ ((K.out.box _ _).at 0 rfl) rfl (by kernel_rfl) (by simp [Value.oneCell']) ?_)
            | fail)
          intro Wi hbi hbari
          have HBW2 : Hid (B ≤ Wi.heap.size) := Lib.hid (Nat.le_trans HBW.out (Nat.le_trans (by simp) hbari.size))
          replace Hown := Lib.hid ((Hown.out.alloc _).bar hbari (fun k' hk' => by have := (Hown.out.block k' hk').2; omega))
          replace K := Lib.hid (K.out.into hbari hbi)
          have c0 := hbi.cell 0 _ rfl
          have a2 := hbi.cell 2 _ rfl
          replace K := Lib.hid (K.out.sub (l' := [(w.heap.size, 24, #[.int .i64 gi, .int .i64 gk, .slice (some ⟨b, off, none⟩) bs.length cap])]) (by simp))
          clear hbi hbari r1 c2 x2c
          by_cases h2 : y1 = 2
          · subst h2
            obtain ⟨hv0, hv1⟩ := HY.out rfl
            rw [if_pos rfl] at HSnA
            go_wp2_with (at_builtin; go_must (refine app_one Hown.out y3 Try.underlying72 intInfo rfl (by decide) encI_len encI_one rfl rfl rfl rfl ?c1 ?c2 ?c3 ?_))
            case c1 => omega
            case c2 => omega
            case c3 => exact HBW2.out
            intro v' w6 hown1 hgrow _
            have HBW6 := Lib.hid (Nat.le_trans HBW2.out hgrow.size)
            replace K := Lib.hid (K.out.grown hgrow (fun x hx hr => by
              have := (Hown.out.block x.1 hr.symm).1
              have := HBs.out
              obtain rfl := List.mem_singleton.1 hx
              simp only at this; omega) (fun k' hk' => by have := (Hown.out.block k' hk').1; have := HBs.out; omega))
            have HOwn1 : Hid (OwnL w6 B 3 1 encI v' (L0 ++ leadsA (acts.take (j + 1)))) := Lib.hid (by rw [HSnA.out]; simpa [List.append_assoc] using hown1)
            clear hown1 hgrow Hown HBW2 c0 a2
            go_wp2_with fail
            go_roundw
            case rel => exact ⟨j + 1, by omega, by go_num, K, HBW6, HOwn1⟩
            case measure => simp [intOf]; omega
          · have t2 : (y1 == 2) = false := by simpa using h2
            rw [if_neg h2, List.append_nil] at HSnA
            have HOwn1 : Hid (OwnL Wi B 3 1 encI u3 (L0 ++ leadsA (acts.take (j + 1)))) := Lib.hid (by rw [HSnA.out]; exact Hown.out)
            clear Hown h2
            go_wp2_with fail
            go_roundw
            case rel => exact ⟨j + 1, by omega, by go_num, K, HBW2, HOwn1⟩
            case measure => simp [intOf]; omega
        · have d3 : decide (j < acts.length) = false := by simpa using hjt
          rw [List.take_of_length_le (by omega)] at Hown
          have HOwn1 : Hid (OwnL wr B 3 1 encI u3 (leadsF ((bs.map coreB).take (k + 1)))) := Lib.hid (by rw [HSn.out]; exact Hown.out)
          clear Hown
          go_wp2_with fail
          go_roundw
          case rel => exact ⟨k + 1, by omega, by go_num, K, HBW, HOwn1⟩
          case measure => simp [intOf]; omega
    · have d2 : decide (k < bs.length) = false := by simpa using hlt
      rw [List.take_of_length_le (by simp; omega)] at Hown
      go_wp2_with fail
      go_ret
      exact ⟨_, B, by have := HBs.out; omega, rfl, Hown.out, K.out.below⟩

/-- The reference's table; its groups' buckets lie in what came in, in w0. -/
structure RefW (w : World) (w0 : World) (rb : Nat) (room : Int) (lv : Value) (L : List Group) : Prop where
  tab : BlkAt w rb 52 #[lv, .int .i64 room]
  row : OwnL w w0.heap.size 24 3 encGroup lv L
  ok : ∀ g ∈ L, okGroup w0 g
  len : L.length ≤ 64
  base : Below w0.heap.size w0 w
  lt : w0.heap.size ≤ rb
theorem okGroup_below {w W : World} {B : Nat} {g : Group} (h : okGroup w g) (hb : Below B w W) (hB : w.heap.size ≤ B) : okGroup W g :=
  ⟨h.1, h.2.1, ⟨h.2.2.1.1.below hb hB, fun y hy => okBucket_below (h.2.2.1.2 y hy) hb hB⟩, trivial⟩
theorem RefW.below {w w' w0 : World} {rb C : Nat} {room : Int} {lv : Value} {L : List Group} (h : RefW w w0 rb room lv L) (hb : Below C w w') (hC : w.heap.size ≤ C) : RefW w' w0 rb room lv L :=
  ⟨h.tab.below hb (Nat.lt_of_lt_of_le h.tab.lt hC), h.row.below hb (fun k hk => Nat.lt_of_lt_of_le (h.row.block k hk).2 hC), h.ok, h.len, h.base.trans (hb.mono (Nat.le_trans h.base.size hC)), h.lt⟩
theorem RefW.okAt {w w0 : World} {rb : Nat} {room : Int} {lv : Value} {L : List Group} (h : RefW w w0 rb room lv L) {g : Group} (hg : g ∈ L) : okGroup w g := okGroup_below (h.ok g hg) h.base (Nat.le_refl _)
/-- The row lies in another block. -/
theorem RefW.sep {w w0 : World} {rb : Nat} {room : Int} {lv : Value} {L : List Group} (h : RefW w w0 rb room lv L) : lv.ownBlock ≠ some rb := by
  intro e
  rcases h.row.2 with ⟨hv, _⟩ | ⟨k, cap, cur, hv, _, hk, _⟩
  · rw [hv] at e; cases e
  · rw [hv] at e
    obtain rfl : k = rb := by simpa [Value.ownBlock] using e
    have h1 := h.tab
    unfold BlkAt at h1
    rw [hk] at h1
    simp at h1
def rAtF (L : List Group) (id : Int) : Int := idxF (fun g => decide (g.fID = id)) L

set_option maxRecDepth 100000 in
set_option maxHeartbeats 4000000 in
theorem rat_any (w w0 : World) (rb : Nat) (room : Int) (lv : Value) (L : List Group) (h : RefW w w0 rb room lv L) (id : Int) :
    Calls Try.prog 40 #[.pointer (some ⟨rb, 0, none⟩), .int .i64 id] w fun e w' => e = .returned (.int .i64 (rAtF L id)) ∧ w' = w := by
  have c0 := h.tab.cell 0 _ rfl
  have hlen := h.len
  obtain ⟨la, lcap, hlv, hlcap, hlmax, hlc⟩ := ReadL.of_own h.row encGroup_len
  subst hlv
  unfold maxLen at hlmax
  have HLC := Lib.hid hlc
  have HR : Hid (∀ k (hk : k < L.length), decide (L[k].fID = id) = true → (∀ j (hj : j < L.length), j < k → decide (L[j].fID = id) = false) → rAtF L id = k) := Lib.hid (idxF_hit (fun g => decide (g.fID = id)) L)
  have HN : Hid ((∀ j (hj : j < L.length), decide (L[j].fID = id) = false) → rAtF L id = -1) := Lib.hid (idxF_none (fun g => decide (g.fID = id)) L)
  generalize rAtF L id = R at *
  clear h hlc
  go_enter Try.func40, Try.ntmps40
  go_wp2_with fail
  go_loopw [5] (fun iv wr => wr = w ∧ ∃ k : Nat, k ≤ L.length ∧ iv = .int .i64 k ∧ Hid (∀ j (hj : j < L.length), j < k → decide (L[j].fID = id) = false)) (fun iv _ => L.length - (intOf iv).toNat)
  case atStart => exact ⟨rfl, 0, Nat.zero_le _, rfl, Lib.hid (fun j hj hk => absurd hk (Nat.not_lt_zero _))⟩
  case round =>
    obtain ⟨rfl, k, hk, rfl, HQ⟩ := hrel
    by_cases hlt : k < L.length
    · have d2 : decide (k < L.length) = true := by simpa using hlt
      rcases HLC.out with hnil | ⟨b, off, rfl, hblt, hcell⟩
      · rw [hnil] at hlt; simp at hlt
      have r0 := hcell k 0 (.int .i64 L[k].fID) hlt rfl
      simp only [Nat.add_zero] at r0
      have HH := Lib.hid (fun h => HR.out k hlt h HQ.out)
      have HQ2 : Hid (decide (L[k].fID = id) = false → ∀ j (hj : j < L.length), j < k + 1 → decide (L[j].fID = id) = false) := Lib.hid (fun h j hj hjk => if e : j = k then (by subst e; exact h) else HQ.out j hj (by omega))
      clear hcell HLC HR HQ
      generalize L[k].fID = q at *
      by_cases hq : q = id
      · have t1 : (q == id) = true := by simpa using hq
        have e := HH.out (by simpa using hq)
        subst e
        clear HH HQ2 hq
        go_wp2_with fail
        go_ret
        exact ⟨by first | rfl | trivial, by first | rfl | trivial⟩
      · have t1 : (q == id) = false := by simpa using hq
        have HQ3 := Lib.hid (HQ2.out (by simpa using hq))
        clear HH HQ2 hq
        go_wp2_with fail
        go_roundw
        case rel => exact ⟨by first | rfl | trivial, k + 1, by omega, by go_num, HQ3⟩
        case measure => simp [intOf]; omega
    · have d2 : decide (k < L.length) = false := by simpa using hlt
      have e := HN.out (fun j hj => HQ.out j hj (by omega))
      subst e
      go_wp2_with fail
      go_ret
      exact ⟨by first | rfl | trivial, by first | rfl | trivial⟩

set_option maxRecDepth 100000 in
set_option maxHeartbeats 4000000 in
theorem rhas_any (w : World) (v : Value) (xs : List Int) (h : ReadL w 1 encI v xs) (n : Int) :
    Calls Try.prog 45 #[v, .int .i64 n] w fun e w' => e = .returned (.bool (xs.contains n)) ∧ w' = w := by
  obtain ⟨la, lcap, hlv, hlcap, hlmax, hlc⟩ := h
  subst hlv
  unfold maxLen at hlmax
  have HLC := Lib.hid hlc
  have HR : Hid (∀ k (hk : k < xs.length), xs[k] = n → xs.contains n = true) := Lib.hid (fun k hk h => by rw [List.contains_iff_mem, ← h]; exact List.getElem_mem hk)
  have HN : Hid ((∀ j (hj : j < xs.length), xs[j] ≠ n) → xs.contains n = false) := Lib.hid (fun h => by
    rw [Bool.eq_false_iff]
    intro hc
    obtain ⟨j, hj, e⟩ := List.getElem_of_mem (List.contains_iff_mem.1 hc)
    exact h j hj e)
  generalize xs.contains n = R at *
  clear hlc
  go_enter Try.func45, Try.ntmps45
  go_wp2_with fail
  go_loopw [5] (fun iv wr => wr = w ∧ ∃ k : Nat, k ≤ xs.length ∧ iv = .int .i64 k ∧ Hid (∀ j (hj : j < xs.length), j < k → xs[j] ≠ n)) (fun iv _ => xs.length - (intOf iv).toNat)
  case atStart => exact ⟨rfl, 0, Nat.zero_le _, rfl, Lib.hid (fun j hj hk => absurd hk (Nat.not_lt_zero _))⟩
  case round =>
    obtain ⟨rfl, k, hk, rfl, HQ⟩ := hrel
    by_cases hlt : k < xs.length
    · have d2 : decide (k < xs.length) = true := by simpa using hlt
      rcases HLC.out with hnil | ⟨b, off, rfl, hblt, hcell⟩
      · rw [hnil] at hlt; simp at hlt
      have r0 := hcell k 0 (.int .i64 xs[k]) hlt rfl
      simp only [Nat.mul_one, Nat.add_zero] at r0
      have HH := Lib.hid (HR.out k hlt)
      have HQ2 : Hid (xs[k] ≠ n → ∀ j (hj : j < xs.length), j < k + 1 → xs[j] ≠ n) := Lib.hid (fun h j hj hjk => if e : j = k then (by subst e; exact h) else HQ.out j hj (by omega))
      clear hcell HLC HR HQ
      generalize xs[k] = q at *
      by_cases hq : q = n
      · have t1 : (q == n) = true := by simpa using hq
        have e := HH.out hq
        subst e
        clear HH HQ2 hq
        go_wp2_with fail
        go_ret
        exact ⟨by first | rfl | trivial, by first | rfl | trivial⟩
      · have t1 : (q == n) = false := by simpa using hq
        have HQ3 := Lib.hid (HQ2.out hq)
        clear HH HQ2 hq
        go_wp2_with fail
        go_roundw
        case rel => exact ⟨by first | rfl | trivial, k + 1, by omega, by go_num, HQ3⟩
        case measure => simp [intOf]; omega
    · have d2 : decide (k < xs.length) = false := by simpa using hlt
      have e := HN.out (fun j hj => HQ.out j hj (by omega))
      subst e
      go_wp2_with fail
      go_ret
      exact ⟨by first | rfl | trivial, by first | rfl | trivial⟩
/-- Whether a group of a number is there. -/
def inL (L : List Group) (id : Int) : Bool := L.any fun g => decide (g.fID = id)
theorem rAtF_in (L : List Group) (id : Int) : decide (0 ≤ rAtF L id) = inL L id := idxF_any _ _
def wholeR (L : List Group) (c : List Core) : Bool := (leadsF c).all fun n => inL L n

set_option maxRecDepth 100000 in
set_option maxHeartbeats 4000000 in
theorem rthere_any (w w0 : World) (rb : Nat) (room : Int) (lv : Value) (L : List Group) (h : RefW w w0 rb room lv L) (g : Group) (hg : okGroup w g) (hl : leadOk (g.fBuckets.map coreB)) :
    Calls Try.prog 41 #[.pointer (some ⟨rb, 0, none⟩), valGroup g] w fun e w' => e = .returned (.bool (wholeR L (g.fBuckets.map coreB))) ∧ Below w.heap.size w w' := by
  have hgv := hg.2.2.1.1.one
  have HLd : Hid (∀ W : World, Below w.heap.size w W → _) := Lib.hid (fun W hb => rleads_any W g ⟨hg.1, hg.2.1, ⟨hg.2.2.1.1.below hb (Nat.le_refl _), fun y hy => okBucket_below (hg.2.2.1.2 y hy) hb (Nat.le_refl _)⟩, trivial⟩ hl)
  have HLl : Hid ((leadsF (g.fBuckets.map coreB)).length ≤ 400) := Lib.hid (by
    have h2 := leadsF_len _ hl 20
    rw [List.take_of_length_le hl.1] at h2
    exact h2)
  have HAt := Lib.hid (fun W (hb : Below w.heap.size w W) id => rat_any W w0 rb room lv L (h.below hb (Nat.le_refl _)) id)
  obtain ⟨gi, gk, gv, bs⟩ := g
  simp only at *
  have HR1 : Hid ((∀ i (hi : i < (leadsF (bs.map coreB)).length), inL L (leadsF (bs.map coreB))[i] = true) → wholeR L (bs.map coreB) = true) := Lib.hid (fun h => by
    unfold wholeR
    rw [List.all_eq_true]
    intro n hn
    obtain ⟨i, hi, rfl⟩ := List.getElem_of_mem hn
    exact h i hi)
  have HR2 : Hid (∀ i (hi : i < (leadsF (bs.map coreB)).length), inL L (leadsF (bs.map coreB))[i] = false → wholeR L (bs.map coreB) = false) := Lib.hid (fun i hi h => by
    unfold wholeR
    rw [Bool.eq_false_iff]
    intro ha
    have := List.all_eq_true.1 ha _ (List.getElem_mem hi)
    rw [h] at this; cases this)
  generalize wholeR L (bs.map coreB) = R at *
  generalize leadsF (bs.map coreB) = X at *
  clear hg h hl
  go_enter Try.func41, Try.ntmps41
  go_upto_region 1 with fail
  refine one_box_wp ?_
  intro W hb1 hbel hsz
  have K : Hid (KR w.heap.size w [(w.heap.size, 24, #[.int .i64 gi, .int .i64 gk, gv])] W) := Lib.hid ((KR.start hbel hbel.size).add hb1)
  clear hb1 hbel hsz
  go_wp2_with (first
    | (refine wpList_load_row rfl 24 _ rfl _ rfl _ _ _ _ (K.out.at 0 rfl) Try.underlying24 rfl (by kernel_rfl) ?_)
    | fail)
  refine (HLd.out _ K.out.below).mono ?_
  rintro e w1 ⟨v, B1, hB1, rfl, hown, hb1⟩
  have HB := Lib.hid (K.out.below.trans (hb1.mono K.out.size))
  have HRd := Lib.hid (ReadL.of_own hown encI_len)
  obtain ⟨xa, xcap, hxv, hxcap, hxmax⟩ := hown.slice
  subst hxv
  unfold maxLen at hxmax
  have hxl := HLl.out
  clear hown hb1 HLd hB1 K
  go_wp2_with fail
  go_loopw [6] (fun iv wr => wr = w1 ∧ ∃ k : Nat, k ≤ X.length ∧ iv = .int .i64 k ∧ Hid (∀ j (hj : j < X.length), j < k → inL L X[j] = true)) (fun iv _ => X.length - (intOf iv).toNat)
  case atStart => exact ⟨rfl, 0, Nat.zero_le _, rfl, Lib.hid (fun j hj hk => absurd hk (Nat.not_lt_zero _))⟩
  case round =>
    obtain ⟨rfl, k, hk, rfl, HQ⟩ := hrel
    by_cases hlt : k < X.length
    · have d2 : decide (k < X.length) = true := by simpa using hlt
      rcases HRd.out with ⟨xa', xcap', hxv', _, _, hnil | ⟨b, off, rfl, hblt, hcell⟩⟩
      · rw [hnil] at hlt; simp at hlt
      obtain ⟨rfl, rfl⟩ : xa = some ⟨b, off, none⟩ ∧ xcap = xcap' := by simpa using hxv'
      have r0 := hcell k 0 (.int .i64 X[k]) hlt rfl
      simp only [Nat.mul_one, Nat.add_zero] at r0
      have HH := Lib.hid (HR2.out k hlt)
      have HA1 := Lib.hid (HAt.out _ HB.out X[k])
      have HAi := Lib.hid (rAtF_in L X[k])
      have HQ2 : Hid (inL L X[k] = true → ∀ j (hj : j < X.length), j < k + 1 → inL L X[j] = true) := Lib.hid (fun h j hj hjk => if e : j = k then (by subst e; exact h) else HQ.out j hj (by omega))
      clear hcell HR2 HQ hxv'
      generalize inL L X[k] = IN at *
      generalize rAtF L X[k] = at0 at *
      generalize X[k] = q at *
      go_wp2_with fail
      refine HA1.out.mono ?_
      rintro e w2 ⟨rfl, rfl⟩
      clear HA1 r0
      by_cases h0 : at0 < 0
      · have t1 : decide (at0 < 0) = true := decide_eq_true h0
        have e := HH.out (by rw [← HAi.out]; simpa using h0)
        subst e
        clear HH HQ2 HAi h0
        go_wp2_with fail
        go_ret
        exact ⟨rfl, HB.out⟩
      · have t1 : decide (at0 < 0) = false := decide_eq_false h0
        have HQ3 := Lib.hid (HQ2.out (by rw [← HAi.out]; simpa using h0))
        clear HH HQ2 HAi h0
        go_wp2_with fail
        go_roundw
        case rel => exact ⟨by first | rfl | trivial, k + 1, by omega, by go_num, HQ3⟩
        case measure => simp [intOf]; omega
    · have d2 : decide (k < X.length) = false := by simpa using hlt
      have e := HR1.out (fun j hj => HQ.out j hj (by omega))
      subst e
      go_wp2_with fail
      go_ret
      exact ⟨rfl, HB.out⟩
end Go.Proofs.Ytfjngecgfmlnfaa
