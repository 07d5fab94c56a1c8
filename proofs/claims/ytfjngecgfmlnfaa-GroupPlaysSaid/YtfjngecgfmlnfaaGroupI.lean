/- Choose's two predicates; picked. -/
import Derived.Test.YtfjngecgfmlnfaaGroupH
namespace Go.Proofs.Ytfjngecgfmlnfaa
open Go.RowKit
set_option linter.unusedVariables false
set_option linter.unusedSimpArgs false

def oneB (x : Bucket) : Prop := ∀ u ∈ encBucket x, u.oneCell' = true
def deadF (live : List Bool) (x : Bucket) : Bool := !aliveF x.fWatch live || decide (x.fWeight ≤ 0)

set_option maxRecDepth 100000 in
set_option maxHeartbeats 4000000 in
theorem choose2_any (w : World) (x : Bucket) (g : Nat) (lv : Value) (live : List Bool) (hx : oneB x) (hg : BlkAt w g 25 #[lv]) (hl : ReadL w 1 encBo lv live) :
    Calls Try.prog 33 #[.agg (encBucket x).toArray, .pointer (some ⟨g, 0, none⟩)] w fun e w' => e = .returned (.bool (aliveF x.fWatch live)) ∧ Below w.heap.size w w' := by
  have hv : x.vActions.oneCell' = true := hx _ (by simp [encBucket])
  have HA : Hid (∀ W : World, Below w.heap.size w W → Calls Try.prog 31 #[.agg #[.int .i64 x.fWatch, .int .i64 x.fWeight, x.vActions], lv] W fun e w' => e = .returned (.bool (aliveF x.fWatch live)) ∧ Below W.heap.size W w') :=
    Lib.hid (fun W hb => alive_any W _ _ _ lv live hv (hl.below hb (Nat.le_refl _)))
  have HG := Lib.hid hg
  generalize aliveF x.fWatch live = R at *
  simp only [encBucket]
  clear hl hx hg
  go_enter Try.func33, Try.ntmps33
  go_upto_region 1 with fail
  refine one_box_wp ?_
  intro W hb1 hbel hsz
  have K : Hid (KR w.heap.size w [(w.heap.size, 30, #[.int .i64 x.fWatch, .int .i64 x.fWeight, x.vActions])] W) := Lib.hid ((KR.start hbel hbel.size).add hb1)
  have c0 := (HG.out.below hbel HG.out.lt).cell 0 _ rfl
  clear hb1 hbel hsz
  go_wp2_with (first
    | (refine wpList_load_row rfl 30 _ rfl _ rfl _ _ _ _ (K.out.at 0 rfl) Try.underlying30 rfl (by kernel_rfl) ?_)
    | fail)
  refine (HA.out _ K.out.below).mono ?_
  rintro e w' ⟨rfl, hb⟩
  go_wp2_with fail
  go_ret
  exact ⟨rfl, K.out.below.trans (hb.mono K.out.size)⟩

set_option maxRecDepth 100000 in
set_option maxHeartbeats 4000000 in
theorem choose1_any (w : World) (x : Bucket) (g : Nat) (lv : Value) (live : List Bool) (hx : oneB x) (hg : BlkAt w g 25 #[lv]) (hl : ReadL w 1 encBo lv live) :
    Calls Try.prog 30 #[.agg (encBucket x).toArray, .pointer (some ⟨g, 0, none⟩)] w fun e w' => e = .returned (.bool (deadF live x)) ∧ Below w.heap.size w w' := by
  have hv : x.vActions.oneCell' = true := hx _ (by simp [encBucket])
  have HA : Hid (∀ W : World, Below w.heap.size w W → Calls Try.prog 31 #[.agg #[.int .i64 x.fWatch, .int .i64 x.fWeight, x.vActions], lv] W fun e w' => e = .returned (.bool (aliveF x.fWatch live)) ∧ Below W.heap.size W w') :=
    Lib.hid (fun W hb => alive_any W _ _ _ lv live hv (hl.below hb (Nat.le_refl _)))
  have HG := Lib.hid hg
  have HR : Hid (deadF live x = (!aliveF x.fWatch live || decide (x.fWeight ≤ 0))) := Lib.hid rfl
  generalize aliveF x.fWatch live = R at *
  generalize deadF live x = D at *
  simp only [encBucket]
  clear hl hx hg
  cases R with
  | false =>
    have e : D = true := by rw [HR.out]; rfl
    subst e
    clear HR
    go_enter Try.func30, Try.ntmps30
    go_upto_region 1 with fail
    refine one_box_wp ?_
    intro W hb1 hbel hsz
    have K : Hid (KR w.heap.size w [(w.heap.size, 30, #[.int .i64 x.fWatch, .int .i64 x.fWeight, x.vActions])] W) := Lib.hid ((KR.start hbel hbel.size).add hb1)
    have c0 := (HG.out.below hbel HG.out.lt).cell 0 _ rfl
    clear hb1 hbel hsz
    go_wp2_with (first
      | (refine wpList_load_row rfl 30 _ rfl _ rfl _ _ _ _ (K.out.at 0 rfl) Try.underlying30 rfl (by kernel_rfl) ?_)
      | fail)
    refine (HA.out _ K.out.below).mono ?_
    rintro e w' ⟨rfl, hb⟩
    go_wp2_with fail
    go_ret
    exact ⟨rfl, K.out.below.trans (hb.mono K.out.size)⟩
  | true =>
    have e : D = decide (x.fWeight ≤ 0) := by rw [HR.out]; rfl
    subst e
    clear HR
    go_enter Try.func30, Try.ntmps30
    go_upto_region 1 with fail
    refine one_box_wp ?_
    intro W hb1 hbel hsz
    have K : Hid (KR w.heap.size w [(w.heap.size, 30, #[.int .i64 x.fWatch, .int .i64 x.fWeight, x.vActions])] W) := Lib.hid ((KR.start hbel hbel.size).add hb1)
    have c0 := (HG.out.below hbel HG.out.lt).cell 0 _ rfl
    clear hb1 hbel hsz
    go_wp2_with (first
      | (refine wpList_load_row rfl 30 _ rfl _ rfl _ _ _ _ (K.out.at 0 rfl) Try.underlying30 rfl (by kernel_rfl) ?_)
      | fail)
    refine (HA.out _ K.out.below).mono ?_
    rintro e w' ⟨rfl, hb⟩
    replace K := Lib.hid (K.out.call hb)
    have c1 := (K.out.at 0 rfl).cell 1 _ rfl
    go_wp2_with fail
    go_ret
    exact ⟨rfl, K.out.below⟩

/-- The one at a number, counted by weights. -/
def atF {α : Type} (wt : α → Int) : List α → Int → List α
  | [], _ => []
  | x :: r, n => if n < wt x then [x] else atF wt r (n - wt x)
def sumW {α : Type} (wt : α → Int) (l : List α) : Int := (l.map wt).sum
def pickedF {α : Type} (wt : α → Int) (l : List α) (pick : Int) : List α := if sumW wt l = 0 then [] else atF wt l ((pick.tmod (sumW wt l) + sumW wt l) % sumW wt l)
theorem atF_hit {α : Type} (wt : α → Int) (l : List α) (k : Nat) (n : Int) (hk : k < l.length) (h : n < wt l[k]) : atF wt (l.drop k) n = (l.drop k).take 1 := by
  rw [List.drop_eq_getElem_cons hk, atF, if_pos h]; rfl
theorem atF_miss {α : Type} (wt : α → Int) (l : List α) (k : Nat) (n : Int) (hk : k < l.length) (h : ¬ n < wt l[k]) : atF wt (l.drop k) n = atF wt (l.drop (k + 1)) (n - wt l[k]) := by
  rw [List.drop_eq_getElem_cons hk, atF, if_neg h]
theorem sumW_snoc {α : Type} (wt : α → Int) (l : List α) (k : Nat) (hk : k < l.length) : sumW wt (l.take (k + 1)) = sumW wt (l.take k) + wt l[k] := by
  unfold sumW
  rw [List.take_succ_eq_append_getElem hk]
  simp only [List.map_append, List.sum_append, List.map_cons, List.map_nil, List.sum_cons, List.sum_nil, Int.add_zero]
theorem atF_mem {α : Type} (wt : α → Int) : ∀ (l : List α) (n : Int), ∀ x ∈ atF wt l n, x ∈ l
  | [], _, x, h => by simp [atF] at h
  | y :: r, n, x, h => by
    unfold atF at h
    split at h
    · simp at h; simp [h]
    · exact List.mem_cons_of_mem _ (atF_mem wt r _ x h)
theorem pickedF_mem {α : Type} (wt : α → Int) (l : List α) (pick : Int) : ∀ x ∈ pickedF wt l pick, x ∈ l := by
  intro x hx
  unfold pickedF at hx
  split at hx
  · simp at hx
  · exact atF_mem wt l _ x hx
set_option maxRecDepth 100000 in
set_option maxHeartbeats 8000000 in
theorem picked_any (w : World) (v : Value) (l : List Bucket) (pick : Int) (h : ReadL w 3 encBucket v l) (h1 : ∀ x ∈ l, oneB x) (hl : l.length ≤ 20) (hw : ∀ x ∈ l, 0 < x.fWeight ∧ x.fWeight ≤ 1099511627776) :
    Calls Try.prog 28 #[v, .int .i64 pick] w fun e w' => ∃ v', e = .returned v' ∧ ReadL w' 3 encBucket v' (pickedF Bucket.fWeight l pick) ∧ (∀ x ∈ pickedF Bucket.fWeight l pick, x ∈ l) ∧ Below w.heap.size w w' := by
  have hread := h
  obtain ⟨a, cap, rfl, hcap, hmax, hc⟩ := h
  unfold maxLen at hmax
  have HC := Lib.hid hc
  have H1 := Lib.hid h1
  have HW := Lib.hid hw
  have HRd := Lib.hid hread
  have HMem := Lib.hid (pickedF_mem Bucket.fWeight l pick)
  have HR : Hid (∀ s, s = sumW Bucket.fWeight l → pickedF Bucket.fWeight l pick = if s = 0 then [] else atF Bucket.fWeight l ((pick.tmod s + s) % s)) := Lib.hid (by rintro s rfl; rfl)
  generalize pickedF Bucket.fWeight l pick = R at *
  clear hc h1 hw hread
  go_enter Try.func28, Try.ntmps28
  go_wp2_with fail
  go_loopw [5, 13] (fun sv iv wr => ∃ k : Nat, k ≤ l.length ∧ iv = .int .i64 k ∧ (∃ s : Int, sv = .int .i64 s ∧ Hid (s = sumW Bucket.fWeight (l.take k)) ∧ 0 ≤ s ∧ s ≤ k * 1099511627776) ∧ Hid (Below w.heap.size w wr)) (fun _ iv _ => l.length - (intOf iv).toNat)
  case atStart => exact ⟨0, Nat.zero_le _, rfl, ⟨0, rfl, Lib.hid rfl, by omega, by omega⟩, Lib.hid (Below.refl _ _)⟩
  case round =>
    obtain ⟨k, hk, rfl, ⟨s, rfl, HSm, hs0, hs1⟩, HB⟩ := hrel
    by_cases hlt : k < l.length
    · have d2 : decide (k < l.length) = true := by simpa using hlt
      rcases HC.out with hnil | ⟨b, off, rfl, hblt, hcell⟩
      · rw [hnil] at hlt; simp at hlt
      have r1 := range_of hcell HB.out hblt k hlt
      have hx1 := H1.out _ (List.getElem_mem hlt)
      have hwx := HW.out _ (List.getElem_mem hlt)
      have HSn := Lib.hid (sumW_snoc Bucket.fWeight l k hlt)
      have K : Hid (KR wr.heap.size wr [] wr) := Lib.hid (KR.start (Below.refl _ _) (Nat.le_refl _))
      clear hcell HC
      generalize l[k] = x at *
      have hx2 : ∀ v ∈ #[Value.int .i64 x.fWatch, Value.int .i64 x.fWeight, x.vActions].toList, v.oneCell' = true := by simpa [encBucket, oneB] using hx1
      simp only [encBucket] at r1
      go_wp2_with (first
        | (refine wpList_load_mid rfl 30 _ rfl _ _ rfl _ _ r1 Try.underlying30 rfl (by kernel_rfl) ?_)
        | (refine wpList_store_row rfl 30 _ _ rfl _ rfl #[.int .i64 x.fWatch, .int .i64 x.fWeight, x.vActions] rfl _ _ ((K.out.box _ _).at 0 rfl) rfl (by kernel_rfl) hx2 ?_)
        | fail)
      intro Wi hbi hbari
      replace K := Lib.hid (K.out.into hbari hbi)
      have c1 := hbi.cell 1 _ rfl
      obtain ⟨hw0, hw1⟩ := hwx
      clear hbi hbari r1 hx2 hx1
      have hsm : s + x.fWeight ≤ (k + 1 : Nat) * 1099511627776 := by rw [Int.natCast_add]; omega
      have hk20 : (k : Int) ≤ 20 := by omega
      go_wp2_with fail
      go_roundw
      case rel => exact ⟨k + 1, by omega, by go_num, ⟨s + x.fWeight, by go_num, Lib.hid (by rw [HSn.out, HSm.out]), by omega, hsm⟩, Lib.hid (HB.out.trans (K.out.below.mono HB.out.size))⟩
      case measure => simp [intOf]; omega
    · have d2 : decide (k < l.length) = false := by simpa using hlt
      obtain rfl : k = l.length := by omega
      rw [List.take_of_length_le (Nat.le_refl _)] at HSm
      have hk20 : (l.length : Int) ≤ 20 := by omega
      have HP := Lib.hid (HR.out s HSm.out)
      clear HR
      by_cases hz : s = 0
      · subst hz
        rw [if_pos rfl] at HP
        have e := HP.out
        subst e
        clear HSm HP
        go_wp2_with fail
        go_ret
        exact ⟨_, rfl, ReadL.nil _ _ _, by simp, HB.out⟩
      · have b0 : (s == 0) = false := by simpa using hz
        rw [if_neg hz] at HP
        have hq1 : -s < pick.tmod s := by have := Int.lt_tmod_of_pos pick (show 0 < s by omega); omega
        have hq2 : pick.tmod s < s := Int.tmod_lt_of_pos _ (by omega)
        clear HSm
        have hs2 : s ≤ 21990232555520 := by omega
        have hn1 : 0 ≤ (pick.tmod s + s) % s := Int.emod_nonneg _ (by omega)
        have hn2 : (pick.tmod s + s) % s < s := Int.emod_lt_of_pos _ (by omega)
        have HN1 := Lib.hid hn1
        have HN2 := Lib.hid hn2
        clear hn1 hn2
        go_wp2_with fail
        clear hq1 hq2 hs0 hs1 hz b0
        generalize (pick.tmod s + s) % s = n0 at *
        go_loopw [8, 33] (fun nv iv wr => ∃ k : Nat, k ≤ l.length ∧ iv = .int .i64 k ∧ (∃ n : Int, nv = .int .i64 n ∧ Hid (R = atF Bucket.fWeight (l.drop k) n) ∧ 0 ≤ n ∧ n < 21990232555520) ∧ Hid (Below w.heap.size w wr)) (fun _ iv _ => l.length - (intOf iv).toNat)
        case atStart => exact ⟨0, Nat.zero_le _, rfl, ⟨n0, rfl, HP, HN1.out, by have := HN2.out; omega⟩, HB⟩
        case round =>
          obtain ⟨k, hk, rfl, ⟨n, rfl, HP, hn0, hn1⟩, HB⟩ := hrel
          by_cases hlt : k < l.length
          · have d2 : decide (k < l.length) = true := by simpa using hlt
            rcases HC.out with hnil | ⟨b, off, rfl, hblt, hcell⟩
            · rw [hnil] at hlt; simp at hlt
            have r1 := range_of hcell HB.out hblt k hlt
            have hx1 := H1.out _ (List.getElem_mem hlt)
            have hwx := HW.out _ (List.getElem_mem hlt)
            have HHit := Lib.hid (atF_hit Bucket.fWeight l k n hlt)
            have HMiss := Lib.hid (atF_miss Bucket.fWeight l k n hlt)
            have K : Hid (KR wr.heap.size wr [] wr) := Lib.hid (KR.start (Below.refl _ _) (Nat.le_refl _))
            clear hcell HC
            generalize l[k] = x at *
            have hx2 : ∀ v ∈ #[Value.int .i64 x.fWatch, Value.int .i64 x.fWeight, x.vActions].toList, v.oneCell' = true := by simpa [encBucket, oneB] using hx1
            simp only [encBucket] at r1
            go_wp2_with (first
              | (refine wpList_load_mid rfl 30 _ rfl _ _ rfl _ _ r1 Try.underlying30 rfl (by kernel_rfl) ?_)
              | (refine wpList_store_row rfl 30 _ _ rfl _ rfl #[.int .i64 x.fWatch, .int .i64 x.fWeight, x.vActions] rfl _ _ ((K.out.box _ _).at 0 rfl) rfl (by kernel_rfl) hx2 ?_)
              | fail)
            intro Wi hbi hbari
            replace K := Lib.hid (K.out.into hbari hbi)
            have c1 := hbi.cell 1 _ rfl
            obtain ⟨hw0, hw1⟩ := hwx
            clear hbi hbari r1 hx2 hx1
            replace HB := Lib.hid (HB.out.trans (K.out.below.mono HB.out.size))
            by_cases ht : n < x.fWeight
            · have t1 : decide (n < x.fWeight) = true := decide_eq_true ht
              have e := HP.out.trans (HHit.out ht)
              have hk1 : ((k : Int) + 1) ≤ l.length := by omega
              have hk2 : ((k : Int) + 1) ≤ cap := by omega
              have hk3 : (0 : Int) ≤ (k : Int) := by omega
              have HPart := Lib.hid (HRd.out.part k 1 (by omega) (by omega) (some ⟨b, off + k * 3, none⟩) rfl)
              have HE := Lib.hid e
              clear HHit HMiss HP e K
              have HB1 := Lib.hid (HB.out)
              go_wp2_with fail
              go_ret
              refine ⟨_, rfl, ?_, HMem.out, HB1.out⟩
              rw [HE.out]
              have hlen : ((l.drop k).take 1).length = 1 := by simp; omega
              exact HPart.out.below HB1.out (Nat.le_refl _)
            · have t1 : decide (n < x.fWeight) = false := decide_eq_false ht
              have HP2 := Lib.hid (HP.out.trans (HMiss.out (by omega)))
              clear HHit HMiss HP
              go_wp2_with fail
              go_roundw
              case rel => exact ⟨k + 1, by omega, by go_num, ⟨n - x.fWeight, rfl, HP2, by omega, by omega⟩, HB⟩
              case measure => simp [intOf]; omega
          · have d2 : decide (k < l.length) = false := by simpa using hlt
            obtain rfl : k = l.length := by omega
            rw [List.drop_of_length_le (Nat.le_refl _)] at HP
            have e := HP.out
            simp only [atF] at e
            subst e
            go_wp2_with fail
            go_ret
            exact ⟨_, rfl, ReadL.nil _ _ _, by simp, HB.out⟩
end Go.Proofs.Ytfjngecgfmlnfaa
