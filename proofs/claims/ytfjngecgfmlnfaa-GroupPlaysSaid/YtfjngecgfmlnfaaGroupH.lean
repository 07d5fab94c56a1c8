/- slices.DeleteFunc at buckets, whatever the predicate. -/
import Derived.Test.YtfjngecgfmlnfaaGroupG
namespace Go.Proofs.Ytfjngecgfmlnfaa
open Go.RowKit
set_option linter.unusedVariables false
set_option linter.unusedSimpArgs false

/-- In the midst of the deleting: i are kept of the first j. -/
def DelI (wr : World) (k cap : Nat) (l : List Bucket) (p : Bucket → Bool) (i j : Nat) : Prop := ∃ cur xs, BlkAt wr k 30 cur ∧ cur.size = cap * 3 ∧ xs.length = l.length ∧ RowOf 3 encBucket cur xs ∧
  xs.take i = (l.take j).filter (fun x => !p x) ∧ (i < j ∧ j ≤ l.length) ∧ (∀ q (h1 : q < xs.length) (h2 : q < l.length), j ≤ q → xs[q] = l[q]) ∧ ∀ x ∈ l, okX wr k x
theorem DelI.start {wr : World} {k cap : Nat} {cur : Array Value} {l : List Bucket} {p : Bucket → Bool} (hb : BlkAt wr k 30 cur) (hc : cur.size = cap * 3) (hr : RowOf 3 encBucket cur l) (ho : ∀ x ∈ l, okX wr k x) (k0 : Nat) (hk : k0 < l.length) (h : p l[k0] = true) (ha : ∀ j (hj : j < l.length), j < k0 → p l[j] = false) : DelI wr k cap l p k0 (k0 + 1) := by
  refine ⟨cur, l, hb, hc, rfl, hr, ?_, ⟨by omega, by omega⟩, fun _ _ _ _ => rfl, ho⟩
  rw [List.take_succ_eq_append_getElem hk, List.filter_append]
  have h1 : (l.take k0).filter (fun x => !p x) = l.take k0 := by
    rw [List.filter_eq_self]
    intro x hx
    obtain ⟨j, hj, rfl⟩ := List.getElem_of_mem hx
    simp only [List.length_take] at hj
    simp [ha j (by omega) (by omega)]
  simp [h1, h]
theorem DelI.below {wr W : World} {k cap i j : Nat} {l : List Bucket} {p : Bucket → Bool} (h : DelI wr k cap l p i j) (hb : Below wr.heap.size wr W) : DelI W k cap l p i j := by
  obtain ⟨cur, xs, h1, h2, h3, h4, h5, h6, h7, h8⟩ := h
  exact ⟨cur, xs, h1.below hb h1.lt, h2, h3, h4, h5, h6, h7, fun x hx => (h8 x hx).below hb (Nat.le_refl _)⟩
theorem DelI.at {wr : World} {k cap i j : Nat} {l : List Bucket} {p : Bucket → Bool} (h : DelI wr k cap l p i j) (hj : j < l.length) : wr.rangeAt k (j * 3) (encBucket l[j]) := by
  obtain ⟨cur, xs, h1, h2, h3, h4, h5, h6, h7, h8⟩ := h
  have := range_row h4 h1 j (by omega)
  rwa [h7 j (by omega) hj (Nat.le_refl _)] at this
theorem DelI.skip {wr : World} {k cap i j : Nat} {l : List Bucket} {p : Bucket → Bool} (h : DelI wr k cap l p i j) (hj : j < l.length) (hp : p l[j] = true) : DelI wr k cap l p i (j + 1) := by
  obtain ⟨cur, xs, h1, h2, h3, h4, h5, h6, h7, h8⟩ := h
  refine ⟨cur, xs, h1, h2, h3, h4, ?_, ⟨by omega, by omega⟩, fun q a b c => h7 q a b (by omega), h8⟩
  rw [List.take_succ_eq_append_getElem hj, List.filter_append, h5]
  simp [hp]
theorem DelI.keep {wr W : World} {k cap i j : Nat} {cur : Array Value} {l : List Bucket} {p : Bucket → Bool} (h : DelI wr k cap l p i j) (hj : j < l.length) (hp : p l[j] = false) (h0 : BlkAt wr k 30 cur) (hw : BlkAt W k 30 (setsAt cur (i * 3) (encBucket l[j]))) (hb : Bar k wr W) : DelI W k cap l p (i + 1) (j + 1) := by
  obtain ⟨cur', xs, h1, h2, h3, h4, h5, h6, h7, h8⟩ := h
  obtain rfl : cur' = cur := by unfold BlkAt at h1 h0; rw [h1] at h0; simpa using h0
  have hin : i * 3 + 3 ≤ cur'.size := by have := h4.1; omega
  refine ⟨_, xs.set i l[j], hw, by rw [setsAt_size]; exact h2, by simpa using h3, h4.put encBucket_len i _ (setsAt_size _ _ _) (fun q hq => ?_) (fun m u hu => ?_), ?_, ⟨by omega, by omega⟩, fun q a b c => ?_, fun x hx => (h8 x hx).bar hb (Nat.le_refl _)⟩
  · refine setsAt_out _ _ _ _ ?_
    rw [encBucket_len]
    have a1 := hq 0 (by omega)
    have a2 := hq 1 (by omega)
    have a3 := hq 2 (by omega)
    omega
  · exact setsAt_in _ _ _ _ _ hu (by rw [encBucket_len]; exact hin)
  · rw [List.take_succ_eq_append_getElem (by rw [List.length_set]; omega), List.take_succ_eq_append_getElem hj, List.filter_append, ← h5]
    simp [hp, List.take_set_of_le]
  · rw [List.getElem_set_ne (by omega)]
    exact h7 q (by simpa using a) b (by omega)
/-- At the end: the first i cells are what is kept. -/
theorem DelI.done {wr W : World} {B k cap i j : Nat} {cur cur' : Array Value} {l : List Bucket} {p : Bucket → Bool} (h : DelI wr k cap l p i j) (hj : l.length ≤ j) (hc : l.length ≤ cap) (hm : cap ≤ maxLen) (hB : B ≤ k) (h0 : BlkAt wr k 30 cur) (hw : BlkAt W k 30 cur') (hb : Bar k wr W) (hs : cur'.size = cur.size) (hq : ∀ q, q < i * 3 → cur'[q]? = cur[q]?) :
    NewB W B (.slice (some ⟨k, 0, none⟩) i cap) (l.filter fun x => !p x) := by
  obtain ⟨cur2, xs, h1, h2, h3, h4, h5, h6, h7, h8⟩ := h
  obtain rfl : cur2 = cur := by unfold BlkAt at h1 h0; rw [h1] at h0; simpa using h0
  rw [List.take_of_length_le hj] at h5
  have hfl : (l.filter fun x => !p x).length ≤ l.length := List.length_filter_le _ _
  have hl : (l.filter fun x => !p x).length = i := by rw [← h5, List.length_take]; omega
  refine .inr ⟨k, cap, cur', by rw [hl], hB, hw, by omega, hm, by omega, ⟨by rw [hl, hs]; omega, fun m n u hm' hu => ?_⟩, fun b hb' => (h8 b ((List.mem_filter.1 hb').1)).bar hb (Nat.le_refl _)⟩
  have hn : n < 3 := by rw [← encBucket_len]; exact (List.getElem?_eq_some_iff.mp hu).1
  rw [hq _ (by omega)]
  refine h4.2 m n u (by omega) ?_
  rw [← hu]
  simp only [← h5, List.getElem_take]

set_option maxRecDepth 100000 in
set_option maxHeartbeats 8000000 in
theorem deleteFuncB (w : World) (B : Nat) (v : Value) (l : List Bucket) (g : Nat) (lb : Array Value) (p : Bucket → Bool) (C : World → Prop) (hp : PredC g lb encBucket p C (fun x => ∀ u ∈ encBucket x, u.oneCell' = true)) (hs : Stays C) (hC : C w)
    (hbar : ∀ (k : Nat) (W W' : World), B ≤ k → C W → Bar k W W' → C W')
    (eg : ∀ args w, (callFunc g args).run Try.prog w = .ok (.enter g args) w) (h : NewB w B v l) :
    Calls Try.prog 29 #[v, .func (.func g) #[] lb] w fun e w' => ∃ v', e = .returned v' ∧ NewB w' B v' (l.filter fun x => !p x) ∧ C w' := by
  have hone : ∀ x ∈ l, ∀ u ∈ encBucket x, u.oneCell' = true := fun x hx => encBucket_ok (h.read.2 x hx)
  have hidx := indexFuncB w v l g lb p C _ hp hs hC eg h.read.1 hone
  have HOne := Lib.hid hone
  have HP := Lib.hid hp
  have HS := Lib.hid hs
  have HBar := Lib.hid hbar
  have HK := Lib.hid hC
  by_cases hall : ∀ j (hj : j < l.length), p l[j] = false
  · rw [idxF_none p l hall] at hidx
    have hfl : (l.filter fun x => !p x) = l := by
      rw [List.filter_eq_self]
      intro x hx
      obtain ⟨j, hj, rfl⟩ := List.getElem_of_mem hx
      simp [hall j hj]
    rw [hfl]
    have HI := Lib.hid hidx
    have HN := Lib.hid h
    clear hidx h hall hfl hp hs hbar hC hone
    go_enter Try.func29, Try.ntmps29
    go_wp2_with fail
    refine HI.out.mono ?_
    rintro x w' ⟨rfl, hb⟩
    have HB := Lib.hid hb
    clear hb
    go_wp2_with fail
    go_ret
    exact ⟨_, rfl, HN.out.call HB.out, HS.out _ _ HK.out HB.out⟩
  · obtain ⟨k0, hk0, hpk, hbef⟩ : ∃ k0, ∃ hk0 : k0 < l.length, p l[k0] = true ∧ ∀ j (hj : j < l.length), j < k0 → p l[j] = false := by
      have hex : ∃ x ∈ l, p x = true := by
        refine Classical.byContradiction fun hn => hall fun j hj => ?_
        cases hq : p l[j]
        · rfl
        · exact absurd ⟨_, List.getElem_mem hj, hq⟩ hn
      have hlt := List.findIdx_lt_length.2 hex
      refine ⟨l.findIdx p, hlt, List.findIdx_getElem (w := hlt), fun j hj hjk => ?_⟩
      simpa using List.not_of_lt_findIdx hjk
    rw [idxF_hit p l k0 hk0 hpk hbef] at hidx
    rcases h with ⟨rfl, rfl⟩ | ⟨k, cap, cur, rfl, h2, h3, h4, h5, h6, h7, h8⟩
    · simp at hk0
    have HI := Lib.hid hidx
    have HD := Lib.hid (DelI.start h3 h6 h7 h8 k0 hk0 hpk hbef)
    have hmx := h5
    unfold maxLen at hmx
    have HMx := Lib.hid h5
    have HB := Lib.hid h2
    have HNe := Lib.hid hall
    clear hidx hall hp hs hbar hC hone h2 h3 h6 h7 h8 hpk hbef h5
    go_enter Try.func29, Try.ntmps29
    go_wp2_with fail
    refine HI.out.mono ?_
    rintro x w1 ⟨rfl, hb⟩
    have hne1 : ((k0 : Int) == -1) = false := beq_eq_false_iff_ne.2 (by omega)
    replace HD := Lib.hid (HD.out.below hb)
    replace HK := Lib.hid (HS.out _ _ HK.out hb)
    clear hb HI
    go_wp2_with fail
    have hk1 : k0 + 1 ≤ l.length := by omega
    clear hne1 HNe
    go_loopw [5, 6] (fun iv jv wr => ∃ i j : Nat, j ≤ l.length ∧ iv = .int .i64 i ∧ jv = .int .i64 j ∧ Hid (i < j) ∧ Hid (C wr) ∧ Hid (DelI wr k cap l p i j)) (fun _ jv _ => l.length - (intOf jv).toNat)
    case atStart => exact ⟨k0, k0 + 1, hk1, rfl, by go_num, Lib.hid (by omega), HK, HD⟩
    case round =>
      obtain ⟨i, j, hj, rfl, rfl, hij, HK, HD⟩ := hrel
      have HIJ := Lib.hid hij.out
      clear hij
      by_cases hlt : j < l.length
      · have d2 : decide (j < l.length) = true := by simpa using hlt
        have r1 := HD.out.at hlt
        have hmem := List.getElem_mem hlt
        have hx1 := HOne.out _ hmem
        have K : Hid (KR wr.heap.size wr [] wr) := Lib.hid (KR.start (Below.refl _ _) (Nat.le_refl _))
        have HSk := Lib.hid (fun h => HD.out.skip hlt h)
        have HKp := Lib.hid (fun (W : World) (cur : Array Value) (W1 : World) (hb : Below wr.heap.size wr W1) h h0 hw hbar => (HD.out.below hb).keep (W := W) (cur := cur) hlt h h0 hw hbar)
        have HCall := Lib.hid (fun W hC => HP.out W l[j] hC hx1)
        have hblk : ∃ cur, BlkAt wr k 30 cur ∧ i * 3 + 3 ≤ cur.size := by
          obtain ⟨cur, xs, q1, q2, q3, q4, q5, q6, q7, q8⟩ := HD.out
          exact ⟨cur, q1, by omega⟩
        obtain ⟨cur1, hbk, hsz⟩ := hblk
        have HBk := Lib.hid hbk
        clear hmem HOne HP hbk
        generalize l[j] = x at *
        have hx2 : ∀ v ∈ #[Value.int .i64 x.fWatch, Value.int .i64 x.fWeight, x.vActions].toList, v.oneCell' = true := by simpa [encBucket] using hx1
        simp only [encBucket] at r1
        go_wp2_with (first
          | (refine wpList_load_mid rfl 30 _ rfl _ _ rfl _ _ r1 Try.underlying30 rfl (by kernel_rfl) ?_)
          | (refine wpList_store_row rfl 30 _ _ rfl _ rfl #[.int .i64 x.fWatch, .int .i64 x.fWeight, x.vActions] rfl _ _ ((K.out.box _ _).at 0 rfl) rfl (by kernel_rfl) hx2 ?_)
          | fail)
        intro Wi hbi hbari
        replace K := Lib.hid (K.out.into hbari hbi)
        clear hbi hbari r1
        have HK2 := Lib.hid (HS.out _ _ HK.out K.out.below)
        have hx3 : (#[Value.int .i64 x.fWatch, Value.int .i64 x.fWeight, x.vActions]).all (·.oneCell') = true := all_oneCell_toArray hx2
        clear HK hx2
        cases hq : p x with
        | true =>
          rw [hq] at HCall HSk
          have HSk2 := Lib.hid (HSk.out rfl)
          clear HSk HKp hq hx3 HBk
          go_wp2_with (first
            | (refine wpList_load_row rfl 30 _ rfl _ rfl _ _ _ _ (K.out.at 0 rfl) Try.underlying30 rfl (by kernel_rfl) ?_)
            | (go_at_fn g; refine (HCall.out _ HK2.out).mono ?_; rintro e w' ⟨rfl, hb'⟩)
            | fail)
          go_roundw
          case rel => exact ⟨i, j + 1, by omega, rfl, by go_num, Lib.hid (by have := HIJ.out; omega), Lib.hid (HS.out _ _ HK2.out hb'), Lib.hid (HSk2.out.below (K.out.below.trans (hb'.mono K.out.size)))⟩
          case measure => simp [intOf]; omega
        | false =>
          rw [hq] at HCall HKp
          have HKp2 := Lib.hid (fun W cur W1 hb h0 hw hbar => HKp.out W cur W1 hb rfl h0 hw hbar)
          clear HSk hq HKp
          go_upto_region 9 with (first
            | (refine wpList_load_row rfl 30 _ rfl _ rfl _ _ _ _ (K.out.at 0 rfl) Try.underlying30 rfl (by kernel_rfl) ?_)
            | (go_at_fn g; refine (HCall.out _ HK2.out).mono ?_; rintro e w' ⟨rfl, hb'⟩)
            | fail)
          replace HK2 := Lib.hid (HS.out _ _ HK2.out hb')
          replace K := Lib.hid (K.out.call hb')
          have HBk2 : Hid (BlkAt w' k 30 cur1) := Lib.hid (HBk.out.below K.out.below HBk.out.lt)
          have hil : (i : Int) < (l.length : Int) := by have := HIJ.out; omega
          clear hb' HCall HBk
          go_wp2_with (first
            | (refine wpList_load_row rfl 30 _ rfl _ rfl _ _ _ _ (K.out.at 0 rfl) Try.underlying30 rfl (by kernel_rfl) ?_)
            | (refine wpList_store_at rfl 30 _ _ rfl k (i * 3) #[.int .i64 x.fWatch, .int .i64 x.fWeight, x.vActions] rfl rfl _ _ HBk2.out hsz (by kernel_rfl) hx3 ?_)
            | fail)
          intro W9 hb9 hbar9
          have HD9 := Lib.hid (HKp2.out _ _ _ K.out.below HBk2.out hb9 hbar9)
          have HK9 := Lib.hid (HBar.out _ _ _ HB.out HK2.out hbar9)
          clear hb9 hbar9 HKp2 K HBk2
          go_wp2_with fail
          go_roundw
          case rel => exact ⟨i + 1, j + 1, by omega, by go_num, by go_num, Lib.hid (by have := HIJ.out; omega), HK9, HD9⟩
          case measure => simp [intOf]; omega
      · have d2 : decide (j < l.length) = false := by simpa using hlt
        have hlj : l.length ≤ j := by omega
        have hij : i < cap := by have := HIJ.out; omega
        have hblk : ∃ cur, BlkAt wr k 30 cur ∧ cur.size = cap * 3 := by
          obtain ⟨cur, xs, q1, q2, q3, q4, q5, q6, q7, q8⟩ := HD.out
          exact ⟨cur, q1, q2⟩
        obtain ⟨cur1, hbk, hsz⟩ := hblk
        obtain ⟨W, cur', hcl, hbar, hb2, hs2, hq2⟩ := run_clear_row (P := Try.prog) wr 22 30 (.agg #[.int .i64 0, .int .i64 0, .slice none 0 0]) Try.underlying22 (fun w => by kernel_rfl) 3 rfl (by simp [Value.cells, Value.oneCell']) k (i * 3) (l.length - i) (cap - i) _ cur1 hbk (by omega)
        have HN := Lib.hid (HD.out.done hlj h4 HMx.out HB.out hbk hb2 hbar hs2 hq2)
        have HK2 := Lib.hid (HBar.out _ _ _ HB.out HK.out hbar)
        have hile : (i : Int) ≤ (l.length : Int) := by have := HIJ.out; omega
        have hile2 : (i : Int) ≤ (cap : Int) := by omega
        clear hbk hsz hbar hb2 hs2 hq2 HD
        go_wp2_with fail
        go_ret
        exact ⟨_, rfl, HN.out, HK2.out⟩
end Go.Proofs.Ytfjngecgfmlnfaa
