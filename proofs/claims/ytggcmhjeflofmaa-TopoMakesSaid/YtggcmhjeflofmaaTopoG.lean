/- A topology in memory: New. -/
import Derived.Test.YtggcmhjeflofmaaTopoF
namespace Go.Proofs.Ytggcmhjeflofmaa
open Go.RowKit Go.Maps
set_option linter.unusedVariables false
set_option linter.unusedSimpArgs false

theorem range_of {α : Type} {w W : World} {size b off B : Nat} {enc : α → List Value} {xs : List α} (hc : ∀ i j u, (hi : i < xs.length) → (enc xs[i])[j]? = some u → w.cell? ⟨b, off + (i * size + j), none⟩ = some u)
    (hb : Below B w W) (hB : b < B) (i : Nat) (hi : i < xs.length) : W.rangeAt b (off + i * size) (enc xs[i]) := fun j v hv => by
  rw [hb.cell (p := ⟨b, off + i * size + j, none⟩) hB, Nat.add_assoc]
  exact hc i j v hi hv

/-- What the links make of a topology; none: one may not be laid. -/
def joinsF (size : Int) : TopS → List Link → Option TopS
  | s, [] => some s
  | s, x :: l => if rightL x size = true then (match joinS s x with | some s' => joinsF size s' l | none => none) else none
def badNew (size : Int) (n : Nat) : Bool := decide (size < 1) || (decide (32 < size) || decide ((64 : Int) < n))
def newF (size : Int) (l : List Link) : Option TopS := if badNew size l.length = true then none else joinsF size ⟨size, [], [], []⟩ l
theorem rightL_wf {x : Link} {size : Int} (h : rightL x size = true) (hs : size ≤ 32) : wfI x.fA ∧ wfI x.fPortA ∧ wfI x.fB ∧ wfI x.fPortB ∧ x.fA ≠ x.fB ∧ -64 ≤ x.fB := by
  unfold rightL at h
  simp only [Bool.and_eq_true, decide_eq_true_eq] at h
  obtain ⟨⟨h1, _⟩, h2⟩ := h
  split at h2
  · simp only [decide_eq_true_eq] at h2
    exact ⟨wfI_of (by omega) (by omega), wfI_of (by omega) (by omega), wfI_of (by omega) (by omega), wfI_of (by omega) (by omega), by omega, by omega⟩
  · simp only [decide_eq_true_eq] at h2
    exact ⟨wfI_of (by omega) (by omega), wfI_of (by omega) (by omega), wfI_of (by omega) (by omega), wfI_of (by omega) (by omega), by omega, by omega⟩
theorem joinS_len {s s' : TopS} {x : Link} (h : joinS s x = some s') : s'.costs.length = s.costs.length + 1 := by
  unfold joinS at h
  split at h
  · cases h
  · split at h
    · split at h
      · cases h
      · cases h; simp
    · split at h
      · cases h
      · cases h; simp
theorem TopoW.fresh (w : World) (size : Int) : TopoW (((w.alloc (.map #[] 0)).alloc (.map #[] 0)).alloc (.cells #[.int .i64 size, .map (some w.heap.size), .map (some (w.heap.size + 1)), .slice none 0 0] 57)) w.heap.size (w.heap.size + 1 + 1) w.heap.size (w.heap.size + 1) (.slice none 0 0) ⟨size, [], [], []⟩ where
  tab := by
    have := BlkAt.new ((w.alloc (.map #[] 0)).alloc (.map #[] 0)) 57 #[.int .i64 size, .map (some w.heap.size), .map (some (w.heap.size + 1)), .slice none 0 0]
    simpa using this
  ends := ((MapL.new w placeV endV).of_block (Below.heap_alloc _ _ _ (by simp))).of_block (Below.heap_alloc _ _ _ (by simp; omega))
  homes := by
    have := (MapL.new (w.alloc (.map #[] 0)) keyI placeV)
    simp at this
    exact this.of_block (Below.heap_alloc _ _ _ (by simp))
  own := OwnL.nil _ _ _ _ _
  be := by omega
  bh := by omega
  bt := by omega
  e1 := by omega
  e2 := by omega
  e3 := by omega
  e4 := by intro k hk; cases hk
  kend := by simp
  khome := by simp
/-- What New answers, and leaves. -/
def NewPost (w : World) (o : Option TopS) (e : Ending) (w' : World) : Prop := Below w.heap.size w w' ∧ ((o = none ∧ e = .returned (.tuple #[.pointer none, .int .i64 42])) ∨ ∃ s tb eb hb cv, o = some s ∧ e = .returned (.tuple #[ptr tb, .int .i64 0]) ∧ TopoW w' w.heap.size tb eb hb cv s)

set_option maxRecDepth 100000 in
set_option maxHeartbeats 8000000 in
theorem New_any (w : World) (size : Int) (v : Value) (l : List Link) (h : ReadL w 5 encLink v l) :
    Calls Try.prog 11 #[.int .i64 size, v] w (NewPost w (newF size l)) := by
  have HR : Hid (newF size l = if badNew size l.length = true then none else joinsF size ⟨size, [], [], []⟩ l) := Lib.hid rfl
  generalize newF size l = R at *
  obtain ⟨a, cap, hgv, hcap, hmax, hc⟩ := h
  subst hgv
  unfold maxLen at hmax
  have HC := Lib.hid hc
  clear hc
  have hmm := @run_makeMap Try.prog
  cases hbd : badNew size l.length
  · rw [hbd] at HR
    simp only [Bool.false_eq_true, if_false] at HR
    simp only [badNew, Bool.or_eq_false_iff, decide_eq_false_iff_not] at hbd
    obtain ⟨d1, d2, d3⟩ := hbd
    have t1 : decide (size < 1) = false := decide_eq_false d1
    have t2 : decide (32 < size) = false := decide_eq_false d2
    have t3 : decide ((64 : Int) < (l.length : Int)) = false := decide_eq_false d3
    have HSz : Hid (size ≤ 32) := Lib.hid (by omega)
    clear d1 d2
    go_enter Try.func11, Try.ntmps11
    go_wp2_with fail
    clear hmm t1 t2 t3
    have HB0 : Hid (Below w.heap.size w _) := Lib.hid ((((Below.refl w.heap.size w).alloc (Nat.le_refl _) (.map #[] 0)).alloc (by simp) (.map #[] 0)).alloc (by simp; omega) (.cells #[.int .i64 size, .map (some w.heap.size), .map (some (w.heap.size + 1)), .slice none 0 0] 57))
    have HT0 := Lib.hid (TopoW.fresh w size)
    generalize ((w.alloc (.map #[] 0)).alloc (.map #[] 0)).alloc (.cells #[.int .i64 size, .map (some w.heap.size), .map (some (w.heap.size + 1)), .slice none 0 0] 57) = w1 at *
    obtain ⟨tb, htb⟩ : ∃ tb, tb = w.heap.size + 1 + 1 := ⟨_, rfl⟩
    obtain ⟨eb, heb⟩ : ∃ eb, eb = w.heap.size := ⟨_, rfl⟩
    obtain ⟨hb, hhb⟩ : ∃ hb, hb = w.heap.size + 1 := ⟨_, rfl⟩
    have HT1 : Hid (TopoW w1 w.heap.size tb eb hb (.slice none 0 0) ⟨size, [], [], []⟩) := Lib.hid (by rw [htb, heb, hhb]; exact HT0.out)
    rw [← htb, ← hhb, ← heb]
    clear HT0 htb heb hhb
    go_loopw [27] (fun iv wr => ∃ k : Nat, k ≤ l.length ∧ iv = .int .i64 k ∧ Hid (Below w.heap.size w wr) ∧ ∃ s cv, Hid (R = joinsF size s (l.drop k)) ∧ Hid (s.costs.length = k) ∧ Hid (TopoW wr w.heap.size tb eb hb cv s)) (fun iv _ => l.length - (intOf iv).toNat)
    case atStart => exact ⟨0, Nat.zero_le _, rfl, HB0, _, _, HR, Lib.hid rfl, HT1⟩
    case round =>
      obtain ⟨k, hk, rfl, HB, s, cv, HRk, HLn, HTk⟩ := hrel
      clear HR HT1 HB0
      by_cases hlt : k < l.length
      · have d2 : decide (k < l.length) = true := by simpa using hlt
        rcases HC.out with hnil | ⟨b, off, rfl, hblt, hcell⟩
        · rw [hnil] at hlt; simp at hlt
        have r1 := range_of hcell HB.out hblt k hlt
        have HRx : Hid (R = if rightL l[k] size = true then (match joinS s l[k] with | some s' => joinsF size s' (l.drop (k + 1)) | none => none) else none) := Lib.hid (by
          rw [HRk.out, List.drop_eq_getElem_cons hlt]; rfl)
        clear hcell HRk
        generalize l[k] = x at *
        obtain ⟨rest, hrest⟩ : ∃ rest, rest = l.drop (k + 1) := ⟨_, rfl⟩
        rw [← hrest] at HRx
        have HRs := Lib.hid hrest
        clear hrest
        have K : Hid (TS w.heap.size w [] tb eb hb cv s wr) := Lib.hid ⟨KR.start HB.out HB.out.size, HTk.out⟩
        have HRt : Hid (∀ W : World, _) := Lib.hid (fun W => right_any W x size)
        have HWf : Hid (rightL x size = true → _) := Lib.hid (fun h => rightL_wf h HSz.out)
        have HJn : Hid (∀ s', joinS s x = some s' → s'.costs.length = k + 1) := Lib.hid (fun s' h => by rw [joinS_len h, HLn.out])
        obtain ⟨x1, x2, x3, x4, x5⟩ := x
        simp only [encLink] at *
        go_wp2_with (first
          | (refine wpList_load_mid rfl 52 _ rfl _ _ rfl _ _ r1 Try.underlying52 rfl (by kernel_rfl) ?_)
          | (refine wpList_store_row rfl 52 _ _ rfl _ rfl #[.int .i64 x1, .int .i64 x2, .int .i64 x3, .int .i64 x4, .float .f64 x5] rfl _ _ ((K.out.new _ _).at 0 rfl) rfl (by kernel_rfl) (by simp [Value.oneCell']) ?_)
          | fail)
        intro Wi hbi hbari
        replace K := Lib.hid (K.out.into hbari hbi)
        clear hbi hbari r1 HB HTk
        generalize wr.heap.size = g1 at *
        go_wp2_with (first
          | (refine wpList_load_row rfl 52 _ rfl _ rfl _ _ _ _ (K.out.at 0 rfl) Try.underlying52 rfl (by kernel_rfl) ?_)
          | fail)
        refine (HRt.out _).mono ?_
        rintro e w2 ⟨rfl, hb2⟩
        replace K := Lib.hid (K.out.call hb2)
        clear hb2 HRt
        cases hrt : rightL ⟨x1, x2, x3, x4, x5⟩ size
        · rw [hrt] at HRx
          have HRn : Hid (R = none) := Lib.hid (by rw [HRx.out]; rfl)
          clear HRx HWf HJn hrt
          go_wp2_with fail
          go_ret2
          exact ⟨K.out.below, .inl ⟨HRn.out, rfl⟩⟩
        · rw [hrt, if_pos rfl] at HRx
          have HWf2 := Lib.hid (HWf.out hrt)
          clear HWf hrt
          have c0 := (K.out.at 0 rfl).cell 0 _ rfl
          have c1 := (K.out.at 0 rfl).cell 1 _ rfl
          have c2 := (K.out.at 0 rfl).cell 2 _ rfl
          have c3 := (K.out.at 0 rfl).cell 3 _ rfl
          have c4 := (K.out.at 0 rfl).cell 4 _ rfl
          go_wp2_with fail
          clear c0 c1 c2 c3 c4
          refine (join_any _ w.heap.size tb eb hb cv s K.out.2 K.out.size ⟨x1, x2, x3, x4, x5⟩ HWf2.out.1 HWf2.out.2.1 HWf2.out.2.2.1 HWf2.out.2.2.2.1 HWf2.out.2.2.2.2.1 HWf2.out.2.2.2.2.2 (by rw [HLn.out]; omega)).mono ?_
          rintro e w3 ⟨rfl, hb3, hj⟩
          have HB3 := Lib.hid (K.out.below.trans hb3)
          have HJ3 := Lib.hid hj
          clear hb3 hj K HWf2 HLn
          generalize joinS s ⟨x1, x2, x3, x4, x5⟩ = o at *
          cases o with
          | none =>
            have HRn : Hid (R = none) := Lib.hid (by rw [HRx.out])
            clear HRx HJn HJ3
            go_wp2_with fail
            go_ret2
            exact ⟨HB3.out, .inl ⟨HRn.out, rfl⟩⟩
          | some s2 =>
            have HRn : Hid (R = joinsF size s2 rest) := Lib.hid (by rw [HRx.out])
            have HL2 := Lib.hid (HJn.out s2 rfl)
            obtain ⟨cv2, hT2⟩ := HJ3.out s2 rfl
            have HT2 := Lib.hid hT2
            clear HRx HJn HJ3 hT2
            go_wp2_with fail
            go_roundw
            case rel => exact ⟨k + 1, by omega, by go_num, HB3, s2, cv2, Lib.hid (by rw [← HRs.out]; exact HRn.out), HL2, HT2⟩
            case measure => simp [intOf]; omega
      · have d2 : decide (k < l.length) = false := by simpa using hlt
        obtain rfl : k = l.length := by omega
        have HRe : Hid (R = some s) := Lib.hid (by rw [HRk.out, List.drop_length]; rfl)
        clear HRk
        go_wp2_with fail
        go_ret2
        exact ⟨HB.out, .inr ⟨s, tb, eb, hb, cv, HRe.out, rfl, HTk.out⟩⟩
  · rw [hbd] at HR
    simp only [if_true] at HR
    have HR2 := HR.out
    clear HR
    subst HR2
    have K : Hid (Below w.heap.size w w) := Lib.hid (Below.refl _ _)
    simp only [badNew, Bool.or_eq_true, decide_eq_true_eq] at hbd
    go_enter Try.func11, Try.ntmps11
    go_wp2_with fail
    all_goals first | (exfalso; omega) | (go_ret2; exact ⟨K.out, .inl ⟨rfl, rfl⟩⟩)
end Go.Proofs.Ytggcmhjeflofmaa
