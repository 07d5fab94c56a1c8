/- The chapter's examples. -/
import Derived.Test.YtfjngecgfmlnfaaGroupQ
namespace Go.Proofs.Ytfjngecgfmlnfaa
open Go.RowKit Go.Maps
set_option linter.unusedVariables false
set_option linter.unusedSimpArgs false

/-- A new block, read as a list. -/
theorem ReadL.made {α : Type} (w : World) (size : Nat) (enc : α → List Value) (T : TypeId) (xs : List α) (cs : Array Value) (h : ∀ i j u, (hi : i < xs.length) → (enc xs[i])[j]? = some u → cs[i * size + j]? = some u) (hn : xs.length ≤ maxLen) :
    ReadL (w.alloc (.cells cs T)) size enc (.slice (some ⟨w.heap.size, 0, none⟩) xs.length xs.length) xs :=
  ⟨_, xs.length, rfl, Nat.le_refl _, hn, .inr ⟨w.heap.size, 0, rfl, by simp, fun i j u hi hu => by
    rw [Nat.zero_add]
    exact (BlkAt.new w T cs).cell _ u (h i j u hi hu)⟩⟩
def b1 : Bucket := ⟨1, 0, .slice none 0 0, []⟩
def b2 : Bucket := ⟨2, 7, .slice none 0 0, []⟩
def a1 : Action := ⟨2, 0, 1⟩
theorem rows_b12 : ∀ i j u, (hi : i < [b1, b2].length) → (encBucket [b1, b2][i])[j]? = some u → #[Value.int .i64 1, .int .i64 0, .slice none 0 0, .int .i64 2, .int .i64 7, .slice none 0 0][i * 3 + j]? = some u := by
  intro i j u hi hu
  have hj : j < 3 := by rw [← encBucket_len]; exact (List.getElem?_eq_some_iff.mp hu).1
  simp only [List.length_cons, List.length_nil] at hi
  rcases (by omega : i = 0 ∨ i = 1) with rfl | rfl <;> rcases (by omega : j = 0 ∨ j = 1 ∨ j = 2) with rfl | rfl | rfl <;> exact hu
theorem rows_live : ∀ i j u, (hi : i < [false, false, true].length) → (encBo [false, false, true][i])[j]? = some u → #[Value.bool false, .bool false, .bool true][i * 1 + j]? = some u := by
  intro i j u hi hu
  have hj : j < 1 := by rw [← encBo_len]; exact (List.getElem?_eq_some_iff.mp hu).1
  simp only [List.length_cons, List.length_nil] at hi
  rcases (by omega : i = 0 ∨ i = 1 ∨ i = 2) with rfl | rfl | rfl <;> rcases (by omega : j = 0) with rfl <;> exact hu
theorem rows_a1 : ∀ i j u, (hi : i < [a1].length) → (encAction [a1][i])[j]? = some u → #[Value.int .i64 2, .int .i64 0, .int .u64 1][i * 3 + j]? = some u := by
  intro i j u hi hu
  have hj : j < 3 := by rw [← encAction_len]; exact (List.getElem?_eq_some_iff.mp hu).1
  simp only [List.length_cons, List.length_nil] at hi
  rcases (by omega : i = 0) with rfl <;> rcases (by omega : j = 0 ∨ j = 1 ∨ j = 2) with rfl | rfl | rfl <;> exact hu
def b3 (g : Nat) : Bucket := ⟨0, 0, .slice (some ⟨g, 0, none⟩) 1 1, [a1]⟩
theorem rows_b3 (g : Nat) : ∀ i j u, (hi : i < [b3 g].length) → (encBucket [b3 g][i])[j]? = some u → #[Value.int .i64 0, .int .i64 0, .slice (some ⟨g, 0, none⟩) 1 1][i * 3 + j]? = some u := by
  intro i j u hi hu
  have hj : j < 3 := by rw [← encBucket_len]; exact (List.getElem?_eq_some_iff.mp hu).1
  simp only [List.length_cons, List.length_nil] at hi
  rcases (by omega : i = 0) with rfl <;> rcases (by omega : j = 0 ∨ j = 1 ∨ j = 2) with rfl | rfl | rfl <;> exact hu
theorem add_awake (g : Nat) : addF [] 3 1 1 ([b3 g].map coreB) = 31 := by
  simp [addF, wrongF, headF, wrongBF, badA, wholeF, leadsF, leadsA, coreB, b3, a1, rightA, lookL]
theorem choose_awake : chooseF 4 ([b1, b2].map coreB) [false, false, true] 0 = [(2, 7, [])] := by
  simp [chooseF, firstF, coreB, b1, b2, aliveF]

set_option maxRecDepth 100000 in
set_option maxHeartbeats 4000000 in
theorem awake10 (w : World) : Calls Try.prog 9 #[] w fun x w' => x = .returned (.bool true) ∧ Below w.heap.size w w' := by
  have HCh : Hid (∀ W : World, Calls Try.prog 10 #[.agg #[.int .i64 0, .int .i64 4, .slice (some ⟨W.heap.size, 0, none⟩) 2 2], .slice (some ⟨W.heap.size + 1, 0, none⟩) 3 3, .int .i64 0]
      ((W.alloc (.cells #[.int .i64 1, .int .i64 0, .slice none 0 0, .int .i64 2, .int .i64 7, .slice none 0 0] 30)).alloc (.cells #[.bool false, .bool false, .bool true] 4))
      fun e w' => ∃ x a cap, e = .returned (.slice a 1 cap) ∧ ReadL w' 3 encBucket (.slice a 1 cap) [x] ∧ x.fWeight = 7 ∧ Below W.heap.size W w') := Lib.hid (fun W => by
    have hr := ReadL.made W 3 encBucket 30 [b1, b2] _ rows_b12 (by simp [maxLen])
    have hr2 := hr.alloc (.cells #[.bool false, .bool false, .bool true] 4)
    have hl := ReadL.made (W.alloc (.cells #[.int .i64 1, .int .i64 0, .slice none 0 0, .int .i64 2, .int .i64 7, .slice none 0 0] 30)) 1 encBo 4 [false, false, true] _ rows_live (by simp [maxLen])
    have hs : (W.alloc (.cells #[.int .i64 1, .int .i64 0, .slice none 0 0, .int .i64 2, .int .i64 7, .slice none 0 0] 30)).heap.size = W.heap.size + 1 := by simp
    rw [hs] at hl
    have hb : Below W.heap.size W ((W.alloc (.cells #[.int .i64 1, .int .i64 0, .slice none 0 0, .int .i64 2, .int .i64 7, .slice none 0 0] 30)).alloc (.cells #[.bool false, .bool false, .bool true] 4)) :=
      ((Below.refl _ _).alloc (Nat.le_refl _) _).alloc (by simp) _
    refine (Choose_any _ ⟨0, 4, .slice (some ⟨W.heap.size, 0, none⟩) 2 2, [b1, b2]⟩ _ [false, false, true] 0 ⟨rfl, rfl, ⟨hr2, ?_⟩, trivial⟩ rfl hl ?_).mono ?_
    · intro y hy
      simp at hy
      rcases hy with rfl | rfl
      · exact ⟨by decide, by decide, ⟨ReadL.nil _ _ _, by simp [b1]⟩, trivial⟩
      · exact ⟨by decide, by decide, ⟨ReadL.nil _ _ _, by simp [b2]⟩, trivial⟩
    · intro y hy
      simp at hy
      rcases hy with rfl | rfl <;> simp [b1, b2]
    · rintro e w' ⟨v, l, rfl, hr', _, hc, hb'⟩
      rw [show (⟨0, 4, .slice (some ⟨W.heap.size, 0, none⟩) 2 2, [b1, b2]⟩ : Group).fKind = 4 from rfl, show (⟨0, 4, .slice (some ⟨W.heap.size, 0, none⟩) 2 2, [b1, b2]⟩ : Group).fBuckets = [b1, b2] from rfl, choose_awake] at hc
      obtain ⟨x, rfl⟩ : ∃ x, l = [x] := by
        have := congrArg List.length hc
        simp only [List.length_map, List.length_cons, List.length_nil] at this
        exact List.length_eq_one_iff.1 this
      · obtain ⟨a, cap, rfl, _, _⟩ := hr'.slice
        refine ⟨x, a, cap, rfl, hr', ?_, hb.trans (hb'.mono hb.size)⟩
        have := congrArg (List.map fun c : Core => c.2.1) hc
        simpa [coreB] using this)
  have HNw : Hid (∀ W : World, _) := Lib.hid (fun W => New_any W 3 (by decide))
  go_enter Try.func9, Try.ntmps9
  go_wp2_with fail
  refine (HCh.out _).mono ?_
  rintro e w1 ⟨x, a, cap, rfl, hr1, hx7, hb1⟩
  obtain ⟨b, off, cap', hv, hcap, hmax, hblt, hcell⟩ := hr1.cells (by simp)
  obtain ⟨rfl, rfl⟩ : a = some ⟨b, off, none⟩ ∧ cap = cap' := by simpa using hv
  have HCl : Hid (w1.cell? ⟨b, off + 1, none⟩ = some (.int .i64 7)) := Lib.hid (by simpa using hcell 0 1 (.int .i64 7) (by simp) (by simp [encBucket, hx7]))
  have HBl := Lib.hid hblt
  have HB1 := Lib.hid hb1
  clear hr1 hv hcell hb1 hcap hmax hblt HCh
  go_wp2_with fail
  refine (HNw.out _).mono ?_
  rintro e w2 ⟨tb, mb, rfl, hmb, hT, hb2⟩
  have HT := Lib.hid hT
  have HM := Lib.hid (Nat.le_trans HB1.out.size hmb)
  have HB2 := Lib.hid (HB1.out.trans (hb2.mono HB1.out.size))
  have c7 := (hb2.cell (p := ⟨b, off + 1, none⟩) HBl.out).trans HCl.out
  have HAd : Hid (Calls Try.prog 15 #[.pointer (some ⟨tb, 0, none⟩), .agg #[.int .i64 1, .int .i64 1, .slice (some ⟨w2.heap.size + 1, 0, none⟩) 1 1]]
      ((w2.alloc (.cells #[.int .i64 2, .int .i64 0, .int .u64 1] 58)).alloc (.cells #[.int .i64 0, .int .i64 0, .slice (some ⟨w2.heap.size, 0, none⟩) 1 1] 30))
      fun e w' => e = .returned (.int .i64 31) ∧ Below w.heap.size w w') := Lib.hid (by
    have hr := (ReadL.made w2 3 encAction 58 [a1] _ rows_a1 (by simp [maxLen])).alloc (.cells #[.int .i64 0, .int .i64 0, .slice (some ⟨w2.heap.size, 0, none⟩) 1 1] 30)
    have hq := ReadL.made (w2.alloc (.cells #[.int .i64 2, .int .i64 0, .int .u64 1] 58)) 3 encBucket 30 [b3 w2.heap.size] _ (rows_b3 w2.heap.size) (by simp [maxLen])
    have hs : (w2.alloc (.cells #[.int .i64 2, .int .i64 0, .int .u64 1] 58)).heap.size = w2.heap.size + 1 := by simp
    rw [hs] at hq
    have hb : Below w2.heap.size w2 ((w2.alloc (.cells #[.int .i64 2, .int .i64 0, .int .u64 1] 58)).alloc (.cells #[.int .i64 0, .int .i64 0, .slice (some ⟨w2.heap.size, 0, none⟩) 1 1] 30)) :=
      ((Below.refl _ _).alloc (Nat.le_refl _) _).alloc (by simp) _
    refine (Add_any _ tb mb 3 [] (HT.out.below hb (Nat.le_refl _)) ⟨1, 1, .slice (some ⟨w2.heap.size + 1, 0, none⟩) 1 1, [b3 w2.heap.size]⟩ ⟨rfl, rfl, ⟨hq, ?_⟩, trivial⟩ (by simp)).mono ?_
    · intro y hy
      simp at hy
      subst hy
      refine ⟨rfl, rfl, ⟨hr, ?_⟩, trivial⟩
      intro z hz
      simp [b3] at hz
      subst hz
      exact ⟨by decide, by decide, by decide, trivial⟩
    · rintro e w' ⟨he, hg, _⟩
      rw [show (⟨1, 1, .slice (some ⟨w2.heap.size + 1, 0, none⟩) 1 1, [b3 w2.heap.size]⟩ : Group).fBuckets = [b3 w2.heap.size] from rfl] at he
      simp only at he
      rw [add_awake] at he
      refine ⟨he, ?_⟩
      have hs2 : w.heap.size ≤ w2.heap.size := HB2.out.size
      exact (HB2.out.trans (hb.mono hs2)).grown hg (Nat.le_trans hs2 hb.size) (fun k hk => by cases hk; exact HM.out))
  clear hT hmb hb2 HNw HT
  go_wp2_with fail
  refine HAd.out.mono ?_
  rintro e w3 ⟨rfl, hb3⟩
  have HB3 := Lib.hid hb3
  clear hb3 HAd
  go_wp2_with fail
  go_ret
  exact ⟨rfl, HB3.out⟩
end Go.Proofs.Ytfjngecgfmlnfaa
