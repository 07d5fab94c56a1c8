/- A table of groups: what a look-up gives; what one comes to (plain). -/
import Derived.Test.YtfjngecgfmlnfaaGroupR
import Derived.Deep.LoopGhost
namespace Go.Proofs.Ytfjngecgfmlnfaa
open Go.RowKit Go.Maps
set_option linter.unusedVariables false
set_option linter.unusedSimpArgs false

def zeroG : Group := ⟨0, 0, .slice none 0 0, []⟩
def getG (l : List (Int × Group)) (id : Int) : Group := (lookL l id).getD zeroG
def nextF (l : List (Int × Group)) (n : Int) : List Int := leadsF ((getG l n).fBuckets.map coreB)
theorem okGX_zero (w : World) (m : Nat) : okGX w m zeroG := ⟨rfl, rfl, ⟨none, 0, rfl, Nat.le_refl _, by simp [maxLen], .inl rfl⟩, by simp [zeroG]⟩
theorem TableW.getOk {w : World} {tb mb : Nat} {room : Int} {l : List (Int × Group)} (h : TableW w tb mb room l) (id : Int) : okGX w mb (getG l id) := by
  unfold getG
  cases hq : lookL l id with
  | none => exact okGX_zero _ _
  | some g => exact h.ok _ (lookL_mem hq)
theorem TableW.get {w : World} {tb mb : Nat} {room : Int} {l : List (Int × Group)} (h : TableW w tb mb room l) (id : Int) (hid : wfI id) : (Instr.lookup 66 (.map (some mb)) (.int .i64 id) false).run Try.prog w = .ok (valGroup (getG l id)) w := by
  have hl := h.map.look keyE_int (T := 66) (E := 24) Try.underlying66 zeroGroup h.keys id hid false
  unfold getG
  cases hq : lookL l id with
  | none => rw [hq] at hl; simpa [keyI, zeroG, valGroup] using hl
  | some g => rw [hq] at hl; simpa [keyI] using hl
/-- All groups of a table may be: nothing is wrong with them. -/
def TabOk (l : List (Int × Group)) : Prop := l.length ≤ 64 ∧ ∀ p ∈ l, wrongF p.2.fID p.2.fKind (p.2.fBuckets.map coreB) = 0
theorem TabOk.lead {l : List (Int × Group)} (h : TabOk l) (id : Int) : leadOk ((getG l id).fBuckets.map coreB) := by
  unfold getG
  cases hq : lookL l id with
  | none => exact ⟨by simp [zeroG], by simp [zeroG]⟩
  | some g =>
    have h1 := h.2 _ (lookL_mem hq)
    simp only [Option.getD_some]
    simp only at h1
    exact lead_ok h1
theorem TabOk.next_len {l : List (Int × Group)} (h : TabOk l) (id : Int) : (nextF l id).length ≤ 400 := by
  have h1 := h.lead id
  have h2 := leadsF_len _ h1 20
  rw [List.take_of_length_le h1.1] at h2
  exact h2
theorem TabOk.next_wf {l : List (Int × Group)} (h : TabOk l) (id : Int) : ∀ n ∈ nextF l id, wfI n := leadsF_wf _ (h.lead id)
theorem next_none {l : List (Int × Group)} {id : Int} (h : lookL l id = none) : nextF l id = [] := by
  unfold nextF getG; rw [h]; rfl

/-- From a group one comes to another. -/
inductive Comes (nx : Int → List Int) : Int → Int → Prop
  | refl (n : Int) : Comes nx n n
  | step {n m k : Int} : m ∈ nx n → Comes nx m k → Comes nx n k
theorem Comes.snoc {nx : Int → List Int} {n m k : Int} (h : Comes nx n m) (hk : k ∈ nx m) : Comes nx n k := by
  induction h with
  | refl n => exact .step hk (.refl _)
  | step h1 _ ih => exact .step h1 (ih hk)
/-- Between two rounds of comes. -/
structure ComesI (nx : Int → List Int) (frm : List Int) (id : Int) (todo seen : List Int) : Prop where
  sound : ∀ n ∈ todo, ∃ m ∈ frm, Comes nx m n
  start : ∀ m ∈ frm, m ∈ seen ∨ m ∈ todo
  shut : ∀ n ∈ seen, ∀ k ∈ nx n, k ∈ seen ∨ k ∈ todo
  not : id ∉ seen
theorem ComesI.init (nx : Int → List Int) (frm : List Int) (id : Int) : ComesI nx frm id frm [] :=
  ⟨fun n hn => ⟨n, hn, .refl n⟩, fun m hm => .inr hm, by simp, by simp⟩
theorem ComesI.hit {nx : Int → List Int} {frm : List Int} {id : Int} {t seen : List Int} (h : ComesI nx frm id (id :: t) seen) : ∃ m ∈ frm, Comes nx m id := h.sound _ (by simp)
theorem ComesI.skip {nx : Int → List Int} {frm : List Int} {id n : Int} {t seen : List Int} (h : ComesI nx frm id (n :: t) seen) (hs : n ∈ seen) : ComesI nx frm id t seen := by
  refine ⟨fun m hm => h.sound m (by simp [hm]), fun m hm => ?_, fun m hm k hk => ?_, h.not⟩
  · rcases h.start m hm with h1 | h1
    · exact .inl h1
    · rcases List.mem_cons.1 h1 with rfl | h1
      · exact .inl hs
      · exact .inr h1
  · rcases h.shut m hm k hk with h1 | h1
    · exact .inl h1
    · rcases List.mem_cons.1 h1 with rfl | h1
      · exact .inl hs
      · exact .inr h1
theorem ComesI.more {nx : Int → List Int} {frm : List Int} {id n : Int} {t seen : List Int} (h : ComesI nx frm id (n :: t) seen) (hne : n ≠ id) : ComesI nx frm id (t ++ nx n) (seen ++ [n]) := by
  refine ⟨fun m hm => ?_, fun m hm => ?_, fun m hm k hk => ?_, ?_⟩
  · rcases List.mem_append.1 hm with hm | hm
    · exact h.sound m (by simp [hm])
    · obtain ⟨q, hq, hc⟩ := h.sound n (by simp)
      exact ⟨q, hq, hc.snoc hm⟩
  · rcases h.start m hm with h1 | h1
    · exact .inl (by simp [h1])
    · rcases List.mem_cons.1 h1 with rfl | h1
      · exact .inl (by simp)
      · exact .inr (by simp [h1])
  · rcases List.mem_append.1 hm with hm | hm
    · rcases h.shut m hm k hk with h1 | h1
      · exact .inl (by simp [h1])
      · rcases List.mem_cons.1 h1 with rfl | h1
        · exact .inl (by simp)
        · exact .inr (by simp [h1])
    · obtain rfl := List.mem_singleton.1 hm
      exact .inr (by simp [hk])
  · intro hm
    rcases List.mem_append.1 hm with hm | hm
    · exact h.not hm
    · exact hne (List.mem_singleton.1 hm).symm
theorem ComesI.done {nx : Int → List Int} {frm : List Int} {id : Int} {seen : List Int} (h : ComesI nx frm id [] seen) : ¬ ∃ m ∈ frm, Comes nx m id := by
  rintro ⟨m, hm, hc⟩
  have key : ∀ n k, Comes nx n k → n ∈ seen → k ∈ seen := fun n k hc => by
    induction hc with
    | refl n => exact fun hn => hn
    | step h1 _ ih => exact fun hn => ih ((h.shut _ hn _ h1).resolve_right (by simp))
  exact h.not (key _ _ hc ((h.start m hm).resolve_right (by simp)))
/-- How many of a table's groups are not seen. -/
def unseen (l : List (Int × Group)) (seen : List Int) : Nat := l.countP fun p => !seen.contains p.1
theorem unseen_le (l : List (Int × Group)) (seen : List Int) (n : Int) : unseen l (seen ++ [n]) ≤ unseen l seen := by
  unfold unseen
  refine List.countP_mono_left fun p _ hp => ?_
  simp only [Bool.not_eq_true', List.contains_eq_mem, decide_eq_false_iff_not, List.mem_append, not_or] at hp ⊢
  exact hp.1
theorem unseen_lt {l : List (Int × Group)} {seen : List Int} {n : Int} {g : Group} (h : (n, g) ∈ l) (hn : n ∉ seen) : unseen l (seen ++ [n]) < unseen l seen := by
  induction l with
  | nil => cases h
  | cons p l ih =>
    unfold unseen at *
    simp only [List.countP_cons]
    rcases List.mem_cons.1 h with rfl | h
    · have h1 : (!(seen ++ [n]).contains n) = false := by simp
      have h2 : (!seen.contains n) = true := by simpa using hn
      have h3 := unseen_le l seen n
      unfold unseen at h3
      simp only [h1, h2, if_true]
      simp only [Bool.false_eq_true, if_false]
      omega
    · have := ih h
      have h4 : (if (!(seen ++ [n]).contains p.1) = true then 1 else 0) ≤ (if (!seen.contains p.1) = true then 1 else 0) := by
        split
        · rename_i hq
          have : (!seen.contains p.1) = true := by
            simp only [Bool.not_eq_true', List.contains_eq_mem, decide_eq_false_iff_not, List.mem_append, not_or] at hq ⊢
            exact hq.1
          rw [if_pos this]
          exact Nat.le_refl _
        · omega
      omega
theorem more_measure {l : List (Int × Group)} (hok : TabOk l) {seen t : List Int} {n : Int} (hn : n ∉ seen) : (t ++ nextF l n).length + 401 * unseen l (seen ++ [n]) < (n :: t).length + 401 * unseen l seen := by
  have h1 := unseen_le l seen n
  rw [List.length_append, List.length_cons]
  cases hq : lookL l n with
  | none => rw [next_none hq]; simp; omega
  | some g =>
    have := unseen_lt (lookL_mem hq) hn
    have := hok.next_len n
    omega
theorem unseen_len (l : List (Int × Group)) (seen : List Int) : unseen l seen ≤ l.length := List.countP_le_length
/-- What has been seen, as a map. -/
def seenM (seen : List Int) : List (Int × Bool) := seen.map fun n => (n, true)
def boV (b : Bool) : Value := .bool b
theorem seenM_look (seen : List Int) (n : Int) : (lookL (seenM seen) n).getD false = decide (n ∈ seen) := by
  induction seen with
  | nil => rfl
  | cons m l ih =>
    unfold lookL seenM at *
    simp only [List.map_cons, List.find?_cons]
    by_cases h : m = n
    · subst h; simp
    · have : decide (m = n) = false := decide_eq_false h
      rw [this]
      simp only
      rw [ih]
      have : (n ∈ m :: l) ↔ n ∈ l := by simp [Ne.symm h]
      simp [Ne.symm h]
theorem seenM_put (seen : List Int) (n : Int) (h : n ∉ seen) : putL (seenM seen) n true = seenM (seen ++ [n]) := by
  unfold putL
  rw [if_pos]
  · simp [seenM]
  · rw [lookL_none]
    intro p hp
    unfold seenM at hp
    obtain ⟨m, hm, rfl⟩ := List.mem_map.1 hp
    rintro rfl
    exact h hm
/-- A list that is still to do: it lies somewhere else than block sb. -/
def TodoW (w : World) (sb : Nat) (v : Value) (xs : List Int) : Prop :=
  ∃ (a : Option Addr) (cap : Nat), v = .slice a xs.length cap ∧ xs.length ≤ cap ∧ cap ≤ maxLen ∧ (xs = [] ∨ ∃ b off, a = some ⟨b, off, none⟩ ∧ b < w.heap.size ∧ b ≠ sb ∧ ∀ i u, xs[i]? = some u → w.cell? ⟨b, off + i, none⟩ = some (.int .i64 u))
theorem TodoW.read {w : World} {sb : Nat} {v : Value} {xs : List Int} (h : TodoW w sb v xs) : ReadL w 1 encI v xs := by
  obtain ⟨a, cap, hv, h1, h2, h3⟩ := h
  refine ⟨a, cap, hv, h1, h2, h3.imp id ?_⟩
  rintro ⟨b, off, ha, hb, _, hc⟩
  refine ⟨b, off, ha, hb, fun i j u hi hu => ?_⟩
  have hj : j < 1 := by rw [← encI_len xs[i]]; exact (List.getElem?_eq_some_iff.mp hu).1
  obtain rfl : j = 0 := by omega
  simp only [encI, List.getElem?_cons_zero, Option.some.injEq] at hu
  subst hu
  have := hc i xs[i] (List.getElem?_eq_getElem hi)
  simpa using this
theorem TodoW.of_read {w : World} {sb : Nat} {v : Value} {xs : List Int} (h : ReadL w 1 encI v xs) (hs : w.heap.size ≤ sb) : TodoW w sb v xs := by
  obtain ⟨a, cap, hv, h1, h2, h3⟩ := h
  refine ⟨a, cap, hv, h1, h2, h3.imp id ?_⟩
  rintro ⟨b, off, ha, hb, hc⟩
  refine ⟨b, off, ha, hb, by omega, fun i u hu => ?_⟩
  obtain ⟨hi, rfl⟩ := List.getElem?_eq_some_iff.1 hu
  have := hc i 0 (.int .i64 xs[i]) hi rfl
  simpa using this
theorem TodoW.of_own {w : World} {sb B : Nat} {v : Value} {xs : List Int} (h : OwnL w B 3 1 encI v xs) (hs : sb < B) : TodoW w sb v xs := by
  rcases h.form encI_len with ⟨rfl, rfl⟩ | ⟨g, cap, rfl, hb, hlt, h1, h2, _, hc⟩
  · exact ⟨none, 0, rfl, Nat.le_refl _, by simp [maxLen], .inl rfl⟩
  · refine ⟨_, cap, rfl, h1, h2, .inr ⟨g, 0, rfl, hlt, by omega, fun i u hu => ?_⟩⟩
    obtain ⟨hi, rfl⟩ := List.getElem?_eq_some_iff.1 hu
    have := hc i 0 (.int .i64 xs[i]) hi rfl
    simpa using this
theorem TodoW.below {w w' : World} {sb B : Nat} {v : Value} {xs : List Int} (h : TodoW w sb v xs) (hb : Below B w w') (hB : w.heap.size ≤ B) : TodoW w' sb v xs := by
  obtain ⟨a, cap, hv, h1, h2, h3⟩ := h
  refine ⟨a, cap, hv, h1, h2, h3.imp id ?_⟩
  rintro ⟨b, off, ha, hlt, hne, hc⟩
  exact ⟨b, off, ha, Nat.lt_of_lt_of_le hlt hb.size, hne, fun i u hu => by rw [hb.cell (show b < B by omega)]; exact hc i u hu⟩
theorem TodoW.bar {w w' : World} {sb : Nat} {v : Value} {xs : List Int} (h : TodoW w sb v xs) (hb : Bar sb w w') : TodoW w' sb v xs := by
  obtain ⟨a, cap, hv, h1, h2, h3⟩ := h
  refine ⟨a, cap, hv, h1, h2, h3.imp id ?_⟩
  rintro ⟨b, off, ha, hlt, hne, hc⟩
  refine ⟨b, off, ha, Nat.lt_of_lt_of_le hlt hb.size, hne, fun i u hu => ?_⟩
  rw [World.cell?_of_block (hb.block b hlt hne)]
  exact hc i u hu
theorem TodoW.tail {w : World} {sb : Nat} {v : Value} {x : Int} {xs : List Int} (h : TodoW w sb v (x :: xs)) : ∃ b off cap, v = .slice (some ⟨b, off, none⟩) (xs.length + 1) cap ∧ xs.length + 1 ≤ cap ∧ cap ≤ maxLen ∧ w.cell? ⟨b, off, none⟩ = some (.int .i64 x) ∧
    TodoW w sb (.slice (if cap = 1 then some ⟨b, off, none⟩ else some ⟨b, off + 1, none⟩) xs.length (cap - 1)) xs := by
  obtain ⟨a, cap, hv, h1, h2, h3⟩ := h
  rcases h3 with h3 | ⟨b, off, rfl, hlt, hne, hc⟩
  · cases h3
  · simp only [List.length_cons] at hv h1
    refine ⟨b, off, cap, hv, h1, h2, by simpa using hc 0 x rfl, ?_⟩
    by_cases h1c : cap = 1
    · obtain rfl : xs = [] := List.eq_nil_of_length_eq_zero (by omega)
      exact ⟨_, _, rfl, Nat.zero_le _, by omega, .inl rfl⟩
    · rw [if_neg h1c]
      refine ⟨_, _, rfl, by omega, by omega, .inr ⟨b, off + 1, rfl, hlt, hne, fun i u hu => ?_⟩⟩
      have := hc (i + 1) u (by simpa using hu)
      rwa [show off + 1 + i = off + (i + 1) by omega]
end Go.Proofs.Ytfjngecgfmlnfaa
