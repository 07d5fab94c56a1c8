/- A table of groups in memory: New, has, whole. -/
import Derived.Test.YtfjngecgfmlnfaaGroupN
import Derived.Test.YtfjngecgfmlnfaaMapW
import Derived.Carry
namespace Go.Proofs.Ytfjngecgfmlnfaa
open Go.RowKit Go.Maps
set_option linter.unusedVariables false
set_option linter.unusedSimpArgs false

def keyI (n : Int) : Value := .int .i64 n
def wfI (n : Int) : Prop := (Lit.int .i64 n).wf = true
theorem keyE_int : KeyE Try.prog 3 keyI wfI :=
  ⟨int_keyed Try.underlying3, fun x h => ⟨_, keyOf_int_mk Try.underlying3 h⟩, fun x y h => by simpa [keyI] using h⟩
/-- A group that lies behind block m. -/
def okGX (w : World) (m : Nat) (g : Group) : Prop := wfI g.fID ∧ wfI g.fKind ∧ ReadX w m 3 encBucket g.vBuckets g.fBuckets ∧ ∀ b ∈ g.fBuckets, okX w m b
theorem okGX.ok {w : World} {m : Nat} {g : Group} (h : okGX w m g) : okGroup w g := ⟨h.1, h.2.1, ⟨h.2.2.1.read, fun b hb => (h.2.2.2 b hb).ok⟩, trivial⟩
theorem okGX.below {w w' : World} {m B : Nat} {g : Group} (h : okGX w m g) (hb : Below B w w') (hB : w.heap.size ≤ B) : okGX w' m g := ⟨h.1, h.2.1, h.2.2.1.below hb hB, fun b hm => (h.2.2.2 b hm).below hb hB⟩
theorem okGX.bar {w w' : World} {m k : Nat} {g : Group} (h : okGX w m g) (hb : Bar k w w') (hk : k ≤ m) : okGX w' m g := ⟨h.1, h.2.1, h.2.2.1.bar hb hk, fun b hm => (h.2.2.2 b hm).bar hb hk⟩
structure TableW (w : World) (tb mb : Nat) (room : Int) (l : List (Int × Group)) : Prop where
  tab : BlkAt w tb 68 #[.int .i64 room, .map (some mb)]
  map : MapL w mb keyI valGroup l
  keys : ∀ p ∈ l, wfI p.1
  ok : ∀ p ∈ l, okGX w mb p.2
  lt : mb < tb
theorem TableW.below {w w' : World} {tb mb : Nat} {room : Int} {l : List (Int × Group)} (h : TableW w tb mb room l) {B : Nat} (hb : Below B w w') (hB : w.heap.size ≤ B) : TableW w' tb mb room l :=
  ⟨h.tab.below hb (Nat.lt_of_lt_of_le h.tab.lt hB), h.map.below hb (Nat.lt_of_lt_of_le h.map.lt hB), h.keys, fun p hp => (h.ok p hp).below hb hB, h.lt⟩
theorem TableW.drew {w : World} {tb mb : Nat} {room : Int} {l : List (Int × Group)} (h : TableW w tb mb room l) : TableW w.drew tb mb room l := h.below (Below.refl _ _).drew (Nat.le_refl _)
theorem lookL_mem {α β : Type} [DecidableEq α] {l : List (α × β)} {x : α} {y : β} (h : lookL l x = some y) : (x, y) ∈ l := by
  unfold lookL at h
  obtain ⟨p, hp, rfl⟩ := Option.map_eq_some_iff.1 h
  have h1 := List.mem_of_find?_eq_some hp
  have h2 := List.find?_some hp
  simp at h2
  rw [← h2]; exact h1
theorem zeroGroup (w : World) : (zeroValue 24).run Try.prog w = .ok (.agg #[.int .i64 0, .int .i64 0, .slice none 0 0]) w := by kernel_rfl
/-- What a look-up gives. -/
theorem TableW.look {w : World} {tb mb : Nat} {room : Int} {l : List (Int × Group)} (h : TableW w tb mb room l) (id : Int) (hid : wfI id) : ∃ a b v, (∀ c, (Instr.lookup 66 (.map (some mb)) (.int .i64 id) c).run Try.prog w = .ok (if c then .tuple #[.agg #[.int .i64 a, .int .i64 b, v], .bool (lookL l id).isSome] else .agg #[.int .i64 a, .int .i64 b, v]) w) ∧ v.oneCell' = true ∧
    ∀ g, lookL l id = some g → a = g.fID ∧ b = g.fKind ∧ v = g.vBuckets := by
  have hl := fun c => h.map.look keyE_int (T := 66) (E := 24) Try.underlying66 zeroGroup h.keys id hid c
  cases hq : lookL l id with
  | none =>
    rw [hq] at hl
    exact ⟨0, 0, .slice none 0 0, fun c => by simpa [keyI] using hl c, rfl, fun g hg => by cases hg⟩
  | some g =>
    rw [hq] at hl
    refine ⟨g.fID, g.fKind, g.vBuckets, fun c => by simpa [keyI] using hl c, (h.ok _ (lookL_mem hq)).2.2.1.read.one, fun g' hg => ?_⟩
    cases hg
    exact ⟨rfl, rfl, rfl⟩

set_option maxRecDepth 100000 in
set_option maxHeartbeats 4000000 in
theorem has_any (w : World) (tb mb : Nat) (room : Int) (l : List (Int × Group)) (h : TableW w tb mb room l) (id : Int) (hid : wfI id) :
    Calls Try.prog 37 #[.pointer (some ⟨tb, 0, none⟩), .int .i64 id] w fun e w' => e = .returned (.bool (lookL l id).isSome) ∧ Below w.heap.size w w' := by
  obtain ⟨a, b, v, hlk, hv, _⟩ := h.look id hid
  have hlk1 := hlk true
  simp only [if_true] at hlk1
  have c1 := h.tab.cell 1 _ rfl
  have K : Hid (KR w.heap.size w [] w) := Lib.hid (KR.start (Below.refl _ _) (Nat.le_refl _))
  generalize (lookL l id).isSome = R at *
  have hx2 : ∀ u ∈ #[Value.int .i64 a, Value.int .i64 b, v].toList, u.oneCell' = true := by
    intro u hu; simp at hu; rcases hu with rfl | rfl | rfl <;> first | rfl | exact hv
  clear hlk h hid
  go_enter Try.func37, Try.ntmps37
  go_wp2_with (first
    | (refine wpList_store_row rfl 24 _ _ rfl _ rfl #[.int .i64 a, .int .i64 b, v] rfl _ _ ((K.out.box _ _).at 0 rfl) rfl (by kernel_rfl) hx2 ?_)
    | fail)
  intro Wi hbi hbari
  replace K := Lib.hid (K.out.into hbari hbi)
  clear hbi hbari hlk1 c1
  go_wp2_with fail
  go_ret
  exact ⟨rfl, K.out.below⟩

set_option maxRecDepth 100000 in
set_option maxHeartbeats 4000000 in
theorem whole1_any (w : World) (tb mb g : Nat) (room : Int) (l : List (Int × Group)) (h : TableW w tb mb room l) (hg : BlkAt w g 35 #[.pointer (some ⟨tb, 0, none⟩)]) (id : Int) (hid : wfI id) :
    Calls Try.prog 56 #[.int .i64 id, .pointer (some ⟨g, 0, none⟩)] w fun e w' => e = .returned (.bool (!(lookL l id).isSome)) ∧ Below w.heap.size w w' := by
  have H := Lib.hid (has_any w tb mb room l h id hid)
  generalize (lookL l id).isSome = R at *
  have c0 := hg.cell 0 _ rfl
  clear h hg hid
  go_enter Try.func56, Try.ntmps56
  go_wp2_with fail
  refine H.out.mono ?_
  rintro x w' ⟨rfl, hb⟩
  have HB := Lib.hid hb
  clear hb
  go_wp2_with fail
  go_ret
  exact ⟨rfl, HB.out⟩
end Go.Proofs.Ytfjngecgfmlnfaa
