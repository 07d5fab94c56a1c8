/- Words on worlds that the walks of this claim share: what a call may turn, a block known whole, string results. -/
import Derived.Test.YtfjngecgfmlnfaaProg
import Derived.Below
import Derived.WalkKit
import Derived.WalkSpells
import Derived.WalkLawsBesides
import Derived.Deep.QuietTactic
import Derived.BigQuiet
import Derived.Lib.Hide
import Derived.Outline
import Derived.Deep.RegionWith
import Derived.Deep.DeepFit
import Derived.Lib.ConvBytes
import Derived.Lib.Strings
import Derived.Lib.IndexBytes
import Derived.Lib.Split
namespace Go.Proofs.Ytfjngecgfmlnfaa
open Go.RowKit

/-- What a call may have turned: the one block g, and new blocks. -/
structure Bar (g : Nat) (w w' : World) : Prop where
  os : w'.os = w.os
  tape : w'.tape = w.tape
  output : w'.output = w.output
  size : w.heap.size ≤ w'.heap.size
  block : ∀ k, k < w.heap.size → k ≠ g → w'.heap[k]? = w.heap[k]?

theorem Bar.refl (g : Nat) (w : World) : Bar g w w := ⟨rfl, rfl, rfl, Nat.le_refl _, fun _ _ _ => rfl⟩
theorem Bar.trans {g : Nat} {a b c : World} (h : Bar g a b) (k : Bar g b c) : Bar g a c :=
  ⟨k.os.trans h.os, k.tape.trans h.tape, k.output.trans h.output, Nat.le_trans h.size k.size,
   fun i hi hg => (k.block i (Nat.lt_of_lt_of_le hi h.size) hg).trans (h.block i hi hg)⟩
theorem Bar.drew {g : Nat} {a w : World} (h : Bar g a w) : Bar g a w.drew := ⟨h.os, h.tape, h.output, h.size, h.block⟩
theorem Bar.drewN {g : Nat} {a w : World} (h : Bar g a w) (n : Nat) : Bar g a (w.drewN n) := ⟨h.os, h.tape, h.output, h.size, h.block⟩
theorem Bar.set {g : Nat} {a w : World} (h : Bar g a w) (j : Nat) (u : Value) : Bar g a (w.setCell ⟨g, j, none⟩ u) :=
  h.trans ⟨rfl, rfl, rfl, by simp [World.setCell], fun k _ hk => Below.heap_setCell _ _ _ _ hk⟩
theorem Bar.alloc {g : Nat} {a w : World} (h : Bar g a w) (o : Obj) : Bar g a (w.alloc o) :=
  h.trans ⟨rfl, rfl, rfl, by simp, fun k hk _ => Below.heap_alloc _ _ _ hk⟩
theorem Bar.of_below {g : Nat} {w w' : World} (h : Below w.heap.size w w') : Bar g w w' := ⟨h.os, h.tape, h.output, h.size, fun k hk _ => h.block k hk⟩
/-- A block that the call made itself: nothing of before has turned. -/
theorem Bar.below {g B : Nat} {w0 w w' : World} (h : Bar g w w') (hb : Below B w0 w) (hg : B ≤ g) (hB : B ≤ w.heap.size) : Below B w0 w' :=
  hb.trans ⟨h.os, h.tape, h.output, h.size, fun k hk => h.block k (by omega) (by omega)⟩

theorem heap_drewN (w : World) (n : Nat) : (w.drewN n).heap = w.heap := rfl

/-- A block of plain cells, known whole. -/
def BlkAt (w : World) (g : Nat) (T : TypeId) (cs : Array Value) : Prop := w.heap[g]? = some (.cells cs T (0, 0))
theorem BlkAt.lt {w : World} {g : Nat} {T : TypeId} {cs : Array Value} (h : BlkAt w g T cs) : g < w.heap.size := by
  unfold BlkAt at h
  exact (Array.getElem?_eq_some_iff.mp h).1
theorem BlkAt.cell {w : World} {g : Nat} {T : TypeId} {cs : Array Value} (h : BlkAt w g T cs) (j : Nat) (v : Value) (hv : cs[j]? = some v) : w.cell? ⟨g, j, none⟩ = some v := by
  unfold BlkAt at h
  simp [World.cell?, h, hv]
theorem BlkAt.frozen {w : World} {g : Nat} {T : TypeId} {cs : Array Value} (h : BlkAt w g T cs) (j : Nat) : w.frozen? ⟨g, j, none⟩ = false := by
  unfold BlkAt at h
  simp [World.frozen?, h]
theorem BlkAt.drew {w : World} {g : Nat} {T : TypeId} {cs : Array Value} (h : BlkAt w g T cs) : BlkAt w.drew g T cs := h
theorem BlkAt.drewN {w : World} {g : Nat} {T : TypeId} {cs : Array Value} (h : BlkAt w g T cs) (n : Nat) : BlkAt (w.drewN n) g T cs := by
  unfold BlkAt at *; rw [heap_drewN]; exact h
theorem BlkAt.alloc {w : World} {g : Nat} {T : TypeId} {cs : Array Value} (h : BlkAt w g T cs) (o : Obj) : BlkAt (w.alloc o) g T cs :=
  (Below.heap_alloc w o g h.lt).trans h
theorem BlkAt.new (w : World) (T : TypeId) (cs : Array Value) : BlkAt (w.alloc (.cells cs T (0, 0))) w.heap.size T cs := by
  unfold BlkAt World.alloc; simp
theorem BlkAt.set {w : World} {g : Nat} {T : TypeId} {cs : Array Value} (h : BlkAt w g T cs) (j : Nat) (u : Value) : BlkAt (w.setCell ⟨g, j, none⟩ u) g T (cs.setIfInBounds j u) := by
  unfold BlkAt at *
  simp only [World.setCell, Array.getElem?_modify, if_true, h, Option.map_some]
  rfl
theorem BlkAt.setOther {w : World} {g : Nat} {T : TypeId} {cs : Array Value} (h : BlkAt w g T cs) {a : Addr} (hne : g ≠ a.block) (u : Value) : BlkAt (w.setCell a u) g T cs :=
  (Below.heap_setCell w a u g hne).trans h
theorem BlkAt.bar {w w' : World} {g g' : Nat} {T : TypeId} {cs : Array Value} (h : BlkAt w g T cs) (hb : Bar g' w w') (hne : g ≠ g') : BlkAt w' g T cs :=
  (hb.block g h.lt hne).trans h
theorem BlkAt.below {w w' : World} {g B : Nat} {T : TypeId} {cs : Array Value} (h : BlkAt w g T cs) (hb : Below B w w') (hg : g < B) : BlkAt w' g T cs :=
  (hb.block g hg).trans h

theorem belowN {B : Nat} {a w : World} (h : Below B a w) (n : Nat) : Below B a (w.drewN n) := ⟨h.os, h.tape, h.output, h.size, h.block⟩
theorem quiet_same {P : Program} {f : FuncId} {args : Array Value} {w : World} {n : Nat} {v : Value}
    (h : Calls P f args (w.drewN n) fun e w' => e = .returned v ∧ w.drewN n = w') : Calls P f args (w.drewN n) fun e w'' => e = .returned v ∧ ∃ m, w'' = w.drewN m :=
  h.mono fun _ _ ⟨he, hm⟩ => ⟨he, n, hm.symm⟩

theorem snoc_ind {α : Type} {P : List α → Prop} (h0 : P []) (h1 : ∀ l a, P l → P (l ++ [a])) (l : List α) : P l := by
  have h : ∀ l : List α, P l.reverse := by
    intro l
    induction l with
    | nil => exact h0
    | cons a l ih => rw [List.reverse_cons]; exact h1 _ _ ih
  have := h l.reverse
  rwa [List.reverse_reverse] at this

/-- A string out of its bytes. -/
def str (l : List UInt8) : ByteArray := ⟨l.toArray⟩
theorem str_data (l : List UInt8) : (str l).data.toList = l := rfl
theorem str_toList (l : List UInt8) : (str l).toList = l := by rw [ByteArray.toList_eq]; rfl
theorem str_size (l : List UInt8) : (str l).size = l.length := by simp [str, ByteArray.size]
theorem str_of (s : ByteArray) : str s.data.toList = s := by cases s; rfl
theorem str_nil : str [] = ⟨#[]⟩ := rfl
theorem str_inj {a b : List UInt8} (h : str a = str b) : a = b := by rw [← str_data a, h, str_data]
theorem str_extract (l : List UInt8) (a b : Nat) : (str l).extract a b = str ((l.drop a).take (b - a)) := by
  rw [← str_of ((str l).extract a b), Lib.extract_data, str_data]
theorem str_append (a b : List UInt8) : str a ++ str b = str (a ++ b) := by
  rw [← str_of (str a ++ str b)]; simp [str]
theorem str_get (l : List UInt8) (i : Nat) (h : i < (str l).size) : (str l)[i]'h = l[i]'(by rw [← str_size]; exact h) := rfl
attribute [go_sem] str_toList str_append str_size str_get
theorem size_data (s : ByteArray) : s.data.toList.length = s.size := by rw [Array.length_toList]; rfl

theorem below_bytes {B : Nat} {w W : World} (h : Below B w W) (hB : B ≤ W.heap.size) (e : TypeId) (s : ByteArray) : Below B w (Lib.bytesWorld W e s) :=
  h.trans ⟨rfl, rfl, rfl, by rw [Lib.bytesWorld_size]; omega, fun i hi => Lib.bytesWorld_at_old W e s i (by omega)⟩

theorem ret_str {a b : ByteArray} (h : a = b) : Ending.returned (.string a) = .returned (.string b) := by rw [h]
theorem ret_int {k : IntKind} {a b : Int} (h : a = b) : Ending.returned (.int k a) = .returned (.int k b) := by rw [h]
theorem ret_bool {a b : Bool} (h : a = b) : Ending.returned (.bool a) = .returned (.bool b) := by rw [h]


theorem wf_i64 {n : Int} (h : (Lit.int .i64 n).wf = true) : -9223372036854775808 ≤ n ∧ n ≤ 9223372036854775807 := by
  simpa [Lit.wf, IntKind.min, IntKind.max, IntKind.bits, IntKind.signed] using h
theorem wf_u64 {n : Int} (h : (Lit.int .u64 n).wf = true) : 0 ≤ n ∧ n ≤ 18446744073709551615 := by
  simpa [Lit.wf, IntKind.min, IntKind.max, IntKind.bits, IntKind.signed] using h
theorem wf_u32 {n : Int} (h : (Lit.int .u32 n).wf = true) : 0 ≤ n ∧ n ≤ 4294967295 := by
  simpa [Lit.wf, IntKind.min, IntKind.max, IntKind.bits, IntKind.signed] using h
end Go.Proofs.Ytfjngecgfmlnfaa
