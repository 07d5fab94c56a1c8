/- A region that draws its order, walked once, in whatever class of worlds. -/
import Derived.Test.YtfjngecgfmlnfaaRow
import Derived.Deep.QuietTactic
namespace Go.Proofs.Ytfjngecgfmlnfaa
open Go.RowKit
set_option linter.unusedVariables false

/-- A world of a class. -/
structure Keep (Cl : World → Prop) where
  w : World
  h : Cl w
section
variable {P : Program} {Cl : World → Prop}
theorem wp_region_keep {id : Nat} {Q : Exit → Act → World → Prop} {a : Act} {w : World} {l : List Oper} (hm : P.follows .mixedOrders = true) (hB : Region.lexB .any l.toArray = true) (h0 : Cl w.drew)
    (h : wpQuiet P l.toArray (fun w' => ∃ p : Keep Cl, w' = p.w) (fun a' => ∀ w', Cl w' → Q .normal a' w') l a) : (Code.region id l.toArray true).wp P Q a w :=
  wp_region_quiet (C := fun w' => ∃ p : Keep Cl, w' = p.w) hm hB ⟨⟨_, h0⟩, rfl⟩ (by
    have e : (fun a' => ∀ w', (∃ p : Keep Cl, w' = p.w) → Q .normal a' w') = (fun a' => ∀ w', Cl w' → Q .normal a' w') := by
      funext a'
      refine propext ⟨fun h w' hw => h w' ⟨⟨w', hw⟩, rfl⟩, fun h w' ⟨p, hp⟩ => hp ▸ h _ p.h⟩
    show wpQuiet P l.toArray _ _ l a
    rw [e]
    exact h)
/-- A whole struct read. -/
theorem wpQuiet_row {ops : Array Oper} {rest : List Oper} {o : Oper} {a : Act} {Q : Act → Prop} (hw : Region.wanted o (yielded ops a.tmps) = true) (ty : TypeId) (x : Operand) (ho : o.op = .load ty x)
    (g f : Nat) (hx : a.eval x = .pointer (some ⟨g, f, none⟩)) (v : Value) (hl : ∀ W, Cl W → (loadVar ty ⟨g, f, none⟩).run P W = .ok v W)
    (h : wpQuiet P ops (fun w' => ∃ p : Keep Cl, w' = p.w) Q rest (a.put o.dst v)) : wpQuiet P ops (fun w' => ∃ p : Keep Cl, w' = p.w) Q (o :: rest) a := by
  unfold wpQuiet
  rw [if_pos hw]
  refine ⟨v, fun w ⟨p, hp⟩ => ?_, h⟩
  subst hp
  unfold Oper.quietAt execOp
  simp only [ho, hx, Instr.loadAt, Instr.sureAddr, Sem.run_bind, Sem.run_pure, Result.andThen_ok, hl _ p.h, Oper.quietUpon]
  exact ⟨trivial, trivial⟩
/-- The same in a region that goes in the order of its text, behind a guard or not. -/
theorem wpList_row {ops : Array Oper} {rest : List Oper} {o : Oper} {a : Act} {w : World} {Q : Exit → Act → World → Prop} (ty : TypeId) (x : Operand) (ho : o.op = .load ty x) (hw : Region.wanted o (yielded ops a.tmps) = true)
    (g f : Nat) (hx : a.eval x = .pointer (some ⟨g, f, none⟩)) (v : Value) (hl : (loadVar ty ⟨g, f, none⟩).run P w = .ok v w) (h : wpList P ops Q rest (a.put o.dst v) w) : wpList P ops Q (o :: rest) a w := by
  unfold wpList
  rw [if_pos hw]
  left
  unfold Oper.wp execOp
  simp only [ho, hx, Instr.loadAt, Instr.sureAddr, Sem.run_bind, Sem.run_pure, Result.andThen_ok, hl]
  exact h
/-- A contract, met in the class. -/
theorem Calls.keep {f : FuncId} {args : Array Value} {v : Value} {p : Keep Cl} (h : Calls P f args p.w fun e w' => e = .returned v ∧ Below p.w.heap.size p.w w') (hc : ∀ w', Below p.w.heap.size p.w w' → Cl w') :
    Calls P f args p.w fun e w'' => e = .returned v ∧ ∃ q : Keep Cl, w'' = q.w :=
  h.mono fun _ _ ⟨he, hb⟩ => ⟨he, ⟨_, hc _ hb⟩, rfl⟩
end
/-- Blocks that stay, and all below B untouched. -/
def KR (B : Nat) (w : World) (l : List (Nat × TypeId × Array Value)) (W : World) : Prop := (∀ x ∈ l, BlkAt W x.1 x.2.1 x.2.2) ∧ Below B w W ∧ B ≤ W.heap.size
section
variable {B : Nat} {w W W' : World} {l : List (Nat × TypeId × Array Value)}
theorem KR.start (h : Below B w W) (hB : B ≤ W.heap.size) : KR B w [] W := ⟨fun _ hx => (List.not_mem_nil hx).elim, h, hB⟩
theorem KR.below (h : KR B w l W) : Below B w W := h.2.1
theorem KR.size (h : KR B w l W) : B ≤ W.heap.size := h.2.2
theorem KR.call (h : KR B w l W) (hb : Below W.heap.size W W') : KR B w l W' :=
  ⟨fun x hx => (h.1 x hx).below hb (h.1 x hx).lt, h.2.1.trans (hb.mono h.2.2), Nat.le_trans h.2.2 hb.size⟩
theorem KR.drew (h : KR B w l W) : KR B w l W.drew := ⟨fun x hx => h.1 x hx, h.2.1.drew, h.2.2⟩
theorem KR.add (h : KR B w l W) {g : Nat} {t : TypeId} {cs : Array Value} (hb : BlkAt W g t cs) : KR B w ((g, t, cs) :: l) W :=
  ⟨fun x hx => (List.mem_cons.1 hx).elim (fun e => e ▸ hb) (fun hx => h.1 x hx), h.2⟩
theorem KR.at (h : KR B w l W) (i : Nat) {g : Nat} {t : TypeId} {cs : Array Value} (hi : l[i]? = some (g, t, cs)) : BlkAt W g t cs := h.1 _ (List.mem_of_getElem? hi)
end
end Go.Proofs.Ytfjngecgfmlnfaa
