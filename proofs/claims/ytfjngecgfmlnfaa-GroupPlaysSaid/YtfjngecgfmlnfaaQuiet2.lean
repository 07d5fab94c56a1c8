/- The walk of a region that draws its order, operation by operation, with the region itself out of sight. -/
import Derived.Test.YtfjngecgfmlnfaaQuiet
namespace Go.Proofs.Ytfjngecgfmlnfaa
open Go.RowKit
set_option linter.unusedVariables false

/-- What a temporary says to a guard. -/
def yl : Option Value → Option Bool
  | some (.bool b) => some b
  | _ => none
theorem yl_bool (b : Bool) : yl (some (.bool b)) = some b := rfl
/-- The lexical walk, where what the guards ask is told by y. -/
def wpQ2 (P : Program) (y : Array Value → Nat → Option Bool) (C : World → Prop) (Q : Act → Prop) : List Oper → Act → Prop
  | [], a => Q a
  | o :: rest, a => if Region.wanted o (y a.tmps) then o.quiet P a C (wpQ2 P y C Q rest) else wpQ2 P y C Q rest (a.put o.dst undef)
section
variable {P : Program} {Cl : World → Prop} {y : Array Value → Nat → Option Bool}
theorem wpQ2_quiet {ops : Array Oper} {C : World → Prop} {Q : Act → Prop} : ∀ (l : List Oper) (a : Act), wpQ2 P (yielded ops) C Q l a → wpQuiet P ops C Q l a
  | [], _, h => h
  | o :: rest, a, h => by
    unfold wpQ2 at h
    unfold wpQuiet
    split
    · rename_i hw
      rw [if_pos hw] at h
      exact Oper.quiet_mono (wpQ2_quiet rest) h
    · rename_i hw
      rw [if_neg hw] at h
      exact wpQ2_quiet rest _ h
theorem wp_region_keep2 {id : Nat} {Q : Exit → Act → World → Prop} {a : Act} {w : World} {l : List Oper} (hm : P.follows .mixedOrders = true) (hB : Region.lexB .any l.toArray = true) (h0 : Cl w.drew)
    (h : ∀ y : Array Value → Nat → Option Bool, (∀ tmps j d, (l.toArray[j]?).bind (·.dst) = some d → y tmps j = yl (tmps[d]?)) → wpQ2 P y (fun w' => ∃ p : Keep Cl, w' = p.w) (fun a' => ∀ w', Cl w' → Q .normal a' w') l a) :
    (Code.region id l.toArray true).wp P Q a w :=
  wp_region_keep hm hB h0 (wpQ2_quiet l a (h (yielded l.toArray) (fun tmps j d hd => by
    unfold yielded
    rw [hd]
    show (match tmps[d]? with | some (.bool b) => some b | _ => none) = yl (tmps[d]?)
    unfold yl
    rfl)))
theorem wpQ2_nil {C : World → Prop} {Q : Act → Prop} {a : Act} (h : Q a) : wpQ2 P y C Q [] a := h
theorem wpQ2_step {C : World → Prop} {Q : Act → Prop} {a : Act} {dst : Option Tmp} {op : Op} {ty : TypeId} {pos : String} {after : Array Edge} {gd : Option (Nat × Bool)} {rest : List Oper}
    (h : ∀ K : Act → Prop, (∀ a, wpQ2 P y C Q rest a → K a) → if Region.wanted ⟨dst, op, ty, pos, #[], gd⟩ (y a.tmps) then Oper.quiet P ⟨dst, op, ty, pos, #[], gd⟩ a C K else K (a.put dst undef)) :
    wpQ2 P y C Q (⟨dst, op, ty, pos, after, gd⟩ :: rest) a :=
  h _ (fun _ h => h)
theorem wpQ2_plain {C : World → Prop} {Q : Act → Prop} {a : Act} {dst : Option Tmp} {op : Op} {ty : TypeId} {pos : String} {after : Array Edge} {rest : List Oper}
    (h : ∀ K : Act → Prop, (∀ a, wpQ2 P y C Q rest a → K a) → Oper.quiet P ⟨dst, op, ty, pos, #[], none⟩ a C K) :
    wpQ2 P y C Q (⟨dst, op, ty, pos, after, none⟩ :: rest) a := by
  have := h _ (fun _ h => h)
  exact this
theorem wpQ2_row {C : World → Prop} {Q : Act → Prop} {a : Act} {dst : Option Tmp} {ty ty2 : TypeId} {pos : String} {after : Array Edge} {x : Operand} {rest : List Oper}
    (g f : Nat) (hx : a.eval x = .pointer (some ⟨g, f, none⟩)) (v : Value) (hl : ∀ W, Cl W → (loadVar ty ⟨g, f, none⟩).run P W = .ok v W)
    (h : wpQ2 P y (fun w' => ∃ p : Keep Cl, w' = p.w) Q rest (a.put dst v)) : wpQ2 P y (fun w' => ∃ p : Keep Cl, w' = p.w) Q (⟨dst, .load ty x, ty2, pos, after, none⟩ :: rest) a := by
  show Oper.quiet _ _ _ _ _
  refine ⟨v, fun w ⟨p, hp⟩ => ?_, h⟩
  subst hp
  unfold Oper.quietAt execOp
  simp only [hx, Instr.loadAt, Instr.sureAddr, Sem.run_bind, Sem.run_pure, Result.andThen_ok, hl _ p.h, Oper.quietUpon]
  exact ⟨trivial, trivial⟩
end
end Go.Proofs.Ytfjngecgfmlnfaa
