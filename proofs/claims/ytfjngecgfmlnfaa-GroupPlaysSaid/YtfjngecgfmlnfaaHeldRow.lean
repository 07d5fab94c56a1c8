/- Whole structs read and stored in a region whose order is open. -/
import Derived.Test.YtfjngecgfmlnfaaKRMore
import Derived.Deep.RegionHeld3
namespace Go.Proofs.Ytfjngecgfmlnfaa
open Go.RowKit
set_option linter.unusedVariables false
section
variable {P : Program}
theorem exec_row {o : Oper} {a : Act} {w : World} (ty : TypeId) (x : Operand) (ho : o.op = .load ty x) (g : Nat) (hx : a.eval x = .pointer (some ⟨g, 0, none⟩)) (v : Value) (hl : (loadVar ty ⟨g, 0, none⟩).run P w = .ok v w) :
    (execOp a.eval o).run P w = .ok (.value v) w := by
  unfold execOp
  simp only [ho, hx, Instr.loadAt, Instr.sureAddr, Sem.run_bind, Sem.run_pure, Result.andThen_ok, hl]
theorem wp_store_row {o : Oper} {a : Act} {w : World} {K : Act → World → Prop} {Q : Exit → Act → World → Prop} (ty : TypeId) (x y : Operand) (ho : o.op = .store ty x y)
    (g : Nat) (hx : a.eval x = .pointer (some ⟨g, 0, none⟩)) (cs' : Array Value) (hy : a.eval y = .agg cs') (t : TypeId) (cs : Array Value) (hg : BlkAt w g t cs) (hsz : cs'.size = cs.size)
    (hi : (P.info? ty).map (·.size) = some cs'.size) (h1 : ∀ v ∈ cs'.toList, v.oneCell' = true)
    (h : ∀ W, BlkAt W g t cs' → Bar g w W → K (a.put o.dst undef) W) : Oper.wp P o a w K Q := by
  unfold Oper.wp execOp
  simp only [ho, hx, hy, Instr.storeAt, Instr.sureAddr, Sem.run_bind, Sem.run_pure, Result.andThen_ok, run_storeVar_row w g t ty cs cs' hg hsz hi h1]
  exact h _ (hg.setRow cs') (Bar.setRow g cs')
end
end Go.Proofs.Ytfjngecgfmlnfaa
