/- A new variable that a whole struct is stored into. -/
import Derived.Test.YtfjngecgfmlnfaaKRMore
namespace Go.Proofs.Ytfjngecgfmlnfaa
open Go.RowKit
set_option linter.unusedVariables false
section
variable {B : Nat} {w W W' : World} {l : List (Nat × TypeId × Array Value)}
theorem KR.box (h : KR B w l W) (t : TypeId) (A : Array Value) : KR B w ((W.heap.size, t, A) :: l) (W.alloc (.cells A t)) :=
  h.new (BlkAt.new W t A) ((Below.refl _ _).alloc (Nat.le_refl _) _)
theorem KR.into (h : KR B w l W) {t : TypeId} {A cs : Array Value} (hbar : Bar W.heap.size (W.alloc (.cells A t)) W') (hb : BlkAt W' W.heap.size t cs) : KR B w ((W.heap.size, t, cs) :: l) W' :=
  (h.box t A).bar0 hbar hb h.2.2 (fun x hx => Nat.ne_of_lt (h.1 x hx).lt)
end
end Go.Proofs.Ytfjngecgfmlnfaa
