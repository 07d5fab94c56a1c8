/- Blocks that stay, while one of them is written. -/
import Derived.Test.YtfjngecgfmlnfaaQTail
namespace Go.Proofs.Ytfjngecgfmlnfaa
open Go.RowKit
set_option linter.unusedVariables false
section
variable {B : Nat} {w W W' : World} {l : List (Nat × TypeId × Array Value)}
theorem KR.sub (h : KR B w l W) {l' : List (Nat × TypeId × Array Value)} (hs : ∀ x ∈ l', x ∈ l) : KR B w l' W := ⟨fun x hx => h.1 x (hs x hx), h.2⟩
theorem KR.bar0 {g : Nat} {t : TypeId} {cs cs' : Array Value} (h : KR B w ((g, t, cs) :: l) W) (hb : Bar g W W') (hw : BlkAt W' g t cs') (hg : B ≤ g) (hne : ∀ x ∈ l, x.1 ≠ g) : KR B w ((g, t, cs') :: l) W' :=
  ⟨fun x hx => (List.mem_cons.1 hx).elim (fun e => e ▸ hw) (fun hx => (h.1 x (List.mem_cons_of_mem _ hx)).bar hb (hne x hx)), hb.below h.2.1 hg h.2.2, Nat.le_trans h.2.2 hb.size⟩
theorem KR.set0 {g : Nat} {t : TypeId} {cs : Array Value} (h : KR B w ((g, t, cs) :: l) W) (j : Nat) (v : Value) (hg : B ≤ g) (hne : ∀ x ∈ l, x.1 ≠ g) : KR B w ((g, t, cs.setIfInBounds j v) :: l) (W.setCell ⟨g, j, none⟩ v) :=
  h.bar0 ((Bar.refl _ _).set j v) (BlkAt.set (h.1 _ (List.mem_cons_self ..)) j v) hg hne
theorem KR.lt (h : KR B w l W) (i : Nat) {x : Nat × TypeId × Array Value} (hi : l[i]? = some x) : x.1 < W.heap.size := (h.1 _ (List.mem_of_getElem? hi)).lt
/-- A new block beside the others. -/
theorem KR.new (h : KR B w l W) {g : Nat} {t : TypeId} {cs : Array Value} (hb : BlkAt W' g t cs) (hbel : Below W.heap.size W W') : KR B w ((g, t, cs) :: l) W' := (h.call hbel).add hb
end
/-- A whole struct read, behind a guard or not. -/
theorem wpQ2_rowk {P : Program} {Cl : World → Prop} {y : Array Value → Nat → Option Bool} {Q : Act → Prop} {a : Act} {dst : Option Tmp} {ty ty2 : TypeId} {pos : String} {after : Array Edge} {gd : Option (Nat × Bool)} {x : Operand} {rest : List Oper}
    (g f : Nat) (hx : a.eval x = .pointer (some ⟨g, f, none⟩)) (v : Value) (hl : ∀ W, Cl W → (loadVar ty ⟨g, f, none⟩).run P W = .ok v W)
    (hw : Region.wanted ⟨dst, .load ty x, ty2, pos, #[], gd⟩ (y a.tmps) = true)
    (h : wpQ2 P y (fun w' => ∃ p : Keep Cl, w' = p.w) Q rest (a.put dst v)) : wpQ2 P y (fun w' => ∃ p : Keep Cl, w' = p.w) Q (⟨dst, .load ty x, ty2, pos, after, gd⟩ :: rest) a := by
  have hw' : Region.wanted ⟨dst, .load ty x, ty2, pos, after, gd⟩ (y a.tmps) = true := hw
  unfold wpQ2
  rw [if_pos hw']
  refine ⟨v, fun w ⟨p, hp⟩ => ?_, h⟩
  subst hp
  unfold Oper.quietAt execOp
  simp only [hx, Instr.loadAt, Instr.sureAddr, Sem.run_bind, Sem.run_pure, Result.andThen_ok, hl _ p.h, Oper.quietUpon]
  exact ⟨trivial, trivial⟩
section
variable {P : Program}
theorem results_row_row {fn : Func} {p q : Tmp} {ty uy : TypeId} (h : fn.results = #[.cell p ty, .cell q uy]) (tmps : Array Value) (w : World) (g k : Nat) (t u : TypeId) (cs ds : Array Value) (d e : TypeDesc)
    (hp : tmps.getD p undef = .pointer (some ⟨g, 0, none⟩)) (hq : tmps.getD q undef = .pointer (some ⟨k, 0, none⟩)) (hg : BlkAt w g t cs) (hk : BlkAt w k u ds)
    (hu : P.underlying ty = some d) (hd : (match d with | .struct _ | .array _ _ => true | _ => false) = true) (hi : (P.info? ty).map (·.size) = some cs.size)
    (hv : P.underlying uy = some e) (he : (match e with | .struct _ | .array _ _ => true | _ => false) = true) (hj : (P.info? uy).map (·.size) = some ds.size) :
    (results fn tmps).run P w = .ok (.tuple #[.agg cs, .agg ds]) w := by
  have hp' : tmps[p]?.getD undef = .pointer (some ⟨g, 0, none⟩) := by simpa using hp
  have hq' : tmps[q]?.getD undef = .pointer (some ⟨k, 0, none⟩) := by simpa using hq
  simp only [results, h]
  simp [Sem.run_bind, hp', hq', asAddr, run_loadVar_row w g t ty cs (0, 0) d hg hu hd hi, run_loadVar_row w k u uy ds (0, 0) e hk hv he hj, Result.andThen]
end
end Go.Proofs.Ytfjngecgfmlnfaa
