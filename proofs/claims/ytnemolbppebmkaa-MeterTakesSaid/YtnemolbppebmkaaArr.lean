/- Small arrays of whole numbers handed as an argument: opened into their numbers. -/
import Derived.OpenShut
import Derived.RowKit
import Derived.ChangeShapes
namespace Go.Proofs.Ytnemolbppebmkaa
open Go.RowKit Go.ChangeShapes
section
variable {H : Type} {enc : TypeId × Value → H} {P : Program} {w : World} {base base2 : Nat} {spare : Nat → Bool} {held : Bool} {t e : TypeId}

theorem open_array2 {k : IntKind} (ht : P.underlying t = some (.array 2 e)) (he : P.underlying e = some (.int k)) (hc : P.cellsOf e = 1) (hc2 : P.cellsOf t = 2)
    {r : Reach} {v : Value} {d : DataW H} {p : List MemPlace} (hv : Value.okWide P w r base2 t v) (h : DataW.Trod enc P w base spare held t v d p) :
    ∃ a b, v = .agg #[.int k a, .int k b] ∧ (Lit.int k a).wf = true ∧ (Lit.int k b).wf = true := by
  simp only [Value.okWide, ht] at hv
  obtain ⟨cs, rfl, _, _⟩ := hv
  obtain ⟨fuel, hf⟩ := h
  obtain ⟨xs, m, rfl, _, hsz, hx, hg⟩ := DataW.trod_array ht hf
  rw [hc] at hg
  match xs, hx with
  | [x0, x1], _ =>
    have h0 := hg 0 (by omega)
    have h1 := hg 1 (by omega)
    rw [hc2] at hsz
    match cs, hsz, h0, h1 with
    | ⟨[c0, c1]⟩, _, h0, h1 =>
      simp [Value.cells] at h0 h1
      obtain ⟨a, e0, _, wa⟩ := DataW.trod_int he h0
      obtain ⟨b, e1, _, wb⟩ := DataW.trod_int he h1
      cases e0; cases e1
      exact ⟨a, b, rfl, wa, wb⟩
end
end Go.Proofs.Ytnemolbppebmkaa
