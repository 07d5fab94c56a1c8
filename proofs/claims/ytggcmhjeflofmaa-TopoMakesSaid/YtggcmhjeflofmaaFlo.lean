/- A float that came in. -/
import Derived.Test.YtggcmhjeflofmaaRead
namespace Go.Proofs.Ytggcmhjeflofmaa
open Go.RowKit Go.ChangeShapes Go.WideShapes Go.Deep
theorem trod_flo {H : Type} {enc : TypeId × Value → H} {P : Program} {w : World} {base : Nat} {spare : Nat → Bool} {held : Bool} {fuel : Nat} {t : TypeId} {cs : List Value} {x : DataW H × List MemPlace} {k : FloatKind}
    (ht : P.underlying t = some (.float k)) (h : DataW.trod enc P w base spare held fuel t cs = some x) : ∃ n : Nat, cs = [.float k n] ∧ (Lit.float k n).wf = true := by
  cases fuel with
  | zero => simp [DataW.trod] at h
  | succ n =>
    unfold DataW.trod at h
    rw [ht] at h
    split at h <;> simp_all
end Go.Proofs.Ytggcmhjeflofmaa
