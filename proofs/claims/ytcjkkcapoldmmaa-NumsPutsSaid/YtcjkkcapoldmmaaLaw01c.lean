/- The walk of NumsPuts. -/
import Derived.Test.YtcjkkcapoldmmaaRef01
import Derived.Test.YtcjkkcapoldmmaaAwake01
namespace Go.Proofs.Ytcjkkcapoldmmaa
open Go.RowKit
theorem NumsPuts_walk (w : World) (n : Int) (wn : (Lit.int .u64 n).wf = true) (s : Int) (_ws : (Lit.int .i64 s).wf = true) :
    Calls Try.prog 3 #[.int .u64 n, .int .i64 s] w fun x w' => x = .returned (.bool true) ∧ Below w.heap.size w w' :=
  NumsPuts_walk0 w n s _ rfl (wf_u64 wn).1 (by have := (wf_u64 wn).2; omega) awake01
end Go.Proofs.Ytcjkkcapoldmmaa
