/- The walks of frame's ported and right. -/
import Derived.Test.YthihncfmimkimaaFrameA
namespace Go.Proofs.Ythihncfmimkimaa
open Go.RowKit
set_option linter.unusedVariables false

def pktC (p : Pkt) : Array Value := #[.int .u64 p.fTo, .int .u64 p.fFrom, .int .i64 p.fVlan, .int .i64 p.fType, .int .u32 p.fSrc, .int .u32 p.fDst, .int .i64 p.fLife, .int .i64 p.fProto, .int .i64 p.fSport, .int .i64 p.fDport, .string p.fData]
theorem pktC_0 (p : Pkt) : (pktC p)[0]? = some (.int .u64 p.fTo) := rfl
theorem pktC_1 (p : Pkt) : (pktC p)[1]? = some (.int .u64 p.fFrom) := rfl
theorem pktC_2 (p : Pkt) : (pktC p)[2]? = some (.int .i64 p.fVlan) := rfl
theorem pktC_3 (p : Pkt) : (pktC p)[3]? = some (.int .i64 p.fType) := rfl
theorem pktC_4 (p : Pkt) : (pktC p)[4]? = some (.int .u32 p.fSrc) := rfl
theorem pktC_5 (p : Pkt) : (pktC p)[5]? = some (.int .u32 p.fDst) := rfl
theorem pktC_6 (p : Pkt) : (pktC p)[6]? = some (.int .i64 p.fLife) := rfl
theorem pktC_7 (p : Pkt) : (pktC p)[7]? = some (.int .i64 p.fProto) := rfl
theorem pktC_8 (p : Pkt) : (pktC p)[8]? = some (.int .i64 p.fSport) := rfl
theorem pktC_9 (p : Pkt) : (pktC p)[9]? = some (.int .i64 p.fDport) := rfl
theorem pktC_10 (p : Pkt) : (pktC p)[10]? = some (.string p.fData) := rfl
def portedF (p : Pkt) : Bool := p.fProto == 6 || p.fProto == 17
set_option maxHeartbeats 2000000 in
theorem ported_any (w : World) (p : Pkt) : Calls Try.prog 21 #[valPkt p] w fun x w' => x = .returned (.bool (portedF p)) ∧ Below w.heap.size w w' := by
  have HF : Hid (portedF p = (p.fProto == 6 || p.fProto == 17)) := Lib.hid rfl
  have hc : (∃ x : Unit, (p.fProto == 6) = true ∧ Hid (portedF p = true)) ∨ (∃ x : Unit, (p.fProto == 6) = false ∧ ∃ b : Bool, (p.fProto == 17) = b ∧ Hid (portedF p = b)) := by
    cases h : (p.fProto == 6)
    · exact .inr ⟨(), rfl, _, rfl, Lib.hid (by rw [HF.out, h]; rfl)⟩
    · exact .inl ⟨(), rfl, Lib.hid (by rw [HF.out, h]; rfl)⟩
  clear HF
  generalize portedF p = r at *
  obtain ⟨p0, p1, p2, p3, p4, p5, p6, p7, p8, p9, p10⟩ := p
  have HB := Lib.hid (Below.refl w.heap.size w)
  rcases hc with ⟨_, h6, HR⟩ | ⟨_, h6, b, h17, HR⟩
  all_goals
    go_enter Try.func21, Try.ntmps21
    go_wp2_with fail
    go_ret
    exact ⟨ret_bool HR.out.symm, HB.out.alloc (Nat.le_refl _) _⟩
end Go.Proofs.Ythihncfmimkimaa
