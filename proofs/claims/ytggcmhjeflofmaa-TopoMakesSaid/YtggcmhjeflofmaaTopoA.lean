/- Places as keys; a topology in memory. -/
import Derived.Test.YtggcmhjeflofmaaMapW
import Derived.DeepKeys5
namespace Go.Proofs.Ytggcmhjeflofmaa
open Go.RowKit Go.Maps
set_option linter.unusedVariables false
set_option linter.unusedSimpArgs false

def keyI (n : Int) : Value := .int .i64 n
def wfI (n : Int) : Prop := (Lit.int .i64 n).wf = true
theorem keyE_int : KeyE Try.prog 3 keyI wfI :=
  ⟨int_keyed Try.underlying3, fun x h => ⟨_, keyOf_int_mk Try.underlying3 h⟩, fun x y h => by simpa [keyI] using h⟩
abbrev Place := Int × Int
def placeV (p : Place) : Value := .agg #[.int .i64 p.1, .int .i64 p.2]
def wfP (p : Place) : Prop := wfI p.1 ∧ wfI p.2
theorem laidOut14 : laidOutB Try.prog = true := by kernel_rfl
theorem placeKeyed : Keyed Try.prog 65 :=
  Keyed.of_law (deep_law_laid laidOut14 (m := 2) (by omega) (of_decide_eq_true (by kernel_rfl)) (by kernel_rfl) (by kernel_rfl))
set_option maxRecDepth 100000 in
theorem place_lit (p : Place) (h : wfP p) : ∃ l, keyOf Try.prog 65 (placeV p) = some l := by
  obtain ⟨a, b⟩ := p
  obtain ⟨ha, hb⟩ := h
  simp only [wfI] at ha hb
  have h1 : Try.prog.keyType 65 = true := by kernel_rfl
  have h2 : (placeV (a, b)).formed Try.prog 65 = true := by kernel_rfl
  have hs : Try.prog.cellsOf 3 = 1 := by kernel_rfl
  have hc : Try.prog.cellsOf 65 = 2 := by kernel_rfl
  have hI : ∀ d (x : Int), (Lit.int .i64 x).wf = true → Try.prog.keyLits (d + 1) 3 [.int .i64 x] = some [.int .i64 x] := by
    intro d x hx
    rw [Program.keyLits.eq_def]
    simp [Try.underlying3, hx]
  have key : ∀ d, Try.prog.keyLits (d + 2) 65 [.int .i64 a, .int .i64 b] = some [.int .i64 a, .int .i64 b] := by
    intro d
    rw [Program.keyLits.eq_def]
    simp [Try.underlying65, hc, hs, hI, ha, hb]
  have hpos : decide (0 < Try.prog.types.size) = true := by kernel_rfl
  have hpos' := of_decide_eq_true hpos
  obtain ⟨n, hn⟩ : ∃ n, Try.prog.types.size = n + 1 := ⟨Try.prog.types.size - 1, by omega⟩
  unfold keyOf
  simp only [Try.underlying65, h1, h2, Bool.and_self, if_true, hn]
  exact ⟨_, by simp only [placeV, Value.cells]; rw [key n]; rfl⟩
theorem keyE_place : KeyE Try.prog 65 placeV wfP :=
  ⟨placeKeyed, fun x h => place_lit x h, fun x y h => by
    obtain ⟨a, b⟩ := x; obtain ⟨c, d⟩ := y
    simpa [placeV] using h⟩
end Go.Proofs.Ytggcmhjeflofmaa
