/- instr.Decode: the plain side. -/
import Derived.Test.YtdjhbahiiabimaaInsG
namespace Go.Proofs.Ytdjhbahiiabimaa
open Go.RowKit
set_option linter.unusedVariables false
set_option linter.unusedSimpArgs false

def kindD (d : ByteArray) : Nat := byteA d 0 * 256 + byteA d 1
/-- The entry that a part makes. -/
def entP (tb : Int) (p : Part) : Entry := ⟨tb, 0, .slice none 0 0, [], .slice none 0 0, p.pA, .slice none 0 0, p.pW, p.cl, p.me, p.ma, p.mt, p.gt⟩
theorem rightE_entP (tb pr : Int) (vT vA vW : Value) (fT : List Test) (p : Part) : rightE ⟨tb, pr, vT, fT, vA, p.pA, vW, p.pW, p.cl, p.me, p.ma, p.mt, p.gt⟩ = rightE (entP tb p) := rfl
/-- What an entry of a table does, as bytes say it; or what is wrong. -/
def decI (tb : Int) : Nat → ByteArray → Part → Int → Part × Int
  | 0, _, _, _ => (noPart, 0)
  | f + 1, d, p, b => if d.size = 0 then (if rightE (entP tb p) = 0 then (p, 0) else (noPart, rightE (entP tb p)))
    else if d.size < 4 then (noPart, 10) else if d.size < lenD d then (noPart, 10) else if lenD d < 8 then (noPart, 11)
    else if str (rawF (kindD d) (seemsP (kindD d) (chunkA d))) ≠ chunkA d then (noPart, 11)
    else if placeF (kindD d) ≤ b then (noPart, 23)
    else decI tb f (d.extract (lenD d) d.size) (joinP p (seemsP (kindD d) (chunkA d))) (placeF (kindD d))
theorem decAs_ok : ∀ (f : Nat) (d : ByteArray) (acc : List Action), (∀ a ∈ acc, okV a) → acc.length ≤ 32 → (∀ a ∈ (decAs f d acc).1, okV a) ∧ (decAs f d acc).1.length ≤ 32
  | 0, _, _, _, _ => ⟨by simp [decAs], by simp [decAs]⟩
  | f + 1, d, acc, h, hl => by
    unfold decAs
    split
    · exact ⟨h, hl⟩
    · split
      · exact ⟨by simp, by simp⟩
      · split
        · exact ⟨by simp, by simp⟩
        · split
          · exact ⟨by simp, by simp⟩
          · split
            · exact ⟨by simp, by simp⟩
            · split
              · exact ⟨by simp, by simp⟩
              · rename_i hne
                exact decAs_ok f _ _ (fun a ha => by
                  rcases List.mem_append.1 ha with ha | ha
                  · exact h a ha
                  · rw [List.mem_singleton.1 ha]; exact seemsA_v _) (by simp; omega)
theorem actsP_ok (s : ByteArray) : (∀ a ∈ (actsP s).1, okV a) ∧ (actsP s).1.length ≤ 32 := decAs_ok _ _ [] (by simp) (by simp)
theorem numR8 (r : RS) : 0 ≤ numR 8 r ∧ numR 8 r ≤ 18446744073709551615 := by have := numR_bd 8 r (by decide); simp at this; omega
theorem numR4 (r : RS) : 0 ≤ numR 4 r ∧ numR 4 r < 4294967296 := by have := numR_bd 4 r (by decide); simp at this; omega
theorem numR1 (r : RS) : 0 ≤ numR 1 r ∧ numR 1 r < 256 := by have := numR_bd 1 r (by decide); simp at this; omega
structure PartIn (n : Int) (p : Part) : Prop where
  mt : 0 ≤ p.mt ∧ p.mt < 4294967296
  gt : 0 ≤ p.gt ∧ p.gt < 256
  me : 0 ≤ p.me ∧ p.me ≤ 18446744073709551615
  ma : 0 ≤ p.ma ∧ p.ma ≤ 18446744073709551615
  okA : ∀ a ∈ p.pA, okV a
  okW : ∀ a ∈ p.pW, okV a
  lenA : (p.pA.length : Int) ≤ 32 * n
  lenW : (p.pW.length : Int) ≤ 32 * n
theorem noPart_in : PartIn 0 noPart := ⟨by decide, by decide, by decide, by decide, by simp [noPart], by simp [noPart], by simp [noPart], by simp [noPart]⟩
theorem noPart_in1 : PartIn 1 noPart := ⟨by decide, by decide, by decide, by decide, by simp [noPart], by simp [noPart], by simp [noPart], by simp [noPart]⟩
theorem seemsP_in (k : Int) (s : ByteArray) : PartIn 1 (seemsP k s) := by
  have ha := actsP_ok s
  have hn := noPart_in1
  unfold seemsP
  split
  · exact { hn with mt := numR4 _ }
  · split
    · exact { hn with }
    · split
      · split
        · exact { hn with okA := ha.1, lenA := by have := ha.2; simp only; omega }
        · exact hn
      · split
        · split
          · exact { hn with okW := ha.1, lenW := by have := ha.2; simp only; omega }
          · exact hn
        · split
          · exact { hn with me := numR8 _, ma := numR8 _ }
          · split
            · exact { hn with gt := numR1 _ }
            · exact hn
theorem or_u64_in (a b : Int) : 0 ≤ Go.bits .or .u64 a b ∧ Go.bits .or .u64 a b ≤ 18446744073709551615 := by
  have : ∀ v : Int, IntKind.u64.wrap v = v % 18446744073709551616 := fun v => by simp [IntKind.wrap, IntKind.bits, IntKind.signed]
  show 0 ≤ IntKind.u64.wrap _ ∧ IntKind.u64.wrap _ ≤ _
  rw [this]
  omega
theorem joinP_in {n m : Int} {p q : Part} (hp : PartIn n p) (hq : PartIn 1 q) (h : n + 1 ≤ m) : PartIn m (joinP p q) where
  mt := by have := hp.mt; have := hq.mt; simp only [joinP]; omega
  gt := by have := hp.gt; have := hq.gt; simp only [joinP]; omega
  me := or_u64_in _ _
  ma := or_u64_in _ _
  okA := fun a ha => (List.mem_append.1 ha).elim (hp.okA a) (hq.okA a)
  okW := fun a ha => (List.mem_append.1 ha).elim (hp.okW a) (hq.okW a)
  lenA := by have := hp.lenA; have := hq.lenA; simp only [joinP, List.length_append]; omega
  lenW := by have := hp.lenW; have := hq.lenW; simp only [joinP, List.length_append]; omega
theorem PartIn.ok {n : Int} {p : Part} (h : PartIn n p) (hn : n ≤ 7) : PartOk p :=
  ⟨h.mt, h.gt, h.me, h.ma, h.okA, h.okW, by have := h.lenA; omega, by have := h.lenW; omega⟩
theorem placeF_in (k : Int) : 0 ≤ placeF k ∧ placeF k ≤ 6 := by unfold placeF; repeat' split <;> try omega
def IDecPost (w : World) (tb : Int) (r : Part × Int) (x : Ending) (w' : World) : Prop :=
  ∃ vA vW, x = .returned (.tuple #[.agg (entC (if r.2 = 0 then tb else 0) 0 (.slice none 0 0) vA vW r.1.cl r.1.me r.1.ma r.1.mt r.1.gt), .int .i64 r.2]) ∧ OwnL w' w.heap.size 67 3 encAction vA r.1.pA ∧ OwnL w' w.heap.size 67 3 encAction vW r.1.pW ∧ Below w.heap.size w w'
end Go.Proofs.Ytdjhbahiiabimaa
