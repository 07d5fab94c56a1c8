/- The chapter's examples. -/
import Derived.Test.YthihncfmimkimaaFrameJ
namespace Go.Proofs.Ythihncfmimkimaa
open Go.RowKit
set_option linter.unusedVariables false

def pktHi : Pkt := ⟨0, 0, 0, 34997, 0, 0, 0, 0, 0, 0, ⟨#[104, 105]⟩⟩
theorem hi_bytes : bytesF pktHi = ([0, 0, 0, 0, 0, 0, 0, 0, 0, 0, 0, 0, 136, 181, 104, 105], 0) := by
  have h1 : rightP pktHi := by decide
  have h2 : ∀ a b, laidB pktHi a b = [0, 0, 0, 0, 0, 0, 0, 0, 0, 0, 0, 0, 136, 181, 104, 105] := by intro a b; rfl
  unfold bytesF
  rw [if_neg (by simpa using h1), if_neg (by decide), h2, if_neg (by decide)]
theorem none_parse : parseF [] (seemsP ⟨#[]⟩) = (pkt0, 11) := by
  have h1 : ¬ rightP (seemsP ⟨#[]⟩).1 := by
    intro h
    have := h.1.2.2.2.1
    have e : (seemsP ⟨#[]⟩).1.fType = 0 := by decide
    omega
  unfold parseF
  rw [if_neg (by decide), if_pos h1]
set_option maxRecDepth 100000 in
set_option maxHeartbeats 4000000 in
theorem awake03 (w : World) : Calls Try.prog 8 #[] w fun x w' => x = .returned (.bool true) ∧ Below w.heap.size w w' := by
  have H1 : Hid (∀ W : World, Calls Try.prog 9 #[.agg #[.int .u64 0, .int .u64 0, .int .i64 0, .int .i64 34997, .int .u32 0, .int .u32 0, .int .i64 0, .int .i64 0, .int .i64 0, .int .i64 0, .string ⟨#[104, 105]⟩]] W fun x w' =>
      x = .returned (.tuple #[.string ⟨#[0, 0, 0, 0, 0, 0, 0, 0, 0, 0, 0, 0, 136, 181, 104, 105]⟩, .int .i64 0]) ∧ Below W.heap.size W w') := Lib.hid (fun W => by
    have := Bytes_any' W pktHi (by unfold okU pktHi; decide) (by decide)
    rw [hi_bytes] at this
    exact this)
  have H2 : Hid (∀ W : World, Calls Try.prog 11 #[.string ⟨#[]⟩] W fun x w' =>
      x = .returned (.tuple #[.agg #[.int .u64 0, .int .u64 0, .int .i64 0, .int .i64 0, .int .u32 0, .int .u32 0, .int .i64 0, .int .i64 0, .int .i64 0, .int .i64 0, .string ⟨#[]⟩], .int .i64 11]) ∧ Below W.heap.size W w') := Lib.hid (fun W => by
    have := Parse_any W ⟨#[]⟩ (by decide)
    have e : (⟨#[]⟩ : ByteArray).data.toList = [] := rfl
    rw [e, none_parse] at this
    exact this)
  have HZ : Hid (∀ W : World, (convert 35 9 (.slice (some ⟨W.heap.size, 0, none⟩) 12 12)).run Try.prog (W.alloc (.cells (zerosA 12) 5)) = .ok (.string (str (List.replicate 12 0))) (W.alloc (.cells (zerosA 12) 5))) := Lib.hid (zeros_str 12)
  have HM : Hid (∀ W : World, (Instr.makeSlice 35 (.int .i64 12) (.int .i64 12)).run Try.prog W = .ok (.slice (some ⟨W.heap.size, 0, none⟩) 12 12) (W.alloc (.cells (zerosA 12) 5))) := Lib.hid (fun W => put_make W 12 (by decide))
  go_enter Try.func8, Try.ntmps8
  go_wp2_with fail
  refine (H1.out _).mono ?_
  rintro x w1 ⟨rfl, b1⟩
  have HB1 := Lib.hid b1
  clear b1
  go_wp2_with fail
  refine (H2.out _).mono ?_
  rintro x w2 ⟨rfl, b2⟩
  have HB2 := Lib.hid (HB1.out.trans (b2.mono HB1.out.size))
  clear b2 HB1
  go_upto_region 3 with fail
  refine one_box_wp ?_
  intro W hb hbel hsz
  have HB3 := Lib.hid (HB2.out.trans (hbel.mono HB2.out.size))
  clear hb hbel hsz HB2
  have hm := HM.out W
  have hz := HZ.out W
  have he : str (List.replicate 12 0) = ⟨#[0, 0, 0, 0, 0, 0, 0, 0, 0, 0, 0, 0]⟩ := rfl
  rw [he] at hz
  clear he
  have ha : (⟨#[0, 0, 0, 0, 0, 0, 0, 0, 0, 0, 0, 0]⟩ : ByteArray) ++ ⟨#[136, 181, 104, 105]⟩ = ⟨#[0, 0, 0, 0, 0, 0, 0, 0, 0, 0, 0, 0, 136, 181, 104, 105]⟩ := rfl
  go_wp2_with fail
  go_ret
  exact ⟨rfl, HB3.out.alloc HB3.out.size _⟩
end Go.Proofs.Ythihncfmimkimaa
