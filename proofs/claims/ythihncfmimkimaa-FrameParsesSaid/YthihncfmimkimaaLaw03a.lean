/- The walk of FrameBack. -/
import Derived.Test.YthihncfmimkimaaAwake03
import Derived.Test.YthihncfmimkimaaKRInto
import Derived.Laws.StructEq
namespace Go.Proofs.Ythihncfmimkimaa
open Go.RowKit
set_option linter.unusedVariables false
set_option linter.unusedSimpArgs false

set_option maxRecDepth 100000 in
theorem eq_pkt (p : Pkt) (W : World) : (binOp .eql 25 (.agg (pktC p)) (.agg (pktC p))).run Try.prog W = .ok (.bool true) W := by
  have h2 : Try.prog.stoodInHeld 25 = false := by kernel_rfl
  simp [pktC, go_sem, Try.underlying25, Try.underlying3, Try.underlying22, Try.underlying23, Try.underlying9, h2]
set_option maxRecDepth 100000 in
theorem neq_pkt (p : Pkt) (W : World) : (binOp .neq 25 (.agg (pktC p)) (.agg (pktC p))).run Try.prog W = .ok (.bool false) W := by
  have h2 : Try.prog.stoodInHeld 25 = false := by kernel_rfl
  simp [pktC, go_sem, Try.underlying25, Try.underlying3, Try.underlying22, Try.underlying23, Try.underlying9, h2]
theorem okU_of {w : World} {p : Pkt} (h : okPkt w p) : okU p := by
  obtain ⟨h1, h2, h3, h4, h5, h6, _⟩ := h
  have a1 := wf_u64 h1
  have a2 := wf_u64 h2
  have a5 := wf_u32 h5
  have a6 := wf_u32 h6
  exact ⟨a1.1, a2.1, a5.1, a5.2, a6.1, a6.2⟩
theorem okU_0 : okU pkt0 := by unfold okU pkt0; decide
theorem okU_parse (l : List UInt8) (r : Pkt × Int × Int) (h : okR r) : okU (parseF l r).1 := by
  unfold parseF
  split
  · exact okU_0
  · split
    · exact okU_0
    · split
      · exact okU_0
      · split
        · exact okU_0
        · exact h.1
theorem dat_parse (l : List UInt8) (s : ByteArray) (hl : s.size ≤ 3000) : (dat (parseF l (seemsP s)).1).length ≤ 3000 := by
  have h0 : (dat pkt0).length ≤ 3000 := by decide
  have h1 := dat_seems s
  unfold parseF
  split
  · exact h0
  · split
    · exact h0
    · split
      · exact h0
      · split
        · exact h0
        · simp only; omega
set_option maxRecDepth 100000 in
set_option maxHeartbeats 8000000 in
theorem FrameBack_walk (w : World) (p : Pkt) (hok : okPkt w p) (s : ByteArray) (hs : s.size ≤ 140737488351232) :
    Calls Try.prog 5 #[valPkt p, .string s] w fun x w' => x = .returned (.bool true) ∧ Below w.heap.size w w' := by
  have hu := okU_of hok
  clear hok
  have HA := Lib.hid awake03
  have hc : (∃ x : Unit, decide ((3000 : Int) < ((dat p).length : Int)) = true) ∨ (∃ x : Unit, decide ((3000 : Int) < ((dat p).length : Int)) = false ∧ decide ((3000 : Int) < (s.size : Int)) = true) ∨
      (∃ x : Unit, decide ((3000 : Int) < ((dat p).length : Int)) = false ∧ decide ((3000 : Int) < (s.size : Int)) = false ∧ Hid ((dat p).length ≤ 3000 ∧ s.size ≤ 3000)) := by
    by_cases h1 : 3000 < (dat p).length
    · exact .inl ⟨(), decide_eq_true (by omega)⟩
    · by_cases h2 : 3000 < s.size
      · exact .inr (.inl ⟨(), decide_eq_false (by omega), decide_eq_true (by omega)⟩)
      · exact .inr (.inr ⟨(), decide_eq_false (by omega), decide_eq_false (by omega), Lib.hid ⟨by omega, by omega⟩⟩)
  rcases hc with ⟨_, t1⟩ | ⟨_, t1, t2⟩ | ⟨_, t1, t2, HC⟩
  case' inl =>
    go_enter Try.func5, Try.ntmps5
    go_upto_region 1 with fail
    refine one_box_wp ?_
    intro W hb1 hbel hsz
    have K : Hid (KR w.heap.size w [(w.heap.size, 25, pktC p)] W) := Lib.hid ((KR.start hbel hbel.size).add hb1)
    clear hb1 hbel hsz
    have c10 := (K.out.at 0 rfl).cell 10 _ (pktC_10s p)
    go_wp2_with fail
    refine (HA.out _).mono ?_
    rintro x w1 ⟨rfl, b1⟩
    go_wp2_with fail
    go_ret
    exact ⟨rfl, (K.out.call b1).below⟩
  case' inr.inl =>
    go_enter Try.func5, Try.ntmps5
    go_upto_region 1 with fail
    refine one_box_wp ?_
    intro W hb1 hbel hsz
    have K : Hid (KR w.heap.size w [(w.heap.size, 25, pktC p)] W) := Lib.hid ((KR.start hbel hbel.size).add hb1)
    clear hb1 hbel hsz
    have c10 := (K.out.at 0 rfl).cell 10 _ (pktC_10s p)
    go_wp2_with fail
    refine (HA.out _).mono ?_
    rintro x w1 ⟨rfl, b1⟩
    go_wp2_with fail
    go_ret
    exact ⟨rfl, (K.out.call b1).below⟩
  obtain ⟨hd, hs3⟩ := HC.out
  have HB1 : Hid (∀ W : World, Calls Try.prog 9 #[.agg (pktC p)] W fun x w' => x = .returned (.tuple #[.string (str (bytesF p).1), .int .i64 (bytesF p).2]) ∧ Below W.heap.size W w') := Lib.hid (fun W => Bytes_any' W p hu (by omega))
  have HP1 := Lib.hid (fun W => Parse_any W (str (bytesF p).1) (by
    rw [str_size]
    by_cases h : (bytesF p).2 = 0
    · unfold bytesF at h ⊢
      split at h <;> rename_i c1
      · simp at h
      · rw [if_neg c1]
        split at h <;> rename_i c2
        · simp at h
        · rw [if_neg c2]
          split at h <;> rename_i c3
          · simp at h
          · rw [if_neg c3]; simp only; omega
    · rw [bytes_bad p h]; simp))
  rw [str_data] at HP1
  have HP2 := Lib.hid (fun W => Parse_any W s hs)
  have hpb := parse_bytes p hu hd
  have hbb := bytes_bad p
  have hbp := bytes_parse s.data.toList (seemsP s)
  have hpbad := parse_bad s.data.toList (seemsP s)
  have HB2 : Hid (∀ W : World, Calls Try.prog 9 #[.agg (pktC (parseF s.data.toList (seemsP s)).1)] W fun x w' => x = .returned (.tuple #[.string (str (bytesF (parseF s.data.toList (seemsP s)).1).1), .int .i64 (bytesF (parseF s.data.toList (seemsP s)).1).2]) ∧ Below W.heap.size W w') := Lib.hid (fun W => Bytes_any' W _ (okU_parse _ _ (okR_P s)) (by have := dat_parse s.data.toList s hs3; omega))
  have hstr := str_of s
  generalize parseF s.data.toList (seemsP s) = R2 at *
  generalize hR1 : parseF (bytesF p).1 (seemsP (str (bytesF p).1)) = R1 at *
  generalize bytesF p = B at *
  obtain ⟨bs, be⟩ := B
  obtain ⟨q, f⟩ := R2
  simp only at *
  have h1 : (∃ x : Unit, (be == 0) = true ∧ be = 0 ∧ R1 = (p, 0)) ∨ (∃ x : Unit, (be == 0) = false ∧ bs = []) := by
    by_cases h : be = 0
    · exact .inl ⟨(), by simpa using h, h, hpb h⟩
    · exact .inr ⟨(), by simpa using h, hbb h⟩
  have h2 : (∃ x : Unit, (f != 0) = true ∧ q = pkt0) ∨ (∃ x : Unit, (f != 0) = false ∧ bytesF q = (s.data.toList, 0)) := by
    by_cases h : f = 0
    · exact .inr ⟨(), by simpa using h, hbp h⟩
    · exact .inl ⟨(), by simpa using h, hpbad h⟩
  clear hpb hbb hbp hpbad hd hs3 HC hR1 hu
  have HE : Hid (∀ W : World, (binOp .eql 25 (.agg (pktC pkt0)) (.agg #[.int .u64 0, .int .u64 0, .int .i64 0, .int .i64 0, .int .u32 0, .int .u32 0, .int .i64 0, .int .i64 0, .int .i64 0, .int .i64 0, .string ⟨#[]⟩])).run Try.prog W = .ok (.bool true) W) := Lib.hid (eq_pkt pkt0)
  have HN := Lib.hid (neq_pkt p)
  have HS := Lib.hid hstr
  have oneP := one25 p
  have oneQ := one25 q
  clear hstr
  rcases h1 with ⟨_, t3, rfl, rfl⟩ | ⟨_, t3, rfl⟩
  case' inl =>
    go_enter Try.func5, Try.ntmps5
    go_upto_region 1 with fail
    refine one_box_wp ?_
    intro W hb1 hbel hsz
    have K : Hid (KR w.heap.size w [(w.heap.size, 25, pktC p)] W) := Lib.hid ((KR.start hbel hbel.size).add hb1)
    clear hb1 hbel hsz
    have c10 := (K.out.at 0 rfl).cell 10 _ (pktC_10s p)
    go_wp2_with (first
      | (refine wpList_row 25 _ rfl (by rfl) _ _ rfl _ (run_loadVar_row _ _ _ 25 _ (0, 0) _ (K.out.at 0 rfl) Try.underlying25 rfl (by kernel_rfl)) ?_)
      | fail)
    refine (HB1.out _).mono ?_
    rintro x w1 ⟨rfl, b1⟩
    replace K := Lib.hid (K.out.call b1)
    clear b1 HB1 c10
    go_wp2_with fail
    refine (HP1.out _).mono ?_
    rintro x w2 ⟨rfl, b2⟩
    replace K := Lib.hid (K.out.call b2)
    clear b2 HP1
    go_wp2_with (first
      | (refine wpList_store_row rfl 25 _ _ rfl _ rfl (pktC p) rfl _ _ ((K.out.box _ _).at 0 rfl) rfl (by kernel_rfl) oneP ?_)
      | fail)
    intro Wi hbi hbari
    replace K := Lib.hid (K.out.into hbari hbi)
    clear hbi hbari
    generalize w2.heap.size = g1 at *
    have hN := HN.out
    go_wp2_with (first
      | (refine wpList_row 25 _ rfl (by rfl) _ _ rfl _ (run_loadVar_row _ _ _ 25 _ (0, 0) _ (K.out.at 0 rfl) Try.underlying25 rfl (by kernel_rfl)) ?_)
      | (refine wpList_row 25 _ rfl (by rfl) _ _ rfl _ (run_loadVar_row _ _ _ 25 _ (0, 0) _ (K.out.at 1 rfl) Try.underlying25 rfl (by kernel_rfl)) ?_)
      | fail)
    clear hN
  case' inr =>
    have te : (([] : List UInt8) != []) = false := rfl
    go_enter Try.func5, Try.ntmps5
    go_upto_region 1 with fail
    refine one_box_wp ?_
    intro W hb1 hbel hsz
    have K : Hid (KR w.heap.size w [(w.heap.size, 25, pktC p)] W) := Lib.hid ((KR.start hbel hbel.size).add hb1)
    clear hb1 hbel hsz
    have c10 := (K.out.at 0 rfl).cell 10 _ (pktC_10s p)
    go_wp2_with (first
      | (refine wpList_row 25 _ rfl (by rfl) _ _ rfl _ (run_loadVar_row _ _ _ 25 _ (0, 0) _ (K.out.at 0 rfl) Try.underlying25 rfl (by kernel_rfl)) ?_)
      | fail)
    refine (HB1.out _).mono ?_
    rintro x w1 ⟨rfl, b1⟩
    replace K := Lib.hid (K.out.call b1)
    clear b1 HB1 c10
    go_wp2_with fail
  all_goals
    refine (HP2.out _).mono ?_
    rintro x w5 ⟨rfl, b5⟩
    replace K := Lib.hid (K.out.call b5)
    clear b5 HP2
    go_wp2_with (first
      | (refine wpList_store_row rfl 25 _ _ rfl _ rfl (pktC q) rfl _ _ ((K.out.box _ _).at 0 rfl) rfl (by kernel_rfl) oneQ ?_)
      | fail)
    intro Wi hbi hbari
    replace K := Lib.hid (K.out.into hbari hbi)
    clear hbi hbari
    generalize w5.heap.size = g2 at *
    rcases h2 with ⟨_, t6, rfl⟩ | ⟨_, t6, hBq⟩
    · have hE := HE.out
      go_wp2_with (first
        | (refine wpList_row 25 _ rfl (by rfl) _ _ rfl _ (run_loadVar_row _ _ _ 25 _ (0, 0) _ (K.out.at 0 rfl) Try.underlying25 rfl (by kernel_rfl)) ?_)
        | fail)
      refine (HA.out _).mono ?_
      rintro x w6 ⟨rfl, b6⟩
      replace K := Lib.hid (K.out.call b6)
      clear b6 HA
      go_wp2_with fail
      go_ret
      exact ⟨rfl, K.out.below⟩
    · rw [hBq] at HB2
      clear hBq
      simp only [HS.out] at HB2
      have ts : (s.toList == s.toList) = true := by simp
      go_wp2_with (first
        | (refine wpList_row 25 _ rfl (by rfl) _ _ rfl _ (run_loadVar_row _ _ _ 25 _ (0, 0) _ (K.out.at 0 rfl) Try.underlying25 rfl (by kernel_rfl)) ?_)
        | fail)
      refine (HB2.out _).mono ?_
      rintro x w6 ⟨rfl, b6⟩
      replace K := Lib.hid (K.out.call b6)
      clear b6 HB2
      go_wp2_with fail
      refine (HA.out _).mono ?_
      rintro x w7 ⟨rfl, b7⟩
      replace K := Lib.hid (K.out.call b7)
      clear b7 HA
      go_wp2_with fail
      go_ret
      exact ⟨rfl, K.out.below⟩
end Go.Proofs.Ythihncfmimkimaa
