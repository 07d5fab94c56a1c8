/- instr.Right. -/
import Derived.Test.YtdjhbahiiabimaaInsA
namespace Go.Proofs.Ytdjhbahiiabimaa
open Go.RowKit
set_option linter.unusedVariables false
set_option linter.unusedSimpArgs false

/-- What is known of an entry that is handed on. -/
structure EntOk (w : World) (x : Entry) : Prop where
  ap : ReadL w 3 encAction x.vApply x.fApply
  wr : ReadL w 3 encAction x.vWrite x.fWrite
  okA : ∀ a ∈ x.fApply, okV a
  okW : ∀ a ∈ x.fWrite, okV a
  lenA : x.fApply.length ≤ 100000
  lenW : x.fWrite.length ≤ 100000
  meta0 : 0 ≤ x.fMeta ∧ x.fMeta ≤ 18446744073709551615
  mask0 : 0 ≤ x.fMetaMask ∧ x.fMetaMask ≤ 18446744073709551615
theorem EntOk.below {w w' : World} {x : Entry} (h : EntOk w x) {B : Nat} (hb : Below B w w') (hB : w.heap.size ≤ B) : EntOk w' x :=
  { h with ap := h.ap.below hb hB, wr := h.wr.below hb hB }
def metaBad (me mk : Int) : Bool := Go.bits .andNot .u64 me mk != 0
def gotoBad (tb gt : Int) : Bool := (gt != 0) && (decide (gt ≤ tb) || decide (7 < gt))
/-- What is wrong with what an entry does. -/
def rightE (x : Entry) : Int :=
  if (decide (x.fTable < 0) || decide (7 < x.fTable)) = true then 26
  else if ((actEnc x.fApply).2 != 0) = true then (actEnc x.fApply).2
  else if ((actEnc x.fWrite).2 != 0) = true then (actEnc x.fWrite).2
  else if (decide (x.fMeter < 0) || decide (16 < x.fMeter)) = true then 25
  else if (metaBad x.fMeta x.fMetaMask || gotoBad x.fTable x.fGoto) = true then 23 else 0
abbrev entC (tb pr : Int) (vT vA vW : Value) (cl : Bool) (me mk mt gt : Int) : Array Value := #[.int .i64 tb, .int .i64 pr, vT, vA, vW, .bool cl, .int .u64 me, .int .u64 mk, .int .i64 mt, .int .i64 gt]
set_option maxRecDepth 100000 in
set_option maxHeartbeats 8000000 in
theorem Right_any (w : World) (x : Entry) (h : EntOk w x) : Calls Try.prog 9 #[valEntry x] w fun e w' => e = .returned (.int .i64 (rightE x)) ∧ Below w.heap.size w w' := by
  have HR : Hid (rightE x = _) := Lib.hid (by unfold rightE; rfl)
  have HEa : Hid (∀ W : World, Below w.heap.size w W → _) := Lib.hid (fun W hW => Encode_any W x.vApply x.fApply (h.ap.below hW (Nat.le_refl _)) h.okA (Nat.le_trans h.lenA (by decide)))
  have HEw : Hid (∀ W : World, Below w.heap.size w W → _) := Lib.hid (fun W hW => Encode_any W x.vWrite x.fWrite (h.wr.below hW (Nat.le_refl _)) h.okW (Nat.le_trans h.lenW (by decide)))
  obtain ⟨aa, ac, hva, _, _⟩ := h.ap.slice
  obtain ⟨wa, wc, hvw, _, _⟩ := h.wr.slice
  generalize rightE x = R at *
  obtain ⟨tb, pr, vT, fT, vA, fA, vW, fW, cl, me, mk, mt, gt⟩ := x
  simp only at *
  subst hva hvw
  generalize actEnc fA = EA at *
  generalize actEnc fW = EW at *
  obtain ⟨ea1, ea⟩ := EA
  obtain ⟨ew1, ew⟩ := EW
  simp only at *
  clear h
  by_cases ht : tb < 0 ∨ 7 < tb
  · have hr : Hid (R = 26) := Lib.hid (by rw [HR.out]; simp only [ht, Bool.or_eq_true, decide_eq_true_eq, if_true])
    clear HR
    by_cases ht0 : tb < 0
    · have t1 : decide (tb < 0) = true := decide_eq_true ht0
      clear ht
      go_enter Try.func9, Try.ntmps9
      go_upto_region 1 with fail
      refine one_box_wp ?_
      intro W hb1 hbel hsz
      have K : Hid (KR w.heap.size w [(w.heap.size, 26, entC tb pr vT (.slice aa fA.length ac) (.slice wa fW.length wc) cl me mk mt gt)] W) := Lib.hid ((KR.start hbel hbel.size).add hb1)
      clear hb1 hbel hsz
      have c0 := (K.out.at 0 rfl).cell 0 _ rfl
      go_wp2_with fail
      go_ret
      exact ⟨by rw [hr.out]; rfl, K.out.below⟩
    · have t1 : decide (tb < 0) = false := decide_eq_false ht0
      have t2 : decide (7 < tb) = true := decide_eq_true (ht.resolve_left ht0)
      clear ht
      go_enter Try.func9, Try.ntmps9
      go_upto_region 1 with fail
      refine one_box_wp ?_
      intro W hb1 hbel hsz
      have K : Hid (KR w.heap.size w [(w.heap.size, 26, entC tb pr vT (.slice aa fA.length ac) (.slice wa fW.length wc) cl me mk mt gt)] W) := Lib.hid ((KR.start hbel hbel.size).add hb1)
      clear hb1 hbel hsz
      have c0 := (K.out.at 0 rfl).cell 0 _ rfl
      go_wp2_with fail
      go_ret
      exact ⟨by rw [hr.out]; rfl, K.out.below⟩
  have t1 : decide (tb < 0) = false := decide_eq_false (by omega)
  have t2 : decide (7 < tb) = false := decide_eq_false (by omega)
  have HR2 : Hid (R = if (ea != 0) = true then ea else if (ew != 0) = true then ew else if (decide (mt < 0) || decide (16 < mt)) = true then 25 else if (metaBad me mk || gotoBad tb gt) = true then 23 else 0) := Lib.hid (by rw [HR.out, t1, t2]; rfl)
  clear HR ht
  go_enter Try.func9, Try.ntmps9
  go_upto_region 1 with fail
  refine one_box_wp ?_
  intro W hb1 hbel hsz
  have K : Hid (KR w.heap.size w [(w.heap.size, 26, entC tb pr vT (.slice aa fA.length ac) (.slice wa fW.length wc) cl me mk mt gt)] W) := Lib.hid ((KR.start hbel hbel.size).add hb1)
  clear hb1 hbel hsz
  have c0 := (K.out.at 0 rfl).cell 0 _ rfl
  have c3 := (K.out.at 0 rfl).cell 3 _ rfl
  have c4 := (K.out.at 0 rfl).cell 4 _ rfl
  go_wp2_with fail
  have K2 : Hid (KR w.heap.size w [(W.heap.size, 23, #[.slice aa fA.length ac, .slice wa fW.length wc]), (w.heap.size, 26, entC tb pr vT (.slice aa fA.length ac) (.slice wa fW.length wc) cl me mk mt gt)] (W.alloc (.cells #[.slice aa fA.length ac, .slice wa fW.length wc] 23))) := Lib.hid (K.out.box _ _)
  generalize W.alloc (.cells #[.slice aa fA.length ac, .slice wa fW.length wc] 23) = W1 at *
  generalize W.heap.size = g1 at *
  clear K c3 c4 c0
  have K := K2
  clear K2
  have c0 := (K.out.at 0 rfl).cell 0 _ rfl
  refine wp_loop_rounds 3 ?_
  rw [rounds_succ]
  go_wp2_with fail
  refine (HEa.out _ K.out.below).mono ?_
  rintro e w1 ⟨rfl, hb⟩
  replace K := Lib.hid (K.out.call hb)
  clear hb c0
  cases he1 : (ea != 0)
  case true =>
    have hr : Hid (R = ea) := Lib.hid (by rw [HR2.out, he1]; rfl)
    clear HR2
    go_wp2_with fail
    go_ret
    exact ⟨by rw [hr.out]; rfl, K.out.below⟩
  have HR3 : Hid (R = if (ew != 0) = true then ew else if (decide (mt < 0) || decide (16 < mt)) = true then 25 else if (metaBad me mk || gotoBad tb gt) = true then 23 else 0) := Lib.hid (by rw [HR2.out, he1]; rfl)
  clear HR2
  have c1 := (K.out.at 0 rfl).cell 1 _ rfl
  go_wp2_with fail
  rw [rounds_succ]
  go_wp2_with fail
  refine (HEw.out _ K.out.below).mono ?_
  rintro e w2 ⟨rfl, hb⟩
  replace K := Lib.hid (K.out.call hb)
  clear hb c1 he1
  cases he2 : (ew != 0)
  case true =>
    have hr : Hid (R = ew) := Lib.hid (by rw [HR3.out, he2]; rfl)
    clear HR3
    go_wp2_with fail
    go_ret
    exact ⟨by rw [hr.out]; rfl, K.out.below⟩
  have HR4 : Hid (R = if (decide (mt < 0) || decide (16 < mt)) = true then 25 else if (metaBad me mk || gotoBad tb gt) = true then 23 else 0) := Lib.hid (by rw [HR3.out, he2]; rfl)
  clear HR3
  go_wp2_with fail
  rw [rounds_succ]
  have c0 := (K.out.at 1 rfl).cell 0 _ rfl
  have c6 := (K.out.at 1 rfl).cell 6 _ rfl
  have c7 := (K.out.at 1 rfl).cell 7 _ rfl
  have c8 := (K.out.at 1 rfl).cell 8 _ rfl
  have c9 := (K.out.at 1 rfl).cell 9 _ rfl
  clear he2
  by_cases hm0 : mt < 0
  · have t3 : decide (mt < 0) = true := decide_eq_true hm0
    have hr : Hid (R = 25) := Lib.hid (by rw [HR4.out, t3]; rfl)
    clear HR4 hm0
    go_wp2_with fail
    go_ret
    exact ⟨by rw [hr.out]; rfl, K.out.below⟩
  have t3 : decide (mt < 0) = false := decide_eq_false hm0
  by_cases hm1 : 16 < mt
  · have t4 : decide (16 < mt) = true := decide_eq_true hm1
    have hr : Hid (R = 25) := Lib.hid (by rw [HR4.out, t3, t4]; rfl)
    clear HR4 hm0 hm1
    go_wp2_with fail
    go_ret
    exact ⟨by rw [hr.out]; rfl, K.out.below⟩
  have t4 : decide (16 < mt) = false := decide_eq_false hm1
  have HR5 : Hid (R = if (metaBad me mk || gotoBad tb gt) = true then 23 else 0) := Lib.hid (by rw [HR4.out, t3, t4]; rfl)
  clear HR4 hm0 hm1
  unfold metaBad gotoBad at HR5
  cases hmb : (Go.bits .andNot .u64 me mk != 0)
  case true =>
    have hr : Hid (R = 23) := Lib.hid (by rw [HR5.out, hmb]; rfl)
    clear HR5
    go_wp2_with fail
    go_ret
    exact ⟨by rw [hr.out]; rfl, K.out.below⟩
  cases hg0 : (gt != 0)
  case false =>
    have hr : Hid (R = 0) := Lib.hid (by rw [HR5.out, hmb, hg0]; rfl)
    clear HR5
    go_wp2_with fail
    go_ret
    exact ⟨by rw [hr.out]; rfl, K.out.below⟩
  cases hg1 : decide (gt ≤ tb)
  case true =>
    have hr : Hid (R = 23) := Lib.hid (by rw [HR5.out, hmb, hg0, hg1]; rfl)
    clear HR5
    go_wp2_with fail
    go_ret
    exact ⟨by rw [hr.out]; rfl, K.out.below⟩
  cases hg2 : decide (7 < gt)
  case true =>
    have hr : Hid (R = 23) := Lib.hid (by rw [HR5.out, hmb, hg0, hg1, hg2]; rfl)
    clear HR5
    go_wp2_with fail
    go_ret
    exact ⟨by rw [hr.out]; rfl, K.out.below⟩
  have hr : Hid (R = 0) := Lib.hid (by rw [HR5.out, hmb, hg0, hg1, hg2]; rfl)
  clear HR5
  go_wp2_with fail
  go_ret
  exact ⟨by rw [hr.out]; rfl, K.out.below⟩
end Go.Proofs.Ytdjhbahiiabimaa
