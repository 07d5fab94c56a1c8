/- instr.seems (printed by gen/insd.py). -/
import Derived.Test.YtdjhbahiiabimaaInsC
namespace Go.Proofs.Ytdjhbahiiabimaa
open Go.RowKit
set_option linter.unusedVariables false
set_option linter.unusedSimpArgs false

theorem OwnL.down {α : Type} {w : World} {B C : Nat} {e : TypeId} {size : Nat} {enc : α → List Value} {v : Value} {xs : List α} (h : OwnL w B e size enc v xs) (hc : C ≤ B) : OwnL w C e size enc v xs := by
  refine ⟨h.1, ?_⟩
  rcases h.2 with ⟨h1, h2⟩ | ⟨g, cap, cur, h1, h2, h3, r⟩
  · exact .inl ⟨h1, h2⟩
  · exact .inr ⟨g, cap, cur, h1, Nat.le_trans hc h2, h3, r⟩
/-- What a part says. -/
structure Part where
  pA : List Action
  pW : List Action
  cl : Bool
  me : Int
  ma : Int
  mt : Int
  gt : Int
def noPart : Part := ⟨[], [], false, 0, 0, 0, 0⟩
/-- The rest behind a part's head and four bytes more. -/
def restP (s : ByteArray) : ByteArray := bytR (leftR (bytS 4 (bytS 4 (s, 0))).1 (bytS 4 (bytS 4 (s, 0))).2) (bytS 4 (bytS 4 (s, 0)))
def actsP (s : ByteArray) : List Action × Int := decAs ((restP s).size + 1) (restP s) []
def seemsP (k : Int) (s : ByteArray) : Part :=
  if k = 6 then { noPart with mt := numR 4 (bytS 4 (s, 0)) }
  else if k = 5 then { noPart with cl := true }
  else if k = 4 then (if (actsP s).2 = 0 then { noPart with pA := (actsP s).1 } else noPart)
  else if k = 3 then (if (actsP s).2 = 0 then { noPart with pW := (actsP s).1 } else noPart)
  else if k = 2 then { noPart with me := numR 8 (bytS 4 (bytS 4 (s, 0))), ma := numR 8 (numS 8 (bytS 4 (bytS 4 (s, 0)))) }
  else if k = 1 then { noPart with gt := numR 1 (bytS 4 (s, 0)) }
  else noPart
def SeemPost (w : World) (tb : Int) (p : Part) (x : Ending) (w' : World) : Prop :=
  ∃ vA vW, x = .returned (.agg (entC tb 0 (.slice none 0 0) vA vW p.cl p.me p.ma p.mt p.gt)) ∧ OwnL w' w.heap.size 67 3 encAction vA p.pA ∧ OwnL w' w.heap.size 67 3 encAction vW p.pW ∧ Below w.heap.size w w'
theorem numR_4i (r : RS) : IntKind.i64.wrap (numR 4 r) = numR 4 r := by
  have := numR_bd 4 r (by decide)
  simp at this
  exact IntWalk.i64_in _ (by omega)
theorem numR_1i (r : RS) : IntKind.i64.wrap (numR 1 r) = numR 1 r := by
  have := numR_bd 1 r (by decide)
  simp at this
  exact IntWalk.i64_in _ (by omega)
theorem restP_size (s : ByteArray) : (restP s).size ≤ s.size := by
  unfold restP bytR
  refine Nat.le_trans (takeR_size _ _ _ _) ?_
  unfold bytS
  exact Nat.le_trans (takeR_left _ _ _ _) (takeR_left _ _ _ _)
set_option maxRecDepth 100000 in
set_option maxHeartbeats 8000000 in
theorem iseems_any (w : World) (tb k : Int) (s : ByteArray) (hs : s.size ≤ 100000) :
    Calls Try.prog 26 #[.int .i64 tb, .int .i64 k, .string s] w (SeemPost w tb (seemsP k s)) := by
  have HZ := Lib.hid (fun (W : World) l (h : KR w.heap.size w l W) => RK.read h s (Nat.le_trans hs (by decide)))
  have HS : Hid (seemsP k s = seemsP k s) := Lib.hid rfl
  conv at HS => arg 1; rhs; unfold seemsP
  have HAc := Lib.hid (fun W => Decode_any W (restP s) (Nat.le_trans (restP_size s) (by omega)) ((restP s).size + 1) (Nat.lt_succ_self _) _ rfl)
  have HRs : Hid (restP s = _) := Lib.hid rfl
  conv at HRs => arg 1; rhs; unfold restP
  have HAp : Hid (actsP s = decAs ((restP s).size + 1) (restP s) []) := Lib.hid rfl
  rw [← HAp.out] at HAc
  generalize seemsP k s = P at *
  generalize actsP s = AP at *
  generalize restP s = RP at *
  clear HAp
  go_enter Try.func26, Try.ntmps26
  go_upto_region 1 with fail
  refine one_box_wp ?_
  intro W hb1 hbel hsz
  have K : Hid (KR w.heap.size w [(w.heap.size, 26, entC 0 0 (.slice none 0 0) (.slice none 0 0) (.slice none 0 0) false 0 0 0 0)] W) := Lib.hid ((KR.start hbel hbel.size).add hb1)
  clear hb1 hbel hsz
  go_wp2_with fail
  refine (HZ.out _ _ K.out).mono ?_
  rintro x w1 ⟨g, rfl, hg, r0⟩
  have R := Lib.hid r0
  clear r0 K HZ hg
  go_wp2_with fail
  refine (R.out.bytes 4).mono ?_
  rintro x wr ⟨rfl, r'⟩
  replace R := Lib.hid r'
  clear r'
  generalize hr1 : bytS 4 (s, 0) = r1 at *
  clear hr1
  go_wp2_with (first
    | (refine wpList_store_row rfl 26 _ _ rfl _ rfl (entC tb 0 (.slice none 0 0) (.slice none 0 0) (.slice none 0 0) false 0 0 0 0) rfl _ _ (BlkAt.new wr 26 _) rfl (by kernel_rfl) (by simp [Value.oneCell']) ?_)
    | fail)
  intro Wi hbi hbari
  have hgx : w.heap.size < wr.heap.size := R.out.lt 0 rfl
  replace R := Lib.hid (R.out.new hbi (hbari.below ((Below.refl wr.heap.size wr).alloc (Nat.le_refl _) _) (Nat.le_refl _) (by simp)))
  clear hbi hbari
  generalize wr.heap.size = gx at *
  by_cases h6 : k = 6
  · subst h6
    have HRn : Hid (P = { noPart with mt := numR 4 r1 }) := Lib.hid (by rw [HS.out]; rfl)
    clear HS HAc HRs
    go_wp2_with fail
    refine (R.out.num 4).mono ?_
    rintro x wr ⟨rfl, r'⟩
    replace R := Lib.hid r'
    clear r'
    have q1 := numR_4i r1
    have fz8 := (R.out.at 0 rfl).frozen 8
    have cz8 := (R.out.at 0 rfl).cell 8 _ rfl
    go_upto_region 22 with fail
    clear fz8 cz8
    replace R := Lib.hid (R.out.set 8 (.int .i64 (numR 4 r1)) (by omega) (by simp; omega))
    generalize (World.setCell wr ⟨gx, 8, none⟩ (.int .i64 (numR 4 r1))) = Wk at *
    go_wp2_with (first
      | (refine wpList_load_row rfl 26 _ rfl _ rfl _ _ _ _ (R.out.at 0 rfl) Try.underlying26 rfl (by kernel_rfl) ?_)
      | (refine wpList_store_row rfl 26 _ _ rfl _ rfl (entC tb 0 (.slice none 0 0) (.slice none 0 0) (.slice none 0 0) false 0 0 (numR 4 r1) 0) rfl _ _ (R.out.at 1 rfl) rfl (by kernel_rfl) (by simp [Value.oneCell']) ?_)
      | fail)
    intro Wj hbj hbarj
    have HBj := Lib.hid (hbarj.below R.out.below (Nat.le_refl _) R.out.below.size)
    clear hbarj R
    go_wp2_with fail
    refine bodyPost_ret (v := .agg (entC tb 0 (.slice none 0 0) (.slice none 0 0) (.slice none 0 0) false 0 0 (numR 4 r1) 0)) (results_cell_row rfl _ _ w.heap.size _ _ _ _ rfl hbj Try.underlying26 rfl (by kernel_rfl)) rfl ?_
    rw [HRn.out]
    exact ⟨_, _, rfl, OwnL.nil _ _ _ _ _, OwnL.nil _ _ _ _ _, HBj.out⟩
  have t6 : (k == 6) = false := by simpa using h6
  by_cases h5 : k = 5
  · subst h5
    have HRn : Hid (P = { noPart with cl := true }) := Lib.hid (by rw [HS.out]; rfl)
    clear HS HAc HRs
    have fz5 := (R.out.at 0 rfl).frozen 5
    have cz5 := (R.out.at 0 rfl).cell 5 _ rfl
    go_upto_region 22 with fail
    clear fz5 cz5
    replace R := Lib.hid (R.out.set 5 (.bool true) (by omega) (by simp; omega))
    generalize (World.setCell Wi ⟨gx, 5, none⟩ (.bool true)) = Wk at *
    go_wp2_with (first
      | (refine wpList_load_row rfl 26 _ rfl _ rfl _ _ _ _ (R.out.at 0 rfl) Try.underlying26 rfl (by kernel_rfl) ?_)
      | (refine wpList_store_row rfl 26 _ _ rfl _ rfl (entC tb 0 (.slice none 0 0) (.slice none 0 0) (.slice none 0 0) true 0 0 0 0) rfl _ _ (R.out.at 1 rfl) rfl (by kernel_rfl) (by simp [Value.oneCell']) ?_)
      | fail)
    intro Wj hbj hbarj
    have HBj := Lib.hid (hbarj.below R.out.below (Nat.le_refl _) R.out.below.size)
    clear hbarj R
    go_wp2_with fail
    refine bodyPost_ret (v := .agg (entC tb 0 (.slice none 0 0) (.slice none 0 0) (.slice none 0 0) true 0 0 0 0)) (results_cell_row rfl _ _ w.heap.size _ _ _ _ rfl hbj Try.underlying26 rfl (by kernel_rfl)) rfl ?_
    rw [HRn.out]
    exact ⟨_, _, rfl, OwnL.nil _ _ _ _ _, OwnL.nil _ _ _ _ _, HBj.out⟩
  have t5 : (k == 5) = false := by simpa using h5
  by_cases h4 : k = 4
  · subst h4
    have HRn0 : Hid (P = if AP.2 = 0 then { noPart with pA := AP.1 } else noPart) := Lib.hid (by rw [HS.out]; rfl)
    clear HS
    go_wp2_with fail
    refine (R.out.bytes 4).mono ?_
    rintro x wr ⟨rfl, r'⟩
    replace R := Lib.hid r'
    clear r'
    generalize hr2 : bytS 4 r1 = r2 at *
    clear hr2
    go_wp2_with fail
    refine (R.out.left).mono ?_
    rintro x w2 ⟨rfl, hw⟩
    subst hw
    generalize leftR r2.1 r2.2 = m at *
    go_wp2_with fail
    refine (R.out.bytes m).mono ?_
    rintro x wr ⟨rfl, r'⟩
    replace R := Lib.hid r'
    clear r'
    rw [← HRs.out]
    go_wp2_with fail
    refine (HAc.out _).mono ?_
    rintro x w3 ⟨v3, rfl, ho3, hb3⟩
    have HOw := Lib.hid (ho3.down R.out.below.size)
    have HOl : Hid (∀ q, v3.ownBlock = some q → gx < q) := Lib.hid (fun q hq => Nat.lt_of_lt_of_le (R.out.lt 0 rfl) (ho3.block q hq).1)
    replace R := Lib.hid (R.out.call hb3)
    clear hb3 ho3 HAc HRs
    obtain ⟨oa, oc, hov, _, _⟩ := HOw.out.slice
    subst hov
    obtain ⟨al, ae⟩ := AP
    simp only at *
    cases he : (ae == 0)
    · have HRn : Hid (P = noPart) := Lib.hid (by rw [HRn0.out, if_neg (by simpa using he)])
      clear HRn0
      go_upto_region 22 with fail
      clear HOw HOl
      go_wp2_with (first
        | (refine wpList_load_row rfl 26 _ rfl _ rfl _ _ _ _ (R.out.at 0 rfl) Try.underlying26 rfl (by kernel_rfl) ?_)
        | (refine wpList_store_row rfl 26 _ _ rfl _ rfl (entC tb 0 (.slice none 0 0) (.slice none 0 0) (.slice none 0 0) false 0 0 0 0) rfl _ _ (R.out.at 1 rfl) rfl (by kernel_rfl) (by simp [Value.oneCell']) ?_)
        | fail)
      intro Wj hbj hbarj
      have HBj := Lib.hid (hbarj.below R.out.below (Nat.le_refl _) R.out.below.size)
      clear hbarj R
      go_wp2_with fail
      refine bodyPost_ret (v := .agg (entC tb 0 (.slice none 0 0) (.slice none 0 0) (.slice none 0 0) false 0 0 0 0)) (results_cell_row rfl _ _ w.heap.size _ _ _ _ rfl hbj Try.underlying26 rfl (by kernel_rfl)) rfl ?_
      rw [HRn.out]
      exact ⟨_, _, rfl, OwnL.nil _ _ _ _ _, OwnL.nil _ _ _ _ _, HBj.out⟩
    · have HRn : Hid (P = { noPart with pA := al }) := Lib.hid (by rw [HRn0.out, if_pos (by simpa using he)])
      clear HRn0
      have fz3 := (R.out.at 0 rfl).frozen 3
      have cz3 := (R.out.at 0 rfl).cell 3 _ rfl
      go_upto_region 22 with fail
      clear fz3 cz3
      replace HOw := Lib.hid (HOw.out.bar ((Bar.refl gx _).set 3 (.slice oa al.length oc)) (fun q hq => by have := HOl.out q hq; omega))
      replace R := Lib.hid (R.out.set 3 (.slice oa al.length oc) (by omega) (by simp; omega))
      generalize (World.setCell w3 ⟨gx, 3, none⟩ (.slice oa al.length oc)) = Wk at *
      go_wp2_with (first
        | (refine wpList_load_row rfl 26 _ rfl _ rfl _ _ _ _ (R.out.at 0 rfl) Try.underlying26 rfl (by kernel_rfl) ?_)
        | (refine wpList_store_row rfl 26 _ _ rfl _ rfl (entC tb 0 (.slice none 0 0) (.slice oa al.length oc) (.slice none 0 0) false 0 0 0 0) rfl _ _ (R.out.at 1 rfl) rfl (by kernel_rfl) (by simp [Value.oneCell']) ?_)
        | fail)
      intro Wj hbj hbarj
      have HBj := Lib.hid (hbarj.below R.out.below (Nat.le_refl _) R.out.below.size)
      have HOj := Lib.hid (HOw.out.bar hbarj (fun q hq => by have := HOl.out q hq; omega))
      clear HOw HOl
      clear hbarj R
      go_wp2_with fail
      refine bodyPost_ret (v := .agg (entC tb 0 (.slice none 0 0) (.slice oa al.length oc) (.slice none 0 0) false 0 0 0 0)) (results_cell_row rfl _ _ w.heap.size _ _ _ _ rfl hbj Try.underlying26 rfl (by kernel_rfl)) rfl ?_
      rw [HRn.out]
      exact ⟨_, _, rfl, HOj.out, OwnL.nil _ _ _ _ _, HBj.out⟩
  have t4 : (k == 4) = false := by simpa using h4
  by_cases h3 : k = 3
  · subst h3
    have HRn0 : Hid (P = if AP.2 = 0 then { noPart with pW := AP.1 } else noPart) := Lib.hid (by rw [HS.out]; rfl)
    clear HS
    go_wp2_with fail
    refine (R.out.bytes 4).mono ?_
    rintro x wr ⟨rfl, r'⟩
    replace R := Lib.hid r'
    clear r'
    generalize hr2 : bytS 4 r1 = r2 at *
    clear hr2
    go_wp2_with fail
    refine (R.out.left).mono ?_
    rintro x w2 ⟨rfl, hw⟩
    subst hw
    generalize leftR r2.1 r2.2 = m at *
    go_wp2_with fail
    refine (R.out.bytes m).mono ?_
    rintro x wr ⟨rfl, r'⟩
    replace R := Lib.hid r'
    clear r'
    rw [← HRs.out]
    go_wp2_with fail
    refine (HAc.out _).mono ?_
    rintro x w3 ⟨v3, rfl, ho3, hb3⟩
    have HOw := Lib.hid (ho3.down R.out.below.size)
    have HOl : Hid (∀ q, v3.ownBlock = some q → gx < q) := Lib.hid (fun q hq => Nat.lt_of_lt_of_le (R.out.lt 0 rfl) (ho3.block q hq).1)
    replace R := Lib.hid (R.out.call hb3)
    clear hb3 ho3 HAc HRs
    obtain ⟨oa, oc, hov, _, _⟩ := HOw.out.slice
    subst hov
    obtain ⟨al, ae⟩ := AP
    simp only at *
    cases he : (ae == 0)
    · have HRn : Hid (P = noPart) := Lib.hid (by rw [HRn0.out, if_neg (by simpa using he)])
      clear HRn0
      go_upto_region 22 with fail
      clear HOw HOl
      go_wp2_with (first
        | (refine wpList_load_row rfl 26 _ rfl _ rfl _ _ _ _ (R.out.at 0 rfl) Try.underlying26 rfl (by kernel_rfl) ?_)
        | (refine wpList_store_row rfl 26 _ _ rfl _ rfl (entC tb 0 (.slice none 0 0) (.slice none 0 0) (.slice none 0 0) false 0 0 0 0) rfl _ _ (R.out.at 1 rfl) rfl (by kernel_rfl) (by simp [Value.oneCell']) ?_)
        | fail)
      intro Wj hbj hbarj
      have HBj := Lib.hid (hbarj.below R.out.below (Nat.le_refl _) R.out.below.size)
      clear hbarj R
      go_wp2_with fail
      refine bodyPost_ret (v := .agg (entC tb 0 (.slice none 0 0) (.slice none 0 0) (.slice none 0 0) false 0 0 0 0)) (results_cell_row rfl _ _ w.heap.size _ _ _ _ rfl hbj Try.underlying26 rfl (by kernel_rfl)) rfl ?_
      rw [HRn.out]
      exact ⟨_, _, rfl, OwnL.nil _ _ _ _ _, OwnL.nil _ _ _ _ _, HBj.out⟩
    · have HRn : Hid (P = { noPart with pW := al }) := Lib.hid (by rw [HRn0.out, if_pos (by simpa using he)])
      clear HRn0
      have fz4 := (R.out.at 0 rfl).frozen 4
      have cz4 := (R.out.at 0 rfl).cell 4 _ rfl
      go_upto_region 22 with fail
      clear fz4 cz4
      replace HOw := Lib.hid (HOw.out.bar ((Bar.refl gx _).set 4 (.slice oa al.length oc)) (fun q hq => by have := HOl.out q hq; omega))
      replace R := Lib.hid (R.out.set 4 (.slice oa al.length oc) (by omega) (by simp; omega))
      generalize (World.setCell w3 ⟨gx, 4, none⟩ (.slice oa al.length oc)) = Wk at *
      go_wp2_with (first
        | (refine wpList_load_row rfl 26 _ rfl _ rfl _ _ _ _ (R.out.at 0 rfl) Try.underlying26 rfl (by kernel_rfl) ?_)
        | (refine wpList_store_row rfl 26 _ _ rfl _ rfl (entC tb 0 (.slice none 0 0) (.slice none 0 0) (.slice oa al.length oc) false 0 0 0 0) rfl _ _ (R.out.at 1 rfl) rfl (by kernel_rfl) (by simp [Value.oneCell']) ?_)
        | fail)
      intro Wj hbj hbarj
      have HBj := Lib.hid (hbarj.below R.out.below (Nat.le_refl _) R.out.below.size)
      have HOj := Lib.hid (HOw.out.bar hbarj (fun q hq => by have := HOl.out q hq; omega))
      clear HOw HOl
      clear hbarj R
      go_wp2_with fail
      refine bodyPost_ret (v := .agg (entC tb 0 (.slice none 0 0) (.slice none 0 0) (.slice oa al.length oc) false 0 0 0 0)) (results_cell_row rfl _ _ w.heap.size _ _ _ _ rfl hbj Try.underlying26 rfl (by kernel_rfl)) rfl ?_
      rw [HRn.out]
      exact ⟨_, _, rfl, OwnL.nil _ _ _ _ _, HOj.out, HBj.out⟩
  have t3 : (k == 3) = false := by simpa using h3
  by_cases h2 : k = 2
  · subst h2
    have HRn : Hid (P = { noPart with me := numR 8 (bytS 4 r1), ma := numR 8 (numS 8 (bytS 4 r1)) }) := Lib.hid (by rw [HS.out]; rfl)
    clear HS HAc HRs
    go_wp2_with fail
    refine (R.out.bytes 4).mono ?_
    rintro x wr ⟨rfl, r'⟩
    replace R := Lib.hid r'
    clear r'
    generalize bytS 4 r1 = r2 at *
    go_wp2_with fail
    refine (R.out.num 8).mono ?_
    rintro x wr ⟨rfl, r'⟩
    replace R := Lib.hid r'
    clear r'
    go_wp2_with fail
    refine (R.out.num 8).mono ?_
    rintro x wr ⟨rfl, r'⟩
    replace R := Lib.hid r'
    clear r'
    have fz6 := (R.out.at 0 rfl).frozen 6
    have cz6 := (R.out.at 0 rfl).cell 6 _ rfl
    have fz7 := (R.out.at 0 rfl).frozen 7
    have cz7 := (R.out.at 0 rfl).cell 7 _ rfl
    go_upto_region 22 with fail
    clear fz6 cz6 fz7 cz7
    replace R := Lib.hid (R.out.set 6 (.int .u64 (numR 8 r2)) (by omega) (by simp; omega))
    replace R := Lib.hid (R.out.set 7 (.int .u64 (numR 8 (numS 8 r2))) (by omega) (by simp; omega))
    generalize (World.setCell (World.setCell wr ⟨gx, 6, none⟩ (.int .u64 (numR 8 r2))) ⟨gx, 7, none⟩ (.int .u64 (numR 8 (numS 8 r2)))) = Wk at *
    go_wp2_with (first
      | (refine wpList_load_row rfl 26 _ rfl _ rfl _ _ _ _ (R.out.at 0 rfl) Try.underlying26 rfl (by kernel_rfl) ?_)
      | (refine wpList_store_row rfl 26 _ _ rfl _ rfl (entC tb 0 (.slice none 0 0) (.slice none 0 0) (.slice none 0 0) false (numR 8 r2) (numR 8 (numS 8 r2)) 0 0) rfl _ _ (R.out.at 1 rfl) rfl (by kernel_rfl) (by simp [Value.oneCell']) ?_)
      | fail)
    intro Wj hbj hbarj
    have HBj := Lib.hid (hbarj.below R.out.below (Nat.le_refl _) R.out.below.size)
    clear hbarj R
    go_wp2_with fail
    refine bodyPost_ret (v := .agg (entC tb 0 (.slice none 0 0) (.slice none 0 0) (.slice none 0 0) false (numR 8 r2) (numR 8 (numS 8 r2)) 0 0)) (results_cell_row rfl _ _ w.heap.size _ _ _ _ rfl hbj Try.underlying26 rfl (by kernel_rfl)) rfl ?_
    rw [HRn.out]
    exact ⟨_, _, rfl, OwnL.nil _ _ _ _ _, OwnL.nil _ _ _ _ _, HBj.out⟩
  have t2 : (k == 2) = false := by simpa using h2
  by_cases h1 : k = 1
  · subst h1
    have HRn : Hid (P = { noPart with gt := numR 1 r1 }) := Lib.hid (by rw [HS.out]; rfl)
    clear HS HAc HRs
    go_wp2_with fail
    refine (R.out.num 1).mono ?_
    rintro x wr ⟨rfl, r'⟩
    replace R := Lib.hid r'
    clear r'
    have q1 := numR_1i r1
    have fz9 := (R.out.at 0 rfl).frozen 9
    have cz9 := (R.out.at 0 rfl).cell 9 _ rfl
    go_upto_region 22 with fail
    clear fz9 cz9
    replace R := Lib.hid (R.out.set 9 (.int .i64 (numR 1 r1)) (by omega) (by simp; omega))
    generalize (World.setCell wr ⟨gx, 9, none⟩ (.int .i64 (numR 1 r1))) = Wk at *
    go_wp2_with (first
      | (refine wpList_load_row rfl 26 _ rfl _ rfl _ _ _ _ (R.out.at 0 rfl) Try.underlying26 rfl (by kernel_rfl) ?_)
      | (refine wpList_store_row rfl 26 _ _ rfl _ rfl (entC tb 0 (.slice none 0 0) (.slice none 0 0) (.slice none 0 0) false 0 0 0 (numR 1 r1)) rfl _ _ (R.out.at 1 rfl) rfl (by kernel_rfl) (by simp [Value.oneCell']) ?_)
      | fail)
    intro Wj hbj hbarj
    have HBj := Lib.hid (hbarj.below R.out.below (Nat.le_refl _) R.out.below.size)
    clear hbarj R
    go_wp2_with fail
    refine bodyPost_ret (v := .agg (entC tb 0 (.slice none 0 0) (.slice none 0 0) (.slice none 0 0) false 0 0 0 (numR 1 r1))) (results_cell_row rfl _ _ w.heap.size _ _ _ _ rfl hbj Try.underlying26 rfl (by kernel_rfl)) rfl ?_
    rw [HRn.out]
    exact ⟨_, _, rfl, OwnL.nil _ _ _ _ _, OwnL.nil _ _ _ _ _, HBj.out⟩
  have t1 : (k == 1) = false := by simpa using h1
  have HRn : Hid (P = noPart) := Lib.hid (by rw [HS.out, if_neg h6, if_neg h5, if_neg h4, if_neg h3, if_neg h2, if_neg h1])
  clear HS HAc HRs h6 h5 h4 h3 h2 h1
  go_upto_region 22 with fail
  go_wp2_with (first
    | (refine wpList_load_row rfl 26 _ rfl _ rfl _ _ _ _ (R.out.at 0 rfl) Try.underlying26 rfl (by kernel_rfl) ?_)
    | (refine wpList_store_row rfl 26 _ _ rfl _ rfl (entC tb 0 (.slice none 0 0) (.slice none 0 0) (.slice none 0 0) false 0 0 0 0) rfl _ _ (R.out.at 1 rfl) rfl (by kernel_rfl) (by simp [Value.oneCell']) ?_)
    | fail)
  intro Wj hbj hbarj
  have HBj := Lib.hid (hbarj.below R.out.below (Nat.le_refl _) R.out.below.size)
  clear hbarj R
  go_wp2_with fail
  refine bodyPost_ret (v := .agg (entC tb 0 (.slice none 0 0) (.slice none 0 0) (.slice none 0 0) false 0 0 0 0)) (results_cell_row rfl _ _ w.heap.size _ _ _ _ rfl hbj Try.underlying26 rfl (by kernel_rfl)) rfl ?_
  rw [HRn.out]
  exact ⟨_, _, rfl, OwnL.nil _ _ _ _ _, OwnL.nil _ _ _ _ _, HBj.out⟩
end Go.Proofs.Ytdjhbahiiabimaa
