/- match.Takes. -/
import Derived.Test.YtaaadbmhcfjooaaMatchH
namespace Go.Proofs.Ytaaadbmhcfjooaa
open Go.RowKit
set_option linter.unusedVariables false

abbrev cellsSn (s : Seen) : Array Value := #[.int .i64 s.fIn, .int .u64 s.fMeta, .int .u64 s.fP.fTo, .int .u64 s.fP.fFrom, .int .i64 s.fP.fVlan, .int .i64 s.fP.fType, .int .u32 s.fP.fSrc, .int .u32 s.fP.fDst, .int .i64 s.fP.fLife, .int .i64 s.fP.fProto, .int .i64 s.fP.fSport, .int .i64 s.fP.fDport, .string s.fP.fData]
/-- A whole struct read, behind a guard or not. -/
theorem wpQ2_rowg {P : Program} {Cl : World → Prop} {y : Array Value → Nat → Option Bool} {Q : Act → Prop} {a : Act} {dst : Option Tmp} {ty ty2 : TypeId} {pos : String} {after : Array Edge} {gd : Option (Nat × Bool)} {x : Operand} {rest : List Oper}
    (g f : Nat) (hx : a.eval x = .pointer (some ⟨g, f, none⟩)) (v : Value) (hl : ∀ W, Cl W → (loadVar ty ⟨g, f, none⟩).run P W = .ok v W)
    (hw : Region.wanted ⟨dst, .load ty x, ty2, pos, #[], gd⟩ (y a.tmps) = true)
    (h : wpQ2 P y (fun w' => ∃ p : Keep Cl, w' = p.w) Q rest (a.put dst v)) : wpQ2 P y (fun w' => ∃ p : Keep Cl, w' = p.w) Q (⟨dst, .load ty x, ty2, pos, after, gd⟩ :: rest) a := by
  have hw' : Region.wanted ⟨dst, .load ty x, ty2, pos, after, gd⟩ (y a.tmps) = true := hw
  unfold wpQ2
  rw [if_pos hw']
  refine ⟨v, fun w ⟨p, hp⟩ => ?_, h⟩
  subst hp
  unfold Oper.quietAt execOp
  simp only [hx, Instr.loadAt, Instr.sureAddr, Sem.run_bind, Sem.run_pure, Result.andThen_ok, hl _ p.h, Oper.quietUpon]
  exact ⟨trivial, trivial⟩

/-- Does a test take a packet? -/
def takT (s : Seen) (t : Test) : Bool := (getF s t.fField).2 == 0 && bits .and .u64 (getF s t.fField).1 t.fMask == t.fValue
/-- Does a match take a packet? -/
def takesF (l : List Test) (s : Seen) : Bool := !(l.any fun t => !(takT s t))

set_option maxRecDepth 100000 in
set_option maxHeartbeats 4000000 in
theorem tak1_any (w W : World) (s : Seen) (h0 : 0 ≤ s.fMeta) (h1 : s.fMeta < 18446744073709551616) (bp : Nat) (hlt : bp < w.heap.size) (hc : BlkAt w bp 37 (cellsSn s)) (t : Test) (hb : Below w.heap.size w W) :
    Calls Try.prog 44 #[valTest t, .pointer (some ⟨bp, 0, none⟩)] W fun e w' => e = .returned (.bool (!(takT s t))) ∧ Below W.heap.size W w' := by
  have hB := hc.below hb hlt
  have hltW : bp < W.heap.size := hB.lt
  obtain ⟨tf, tv, tm⟩ := t
  have HG := Lib.hid (fun W => Get_any W s tf h0 h1)
  have HTK : Hid (takT s ⟨tf, tv, tm⟩ = ((getF s tf).2 == 0 && bits .and .u64 (getF s tf).1 tm == tv)) := Lib.hid rfl
  clear hb hc hlt h0 h1
  generalize getF s tf = q at *
  obtain ⟨gv, ge⟩ := q
  obtain ⟨x1, e1⟩ : ∃ x, bits .and .u64 gv tm = x := ⟨_, rfl⟩
  have ec : takT s ⟨tf, tv, tm⟩ = (ge == 0 && x1 == tv) := by rw [HTK.out, ← e1]
  clear HTK
  have HBk := Lib.hid hB
  clear hB
  by_cases h2 : ge = 0
  case neg =>
    have t1 : (ge == 0) = false := beq_eq_false_iff_ne.mpr h2
    have t2 : (ge != 0) = true := by simp [h2]
    have ec2 : takT s ⟨tf, tv, tm⟩ = false := by rw [ec, t1]; rfl
    rw [ec2]
    clear ec ec2
    go_enter Try.func44, Try.ntmps44
    go_upto_region 1 with fail
    refine one_box_wp ?_
    intro W1 hb1 hbel hsz
    have hK := Lib.hid ((KR.start hbel hbel.size).add hb1)
    have hS := Lib.hid (HBk.out.below hbel hltW)
    have r0 := hK.out.cell 0 0 rfl rfl
    clear hb1 hbel hsz
    go_wp2_with (first
      | (refine wpList_row 37 _ rfl (by rfl) _ _ rfl _ (run_loadVar_row _ _ _ 37 _ (0, 0) _ hS.out Try.underlying37 rfl (by kernel_rfl)) ?_)
      | fail)
    refine (HG.out _).mono ?_
    rintro e w2 ⟨rfl, b2⟩
    have hK2 := Lib.hid (hK.out.call b2)
    have r1 := hK2.out.cell 0 1 rfl rfl
    have r2 := hK2.out.cell 0 2 rfl rfl
    clear b2 hK hS r0 HG
    go_wp2
    go_ret
    exact ⟨rfl, hK2.out.below⟩
  subst h2
  by_cases h3 : x1 = tv
  case neg =>
    have t1 : (x1 == tv) = false := beq_eq_false_iff_ne.mpr h3
    have t2 : (x1 != tv) = true := by simp [h3]
    have ec2 : takT s ⟨tf, tv, tm⟩ = false := by rw [ec, t1]; rfl
    rw [ec2]
    clear ec ec2
    go_enter Try.func44, Try.ntmps44
    go_upto_region 1 with fail
    refine one_box_wp ?_
    intro W1 hb1 hbel hsz
    have hK := Lib.hid ((KR.start hbel hbel.size).add hb1)
    have hS := Lib.hid (HBk.out.below hbel hltW)
    have r0 := hK.out.cell 0 0 rfl rfl
    clear hb1 hbel hsz
    go_wp2_with (first
      | (refine wpList_row 37 _ rfl (by rfl) _ _ rfl _ (run_loadVar_row _ _ _ 37 _ (0, 0) _ hS.out Try.underlying37 rfl (by kernel_rfl)) ?_)
      | fail)
    refine (HG.out _).mono ?_
    rintro e w2 ⟨rfl, b2⟩
    have hK2 := Lib.hid (hK.out.call b2)
    have r1 := hK2.out.cell 0 1 rfl rfl
    have r2 := hK2.out.cell 0 2 rfl rfl
    clear b2 hK hS r0 HG
    go_wp2
    go_ret
    exact ⟨rfl, hK2.out.below⟩
  have ec2 : takT s ⟨tf, tv, tm⟩ = true := by rw [ec, h3]; simp
  rw [ec2]
  rw [h3] at e1
  clear ec ec2 h3
  go_enter Try.func44, Try.ntmps44
  go_upto_region 1 with fail
  refine one_box_wp ?_
  intro W1 hb1 hbel hsz
  have hK := Lib.hid ((KR.start hbel hbel.size).add hb1)
  have hS := Lib.hid (HBk.out.below hbel hltW)
  have r0 := hK.out.cell 0 0 rfl rfl
  clear hb1 hbel hsz
  go_wp2_with (first
    | (refine wpList_row 37 _ rfl (by rfl) _ _ rfl _ (run_loadVar_row _ _ _ 37 _ (0, 0) _ hS.out Try.underlying37 rfl (by kernel_rfl)) ?_)
    | fail)
  refine (HG.out _).mono ?_
  rintro e w2 ⟨rfl, b2⟩
  have hK2 := Lib.hid (hK.out.call b2)
  have r1 := hK2.out.cell 0 1 rfl rfl
  have r2 := hK2.out.cell 0 2 rfl rfl
  clear b2 hK hS r0 HG
  go_wp2
  go_ret
  exact ⟨rfl, hK2.out.below⟩

set_option maxRecDepth 100000 in
set_option maxHeartbeats 4000000 in
theorem Takes_any (w : World) (v : Value) (l : List Test) (s : Seen) (h0 : 0 ≤ s.fMeta) (h1 : s.fMeta < 18446744073709551616) (h : ReadL w 3 encTest v l) :
    Calls Try.prog 21 #[v, valSeen s] w fun e w' => e = .returned (.bool (takesF l s)) ∧ Below w.heap.size w w' := by
  have eg : Enters Try.prog 44 := enters_of Try.func44 (by kernel_rfl) rfl
  have HEG := Lib.hid eg
  have HR := Lib.hid h
  have HM := Lib.hid (And.intro h0 h1)
  clear eg h0 h1
  obtain ⟨xa, xc, rfl, _, _, _⟩ := h
  unfold takesF
  obtain ⟨r, hr⟩ : ∃ r, r = (l.any fun t => !(takT s t)) := ⟨_, rfl⟩
  have HRR := Lib.hid hr
  rw [← hr]
  clear hr
  go_enter Try.func21, Try.ntmps21
  go_upto_region 1 with fail
  refine one_box_wp ?_
  intro W hb1 hbel hsz
  have HI := Lib.hid (contF_any 44 #[.pointer (some ⟨w.heap.size, 0, none⟩)] (fun t => !(takT s t)) HEG.out W _ l (HR.out.below hbel (Nat.le_refl _))
    (fun W' x hb => tak1_any W W' s HM.out.1 HM.out.2 w.heap.size hsz.out hb1 x hb))
  rw [← HRR.out] at HI
  have HB := Lib.hid hbel
  clear hb1 hbel hsz
  go_wp2_with fail
  refine HI.out.mono ?_
  rintro e w' ⟨rfl, hb'⟩
  have hbb := Lib.hid (HB.out.trans (hb'.mono HB.out.size))
  clear hb' HI
  go_wp2
  go_ret
  exact ⟨rfl, hbb.out⟩
end Go.Proofs.Ytaaadbmhcfjooaa
