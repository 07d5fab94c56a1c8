/- The walk of frame.seems. -/
import Derived.Test.YthihncfmimkimaaFrameD
import Derived.Test.YthihncfmimkimaaRdK
import Derived.Test.YthihncfmimkimaaHeldRow
import Derived.Deep.DeepCutAuto
namespace Go.Proofs.Ythihncfmimkimaa
open Go.RowKit
set_option linter.unusedVariables false
set_option linter.unusedSimpArgs false

def z39 : Array Value := #[.int .i64 0, .int .i64 0]
def pkt0' : Pkt := ⟨0, 0, 0, 0, 0, 0, 0, 0, 0, 0, ⟨#[]⟩⟩
theorem u32_id {n : Int} (h0 : 0 ≤ n) (h1 : n ≤ 4294967295) : IntKind.u32.wrap n = n := by
  have : IntKind.u32.wrap n = n % 4294967296 := by simp [IntKind.wrap, IntKind.bits, IntKind.signed]
  omega
set_option maxRecDepth 100000 in
set_option maxHeartbeats 8000000 in
theorem seems_any (w : World) (s : ByteArray) (hs : s.size ≤ 140737488351232) :
    Calls Try.prog 20 #[.string s] w fun x w' => x = .returned (.tuple #[.agg (pktC (seemsP s).1), .agg #[.int .i64 (seemsP s).2.1, .int .i64 (seemsP s).2.2]]) ∧ Below w.heap.size w w' := by
  have HZ := Lib.hid (fun (W : World) l (h : KR w.heap.size w l W) => RK.read h s hs)
  have HS : Hid (seemsP s = seemsP s) := Lib.hid rfl
  conv at HS => arg 1; rhs; unfold seemsP
  have q0 := numR_6 (s, 0)
  have q1 := numR_6 (numS 6 (s, 0))
  have q2 := numR_2 (numS 6 (numS 6 (s, 0)))
  go_enter Try.func20, Try.ntmps20
  go_upto_region 1 with fail
  refine two_boxes_wp ?_
  intro W hb1 hb2 hbel hsz
  have K : Hid (KR w.heap.size w [(w.heap.size, 25, pktC pkt0'), (w.heap.size + 1, 39, z39)] W) := Lib.hid (((KR.start hbel hbel.size).add hb2).add hb1)
  clear hb1 hb2 hbel hsz
  go_wp2_with fail
  refine (HZ.out _ _ K.out).mono ?_
  rintro x w1 ⟨g, rfl, hg, r0⟩
  have R := Lib.hid r0
  clear r0 K HZ hg
  go_wp2_with fail
  refine (R.out.num 6).mono ?_
  rintro x wr ⟨rfl, r'⟩
  replace R := Lib.hid r'
  clear r'
  go_wp2_with fail
  refine (R.out.num 6).mono ?_
  rintro x wr ⟨rfl, r'⟩
  replace R := Lib.hid r'
  clear r'
  generalize numR 6 (s, 0) = n1 at *
  generalize numR 6 (numS 6 (s, 0)) = n2 at *
  generalize numS 6 (numS 6 (s, 0)) = r2 at *
  go_wp2_with fail
  refine (R.out.num 2).mono ?_
  rintro x wr ⟨rfl, r'⟩
  replace R := Lib.hid r'
  clear r'
  have q3 := numR_2 (numS 2 r2)
  have q4 := numR_2 (numS 2 (numS 2 r2))
  go_upto_region 3 with fail
  refine one_box_wp ?_
  intro W5 hb hbel hsz
  have hgp := R.out.lt 1 rfl
  replace R : Hid (RK w [(wr.heap.size, 25, pktC ⟨n1, n2, 0, numR 2 r2, 0, 0, 0, 0, 0, 0, ⟨#[]⟩⟩), (w.heap.size, 25, pktC pkt0'), (w.heap.size + 1, 39, z39)] g (numS 2 r2) W5) := Lib.hid (R.out.new hb hbel)
  clear hb hbel hsz
  generalize wr.heap.size = gp at *
  simp only at hgp
  have c3 := (R.out.at 0 rfl).cell 3 _ (pktC_3 _)
  go_upto_if 19 with fail
  clear c3
  go_cut [] from 7 (fun wx => Hid (RK w [(gp, 25, pktC ⟨n1, n2, sVlan r2, sType r2, 0, 0, 0, 0, 0, 0, ⟨#[]⟩⟩), (w.heap.size, 25, pktC pkt0'), (w.heap.size + 1, 39, z39)] g (sRest r2) wx))
  case first =>
    by_cases ht : numR 2 r2 = 33024
    · have t1 : (numR 2 r2 == 33024) = true := by simpa using ht
      have e1 : sVlan r2 = 4096 + numR 2 (numS 2 r2) := by unfold sVlan; rw [if_pos ht]
      have e2 : sType r2 = numR 2 (numS 2 (numS 2 r2)) := by unfold sType; rw [if_pos ht]
      have e3 : sRest r2 = numS 2 (numS 2 (numS 2 r2)) := by unfold sRest; rw [if_pos ht]
      have HE := Lib.hid (And.intro e1 (And.intro e2 e3))
      clear e1 e2 e3 ht
      go_wp2_with fail
      refine (R.out.num 2).mono ?_
      rintro x wr ⟨rfl, r'⟩
      replace R := Lib.hid r'
      clear r'
      have c2 := (R.out.at 0 rfl).cell 2 _ (pktC_2 _)
      have f2 := (R.out.at 0 rfl).frozen 2
      go_wp2_with fail
      clear c2 f2
      refine ((R.out.set 2 (.int .i64 (4096 + numR 2 (numS 2 r2))) (by omega) (by simp; omega)).num 2).mono ?_
      rintro x wr ⟨rfl, r'⟩
      replace R : Hid (RK w [(gp, 25, pktC ⟨n1, n2, 4096 + numR 2 (numS 2 r2), numR 2 r2, 0, 0, 0, 0, 0, 0, ⟨#[]⟩⟩), (w.heap.size, 25, pktC pkt0'), (w.heap.size + 1, 39, z39)] g (numS 2 (numS 2 (numS 2 r2))) wr) := Lib.hid r'
      clear r'
      have c3 := (R.out.at 0 rfl).cell 3 _ (pktC_3 _)
      have f3 := (R.out.at 0 rfl).frozen 3
      go_wp2_with fail
      go_meet
      case rel =>
        refine Lib.hid ?_
        rw [HE.out.1, HE.out.2.1, HE.out.2.2]
        exact R.out.set 3 (.int .i64 (numR 2 (numS 2 (numS 2 r2)))) (by omega) (by simp; omega)
    · have t1 : (numR 2 r2 == 33024) = false := by simpa using ht
      go_wp2_with fail
      go_meet
      case rel =>
        refine Lib.hid ?_
        have e1 : sVlan r2 = 0 := by unfold sVlan; rw [if_neg ht]
        have e2 : sType r2 = numR 2 r2 := by unfold sType; rw [if_neg ht]
        have e3 : sRest r2 = numS 2 r2 := by unfold sRest; rw [if_neg ht]
        rw [e1, e2, e3]
        exact R.out
  case rest =>
    clear R
    have R := hcut
    clear hcut q0 q1 q2 q3 q4
    generalize sVlan r2 = vl at *
    generalize sType r2 = ty at *
    generalize sRest r2 = r5 at *
    go_upto_region 7 with fail
    refine one_box_wp ?_
    intro W6 hb hbel hsz
    have hgs := R.out.lt 0 rfl
    replace R : Hid (RK w [(gp, 25, pktC ⟨n1, n2, vl, ty, 0, 0, 0, 0, 0, 0, ⟨#[]⟩⟩), (wc.heap.size, 39, #[.int .i64 0, .int .i64 0]), (w.heap.size, 25, pktC pkt0'), (w.heap.size + 1, 39, z39)] g r5 W6) := Lib.hid ((R.out.new hb hbel).sub (by simp [z39]))
    clear hb hbel hsz
    generalize wc.heap.size = gs at *
    simp only at hgs
    have c3 := (R.out.at 0 rfl).cell 3 _ (pktC_3 _)
    go_upto_if 31 with fail
    clear c3
    go_cut [] from 7 (fun wx => Hid (RK w [(gp, 25, pktC ⟨n1, n2, vl, ty, (innH ty r5).src, (innH ty r5).dst, (innH ty r5).life, (innH ty r5).proto, 0, 0, ⟨#[]⟩⟩), (gs, 39, #[.int .i64 (innH ty r5).head, .int .i64 0]), (w.heap.size, 25, pktC pkt0'), (w.heap.size + 1, 39, z39)] g (innH ty r5).r wx))
    case first =>
      by_cases ht : ty = 2048
      · have t1 : (ty == 2048) = true := by simpa using ht
        have HE : Hid (innH ty r5 = ⟨numR 1 (bytS 8 r5), numR 1 (numS 1 (bytS 8 r5)), numR 2 (numS 1 (numS 1 (bytS 8 r5))), numR 4 (numS 2 (numS 1 (numS 1 (bytS 8 r5)))), numR 4 (numS 4 (numS 2 (numS 1 (numS 1 (bytS 8 r5))))), numS 4 (numS 4 (numS 2 (numS 1 (numS 1 (bytS 8 r5)))))⟩) := Lib.hid (by unfold innH; rw [if_pos ht])
        generalize innH ty r5 = hh at *
        clear ht
        go_wp2_with fail
        refine (R.out.bytes 8).mono ?_
        rintro x wr ⟨rfl, r'⟩
        replace R := Lib.hid r'
        clear r'
        generalize bytS 8 r5 = r6 at *
        have q1 := numR_1 r6
        have q2 := numR_1 (numS 1 r6)
        have q3 := numR_2 (numS 1 (numS 1 r6))
        have q4 := numR_4 (numS 2 (numS 1 (numS 1 r6)))
        have q5 := numR_4 (numS 4 (numS 2 (numS 1 (numS 1 r6))))
        have u4 := u32_id q4.1 q4.2
        have u5 := u32_id q5.1 q5.2
        go_wp2_with fail
        refine (R.out.num 1).mono ?_
        rintro x wr ⟨rfl, r'⟩
        replace R := Lib.hid r'
        clear r'
        go_wp2_with fail
        refine (R.out.num 1).mono ?_
        rintro x wr ⟨rfl, r'⟩
        replace R := Lib.hid r'
        clear r'
        have c6 := (R.out.at 0 rfl).cell 6 _ (pktC_6 _)
        have c7 := (R.out.at 0 rfl).cell 7 _ (pktC_7 _)
        have f6 := (R.out.at 0 rfl).frozen 6
        have f7 := (R.out.at 0 rfl).frozen 7
        go_wp2_with fail
        clear c6 c7 f6 f7
        replace R : Hid (RK w [(gp, 25, pktC ⟨n1, n2, vl, ty, 0, 0, (numR 1 r6), (numR 1 (numS 1 r6)), 0, 0, ⟨#[]⟩⟩), (gs, 39, #[.int .i64 0, .int .i64 0]), (w.heap.size, 25, pktC pkt0'), (w.heap.size + 1, 39, z39)] g (numS 1 (numS 1 r6)) ((wr.setCell ⟨gp, 6, none⟩ (.int .i64 (numR 1 r6))).setCell ⟨gp, 7, none⟩ (.int .i64 (numR 1 (numS 1 r6))))) := Lib.hid ((R.out.set 6 _ (by omega) (by simp; omega)).set 7 _ (by omega) (by simp; omega))
        generalize (wr.setCell ⟨gp, 6, none⟩ (.int .i64 (numR 1 r6))).setCell ⟨gp, 7, none⟩ (.int .i64 (numR 1 (numS 1 r6))) = wr at *
        go_wp2_with fail
        refine (R.out.num 2).mono ?_
        rintro x wr ⟨rfl, r'⟩
        replace R := Lib.hid r'
        clear r'
        have c6 := (R.out.at 1 rfl).cell 0 _ rfl
        have f6 := (R.out.at 1 rfl).frozen 0
        go_wp2_with fail
        clear c6 f6
        replace R : Hid (RK w [(gp, 25, pktC ⟨n1, n2, vl, ty, 0, 0, (numR 1 r6), (numR 1 (numS 1 r6)), 0, 0, ⟨#[]⟩⟩), (gs, 39, #[.int .i64 (numR 2 (numS 1 (numS 1 r6))), .int .i64 0]), (w.heap.size, 25, pktC pkt0'), (w.heap.size + 1, 39, z39)] g (numS 2 (numS 1 (numS 1 r6))) (wr.setCell ⟨gs, 0, none⟩ (.int .i64 (numR 2 (numS 1 (numS 1 r6)))))) := Lib.hid (R.out.set1 0 _ (by omega) (by simp; omega) (by simp; omega))
        generalize wr.setCell ⟨gs, 0, none⟩ (.int .i64 (numR 2 (numS 1 (numS 1 r6)))) = wr at *
        go_wp2_with fail
        refine (R.out.num 4).mono ?_
        rintro x wr ⟨rfl, r'⟩
        replace R := Lib.hid r'
        clear r'
        go_wp2_with fail
        refine (R.out.num 4).mono ?_
        rintro x wr ⟨rfl, r'⟩
        replace R := Lib.hid r'
        clear r'
        have c6 := (R.out.at 0 rfl).cell 4 _ (pktC_4 _)
        have c7 := (R.out.at 0 rfl).cell 5 _ (pktC_5 _)
        have f6 := (R.out.at 0 rfl).frozen 4
        have f7 := (R.out.at 0 rfl).frozen 5
        go_wp2_with fail
        go_meet
        case rel =>
          refine Lib.hid ?_
          rw [HE.out]
          exact (R.out.set 4 _ (by omega) (by simp; omega)).set 5 _ (by omega) (by simp; omega)
      · have t1 : (ty == 2048) = false := by simpa using ht
        go_wp2_with fail
        go_meet
        case rel =>
          refine Lib.hid ?_
          have e1 : innH ty r5 = ⟨0, 0, 0, 0, 0, r5⟩ := by unfold innH; rw [if_neg ht]
          rw [e1]
          exact R.out
    case rest =>
      clear R
      have R := hcut
      clear hcut
      generalize innH ty r5 = hh at *
      obtain ⟨lf, pr, hd, sr, ds, r8⟩ := hh
      simp only at R
      have HP := Lib.hid (fun W => ported_any W ⟨n1, n2, vl, ty, sr, ds, lf, pr, 0, 0, ⟨#[]⟩⟩)
      go_wp2_with (first
        | (refine wpList_row 25 _ rfl (by rfl) _ _ rfl _ (run_loadVar_row _ _ _ 25 _ (0, 0) _ (R.out.at 0 rfl) Try.underlying25 rfl (by kernel_rfl)) ?_)
        | fail)
      refine (HP.out _).mono ?_
      rintro x w8 ⟨rfl, b8⟩
      replace R := Lib.hid (R.out.call b8)
      clear b8 HP
      have HPo : Hid (portedF ⟨n1, n2, vl, ty, sr, ds, lf, pr, 0, 0, ⟨#[]⟩⟩ = (pr == 6 || pr == 17)) := Lib.hid rfl
      generalize portedF ⟨n1, n2, vl, ty, sr, ds, lf, pr, 0, 0, ⟨#[]⟩⟩ = pb at *
      go_upto_if 55 with fail
      go_cut [] from 7 (fun wx => Hid (RK w [(gp, 25, pktC ⟨n1, n2, vl, ty, sr, ds, lf, pr, (innP pr r8).sport, (innP pr r8).dport, ⟨#[]⟩⟩), (gs, 39, #[.int .i64 hd, .int .i64 (innP pr r8).part]), (w.heap.size, 25, pktC pkt0'), (w.heap.size + 1, 39, z39)] g (innP pr r8).r wx))
      case first =>
        have hc : (∃ x : Unit, pb = true ∧ (pr == 17) = true ∧ pr = 17) ∨ (∃ x : Unit, pb = true ∧ (pr == 17) = false ∧ ¬ pr = 17 ∧ pr = 6) ∨ (∃ x : Unit, pb = false ∧ ¬ pr = 17 ∧ ¬ pr = 6) := by
          rw [HPo.out]
          by_cases h1 : pr = 17
          · subst h1; exact .inl ⟨(), rfl, rfl, rfl⟩
          · by_cases h2 : pr = 6
            · subst h2; exact .inr (.inl ⟨(), rfl, rfl, h1, rfl⟩)
            · exact .inr (.inr ⟨(), by simp [h1, h2], h1, h2⟩)
        clear HPo
        rcases hc with ⟨_, rfl, t2, hp⟩ | ⟨_, rfl, t2, hp, hq⟩ | ⟨_, rfl, hp, hq⟩
        · have HE : Hid (innP pr r8 = ⟨numR 2 r8, numR 2 (numS 2 r8), numR 2 (bytS 2 (numS 2 (numS 2 r8))), numS 2 (bytS 2 (numS 2 (numS 2 r8)))⟩) := Lib.hid (by unfold innP; rw [if_pos hp])
          have q1 := numR_2 r8
          have q2 := numR_2 (numS 2 r8)
          have q3 := numR_2 (bytS 2 (numS 2 (numS 2 r8)))
          generalize innP pr r8 = qq at *
          clear hp
          go_wp2_with fail
          refine (R.out.num 2).mono ?_
          rintro x wr ⟨rfl, r'⟩
          replace R := Lib.hid r'
          clear r'
          go_wp2_with fail
          refine (R.out.num 2).mono ?_
          rintro x wr ⟨rfl, r'⟩
          replace R := Lib.hid r'
          clear r'
          have c6 := (R.out.at 0 rfl).cell 8 _ (pktC_8 _)
          have c7 := (R.out.at 0 rfl).cell 9 _ (pktC_9 _)
          have c8 := (R.out.at 0 rfl).cell 7 _ (pktC_7 _)
          have f6 := (R.out.at 0 rfl).frozen 8
          have f7 := (R.out.at 0 rfl).frozen 9
          go_wp2_with fail
          clear c6 c7 c8 f6 f7
          replace R : Hid (RK w [(gp, 25, pktC ⟨n1, n2, vl, ty, sr, ds, lf, pr, (numR 2 r8), (numR 2 (numS 2 r8)), ⟨#[]⟩⟩), (gs, 39, #[.int .i64 hd, .int .i64 0]), (w.heap.size, 25, pktC pkt0'), (w.heap.size + 1, 39, z39)] g (numS 2 (numS 2 r8)) ((wr.setCell ⟨gp, 8, none⟩ (.int .i64 (numR 2 r8))).setCell ⟨gp, 9, none⟩ (.int .i64 (numR 2 (numS 2 r8))))) := Lib.hid ((R.out.set 8 _ (by omega) (by simp; omega)).set 9 _ (by omega) (by simp; omega))
          generalize (wr.setCell ⟨gp, 8, none⟩ (.int .i64 (numR 2 r8))).setCell ⟨gp, 9, none⟩ (.int .i64 (numR 2 (numS 2 r8))) = wr at *
          go_wp2_with fail
          refine (R.out.bytes 2).mono ?_
          rintro x wr ⟨rfl, r'⟩
          replace R := Lib.hid r'
          clear r'
          go_wp2_with fail
          refine (R.out.num 2).mono ?_
          rintro x wr ⟨rfl, r'⟩
          replace R := Lib.hid r'
          clear r'
          have c6 := (R.out.at 1 rfl).cell 1 _ rfl
          have f6 := (R.out.at 1 rfl).frozen 1
          go_wp2_with fail
          clear c6 f6
          go_meet
          case rel =>
            refine Lib.hid ?_
            rw [HE.out]
            exact R.out.set1 1 _ (by omega) (by simp; omega) (by simp; omega)
        · have HE : Hid (innP pr r8 = ⟨numR 2 r8, numR 2 (numS 2 r8), numR 2 (bytS 12 (numS 2 (numS 2 r8))), bytS 2 (numS 2 (bytS 12 (numS 2 (numS 2 r8))))⟩) := Lib.hid (by unfold innP; rw [if_neg hp, if_pos hq])
          have q1 := numR_2 r8
          have q2 := numR_2 (numS 2 r8)
          have q3 := numR_2 (bytS 12 (numS 2 (numS 2 r8)))
          generalize innP pr r8 = qq at *
          clear hp hq
          go_wp2_with fail
          refine (R.out.num 2).mono ?_
          rintro x wr ⟨rfl, r'⟩
          replace R := Lib.hid r'
          clear r'
          go_wp2_with fail
          refine (R.out.num 2).mono ?_
          rintro x wr ⟨rfl, r'⟩
          replace R := Lib.hid r'
          clear r'
          have c6 := (R.out.at 0 rfl).cell 8 _ (pktC_8 _)
          have c7 := (R.out.at 0 rfl).cell 9 _ (pktC_9 _)
          have c8 := (R.out.at 0 rfl).cell 7 _ (pktC_7 _)
          have f6 := (R.out.at 0 rfl).frozen 8
          have f7 := (R.out.at 0 rfl).frozen 9
          go_wp2_with fail
          clear c6 c7 c8 f6 f7
          replace R : Hid (RK w [(gp, 25, pktC ⟨n1, n2, vl, ty, sr, ds, lf, pr, (numR 2 r8), (numR 2 (numS 2 r8)), ⟨#[]⟩⟩), (gs, 39, #[.int .i64 hd, .int .i64 0]), (w.heap.size, 25, pktC pkt0'), (w.heap.size + 1, 39, z39)] g (numS 2 (numS 2 r8)) ((wr.setCell ⟨gp, 8, none⟩ (.int .i64 (numR 2 r8))).setCell ⟨gp, 9, none⟩ (.int .i64 (numR 2 (numS 2 r8))))) := Lib.hid ((R.out.set 8 _ (by omega) (by simp; omega)).set 9 _ (by omega) (by simp; omega))
          generalize (wr.setCell ⟨gp, 8, none⟩ (.int .i64 (numR 2 r8))).setCell ⟨gp, 9, none⟩ (.int .i64 (numR 2 (numS 2 r8))) = wr at *
          go_wp2_with fail
          refine (R.out.bytes 12).mono ?_
          rintro x wr ⟨rfl, r'⟩
          replace R := Lib.hid r'
          clear r'
          go_wp2_with fail
          refine (R.out.num 2).mono ?_
          rintro x wr ⟨rfl, r'⟩
          replace R := Lib.hid r'
          clear r'
          have c6 := (R.out.at 1 rfl).cell 1 _ rfl
          have f6 := (R.out.at 1 rfl).frozen 1
          go_wp2_with fail
          clear c6 f6
          replace R : Hid (RK w [(gp, 25, pktC ⟨n1, n2, vl, ty, sr, ds, lf, pr, (numR 2 r8), (numR 2 (numS 2 r8)), ⟨#[]⟩⟩), (gs, 39, #[.int .i64 hd, .int .i64 (numR 2 (bytS 12 (numS 2 (numS 2 r8))))]), (w.heap.size, 25, pktC pkt0'), (w.heap.size + 1, 39, z39)] g (numS 2 (bytS 12 (numS 2 (numS 2 r8)))) (wr.setCell ⟨gs, 1, none⟩ (.int .i64 (numR 2 (bytS 12 (numS 2 (numS 2 r8))))))) := Lib.hid (R.out.set1 1 _ (by omega) (by simp; omega) (by simp; omega))
          generalize wr.setCell ⟨gs, 1, none⟩ (.int .i64 (numR 2 (bytS 12 (numS 2 (numS 2 r8))))) = wr at *
          go_wp2_with fail
          refine (R.out.bytes 2).mono ?_
          rintro x wr ⟨rfl, r'⟩
          replace R := Lib.hid r'
          clear r'
          go_wp2_with fail
          go_meet
          case rel =>
            refine Lib.hid ?_
            rw [HE.out]
            exact R.out
        · go_wp2_with fail
          go_meet
          case rel =>
            refine Lib.hid ?_
            have e1 : innP pr r8 = ⟨0, 0, 0, r8⟩ := by unfold innP; rw [if_neg hp, if_neg hq]
            rw [e1]
            exact R.out
      case rest =>
        clear R
        have R := hcut
        clear hcut HPo
        generalize innP pr r8 = qq at *
        obtain ⟨sp, dp, pt, r9⟩ := qq
        simp only at R HS
        go_wp2_with fail
        refine R.out.left.mono ?_
        rintro x w9 ⟨rfl, rfl⟩
        go_wp2_with fail
        refine (R.out.bytes (leftR r9.1 r9.2)).mono ?_
        rintro x wr ⟨rfl, r'⟩
        replace R := Lib.hid r'
        clear r'
        have c6 := (R.out.at 0 rfl).cell 10 _ (pktC_10 _)
        have f6 := (R.out.at 0 rfl).frozen 10
        go_upto_region 21 with fail
        clear c6 f6
        replace R : Hid (RK w [(gp, 25, pktC ⟨n1, n2, vl, ty, sr, ds, lf, pr, sp, dp, bytR (leftR r9.1 r9.2) r9⟩), (gs, 39, #[.int .i64 hd, .int .i64 pt]), (w.heap.size, 25, pktC pkt0'), (w.heap.size + 1, 39, z39)] g (bytS (leftR r9.1 r9.2) r9) (wr.setCell ⟨gp, 10, none⟩ (.string (bytR (leftR r9.1 r9.2) r9)))) := Lib.hid (R.out.set 10 _ (by omega) (by simp; omega))
        generalize wr.setCell ⟨gp, 10, none⟩ (.string (bytR (leftR r9.1 r9.2) r9)) = wr at *
        generalize bytR (leftR r9.1 r9.2) r9 = data at *
        generalize bytS (leftR r9.1 r9.2) r9 = r10 at *
        have hgs0 : gs ≠ w.heap.size := by omega
        have hgs1 : gs ≠ w.heap.size + 1 := by omega
        have hgp0 : gp ≠ w.heap.size := by omega
        have hgp1 : gp ≠ w.heap.size + 1 := by omega
        obtain ⟨PC, hPC⟩ : ∃ PC, PC = pktC ⟨n1, n2, vl, ty, sr, ds, lf, pr, sp, dp, data⟩ := ⟨_, rfl⟩
        have hone : ∀ v ∈ PC.toList, v.oneCell' = true := by rw [hPC]; intro u hu; simp [pktC] at hu; rcases hu with rfl | rfl | rfl | rfl | rfl | rfl | rfl | rfl | rfl | rfl | rfl <;> rfl
        have hsize : PC.size = 11 := by rw [hPC]; rfl
        rw [← hPC] at R
        have HPC := Lib.hid hPC
        clear hPC
        have K0 : Hid (KR w.heap.size w [(w.heap.size, 25, pktC pkt0'), (w.heap.size + 1, 39, z39)] wr.drew) := Lib.hid ((R.out.kr.sub (by simp)).drew)
        refine wp_region_noPanic ?_
        refine wp_region_held (S := fun w' => BlkAt w' gp 25 PC ∧ BlkAt w' gs 39 #[.int .i64 hd, .int .i64 pt]) (by kernel_rfl) ?_
        change wpAnyH _ _ _ _ _ 4 #[false, false, false, false] _ (World.drew _)
        have hS := Lib.hid (And.intro (R.out.at 0 rfl).drew (R.out.at 1 rfl).drew)
        clear R
        generalize wr.drew = Wd at *
        refine wpAnyH_take (i := 0) (v := .agg PC) rfl (by kernel_rfl) (by kernel_rfl) (by kernel_rfl) (fun _ _ _ h => h) (Or.inl ⟨by rfl, fun W hW => exec_row 25 _ rfl gp rfl _ (run_loadVar_row _ _ _ 25 _ (0, 0) _ hW.1 Try.underlying25 rfl (by rw [hsize]; kernel_rfl))⟩) hS.out ?_
        simp only [List.getElem_toArray, List.getElem_cons_zero, List.getElem_cons_succ, Act.put, List.setIfInBounds_toArray, List.set_cons_zero, List.set_cons_succ]
        refine wpAnyH_take (i := 1) (v := .agg #[.int .i64 hd, .int .i64 pt]) rfl (by kernel_rfl) (by kernel_rfl) (by kernel_rfl) (fun _ _ _ h => h) (Or.inl ⟨by rfl, fun W hW => exec_row 39 _ rfl gs rfl _ (run_loadVar_row _ _ _ 39 _ (0, 0) _ hW.2 Try.underlying39 rfl (by kernel_rfl))⟩) hS.out ?_
        simp only [List.getElem_toArray, List.getElem_cons_zero, List.getElem_cons_succ, Act.put, List.setIfInBounds_toArray, List.set_cons_zero, List.set_cons_succ]
        refine wpAnyH_ready (rs := [2]) (by kernel_rfl) (by simp) (AllReadyH.cons rfl (fun K hK => ?_) AllReadyH.nil)
        rw [if_pos (by rfl)]
        refine wp_store_row 25 _ _ rfl w.heap.size rfl PC rfl _ _ (K0.out.at 0 rfl) (by rw [hsize]; rfl) (by rw [hsize]; kernel_rfl) hone ?_
        intro W7 hb7 hbar7
        have K1 := Lib.hid ((K0.out.bar0 hbar7 hb7 (Nat.le_refl _) (by simp)).sub (l' := [(w.heap.size + 1, 39, z39), (w.heap.size, 25, PC)]) (by simp))
        refine hK.out _ _ ⟨hS.out.1.bar hbar7 hgp0, hS.out.2.bar hbar7 hgs0⟩ (fun hS2 => ?_)
        clear hK hS hb7 hbar7 K0
        simp only [List.getElem_toArray, List.getElem_cons_zero, List.getElem_cons_succ, Act.put, List.setIfInBounds_toArray, List.set_cons_zero, List.set_cons_succ]
        refine wpAnyH_ready (rs := [3]) (by kernel_rfl) (by simp) (AllReadyH.cons rfl (fun K' hK => ?_) AllReadyH.nil)
        rw [if_pos (by rfl)]
        refine wp_store_row 39 _ _ rfl (w.heap.size + 1) rfl #[.int .i64 hd, .int .i64 pt] rfl _ _ (K1.out.at 0 rfl) rfl (by kernel_rfl) (by intro u hu; simp at hu; rcases hu with rfl | rfl <;> rfl) ?_
        intro W8 hb8 hbar8
        have K2 := K1.out.bar0 hbar8 hb8 (by omega) (by simp)
        refine hK.out _ _ ⟨hS2.1.bar hbar8 hgp1, hS2.2.bar hbar8 hgs1⟩ (fun hS3 => ?_)
        clear hK hS2 hS3 hb8 hbar8 K1
        refine wpAnyH_done (by kernel_rfl) ?_ _
        refine NoPanic.normal ?_
        go_wp2_with fail
        rw [HPC.out] at K2
        refine bodyPost_ret (v := .tuple #[.agg (pktC ⟨n1, n2, vl, ty, sr, ds, lf, pr, sp, dp, data⟩), .agg #[.int .i64 hd, .int .i64 pt]]) (results_row_row rfl _ _ w.heap.size (w.heap.size + 1) _ _ _ _ _ _ rfl rfl (K2.at 1 rfl) (K2.at 0 rfl) Try.underlying25 rfl (by kernel_rfl) Try.underlying39 rfl (by kernel_rfl)) rfl ⟨?_, K2.below⟩
        rw [HS.out]
end Go.Proofs.Ythihncfmimkimaa
