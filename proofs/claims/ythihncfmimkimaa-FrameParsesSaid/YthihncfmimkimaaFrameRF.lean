/- The walk of the reference's seems. -/
import Derived.Test.YthihncfmimkimaaFrameRE
import Derived.Test.YthihncfmimkimaaHeldRow
import Derived.Deep.DeepCutAuto
namespace Go.Proofs.Ythihncfmimkimaa
open Go.RowKit
set_option linter.unusedVariables false
set_option linter.unusedSimpArgs false

theorem atc (W : World) (l : List UInt8) (i n : Nat) (I M : Int) (hI : I = i) (hM : M = n) (hi : i + n ≤ 64) (hl : l.length ≤ 1000000) :
    Calls Try.prog 41 #[.string (str l), .int .i64 I, .int .i64 M] W fun x w' => x = .returned (.string (str (atL l i n))) ∧ Below W.heap.size W w' := by
  subst hI hM; exact at_any W l i n hi hl
theorem numc (W : World) (l : List UInt8) (hl : l.length ≤ 8) : Calls Try.prog 40 #[.string (str l)] W fun x w' => x = .returned (.int .u64 (numG l)) ∧ W = w' := r3Num_any W l (by omega)
theorem behc (W : World) (l : List UInt8) (i : Nat) (I : Int) (hI : I = i) (hi : i ≤ 1000) (hl : l.length ≤ 1000000) :
    Calls Try.prog 42 #[.string (str l), .int .i64 I] W fun x w' => x = .returned (.string (str (l.drop i))) ∧ W = w' := by
  subst hI; exact behind_any W l i hi hl
theorem results_row_tmp2 {P : Program} {fn : Func} {p u v : Tmp} {ty : TypeId} (h : fn.results = #[.cell p ty, .tmp u, .tmp v]) (tmps : Array Value) (w : World) (g : Nat) (t : TypeId) (cs : Array Value) (d : TypeDesc)
    (hp : tmps.getD p undef = .pointer (some ⟨g, 0, none⟩)) (hg : BlkAt w g t cs)
    (hu : P.underlying ty = some d) (hd : (match d with | .struct _ | .array _ _ => true | _ => false) = true) (hi : (P.info? ty).map (·.size) = some cs.size) :
    (results fn tmps).run P w = .ok (.tuple #[.agg cs, tmps.getD u undef, tmps.getD v undef]) w := by
  have hp' : tmps[p]?.getD undef = .pointer (some ⟨g, 0, none⟩) := by simpa using hp
  simp only [results, h]
  simp [Sem.run_bind, hp', asAddr, run_loadVar_row w g t ty cs (0, 0) d hg hu hd hi, Result.andThen]
def z25 : Pkt := ⟨0, 0, 0, 0, 0, 0, 0, 0, 0, 0, ⟨#[]⟩⟩
theorem one25r (p : Pkt) : ∀ v ∈ (pktC p).toList, v.oneCell' = true := by
  intro u hu; simp [pktC] at hu; rcases hu with rfl | rfl | rfl | rfl | rfl | rfl | rfl | rfl | rfl | rfl | rfl <;> rfl
theorem i64_id' {n : Int} (h0 : -9223372036854775808 ≤ n) (h1 : n ≤ 9223372036854775807) : IntKind.i64.wrap n = n := by
  simp [IntKind.wrap, IntKind.bits, IntKind.signed]; split <;> omega
theorem u32_id' {n : Int} (h0 : 0 ≤ n) (h1 : n ≤ 4294967295) : IntKind.u32.wrap n = n := by
  have : IntKind.u32.wrap n = n % 4294967296 := by simp [IntKind.wrap, IntKind.bits, IntKind.signed]
  omega
theorem numG_at1 (l : List UInt8) (i : Nat) : 0 ≤ numG (atL l i 1) ∧ numG (atL l i 1) ≤ 255 := by have := numG_at l i 1 (by decide); simp at this; omega
theorem numG_at2 (l : List UInt8) (i : Nat) : 0 ≤ numG (atL l i 2) ∧ numG (atL l i 2) ≤ 65535 := by have := numG_at l i 2 (by decide); simp at this; omega
theorem numG_at4 (l : List UInt8) (i : Nat) : 0 ≤ numG (atL l i 4) ∧ numG (atL l i 4) ≤ 4294967295 := by have := numG_at l i 4 (by decide); simp at this; omega

set_option maxRecDepth 100000 in
set_option maxHeartbeats 16000000 in
theorem rseems_any (w : World) (l : List UInt8) (hl : l.length ≤ 1000000) :
    Calls Try.prog 22 #[.string (str l)] w fun x w' => x = .returned (.tuple #[.agg (pktC (seemsR l).1), .int .i64 (seemsR l).2.1, .int .i64 (seemsR l).2.2]) ∧ Below w.heap.size w w' := by
  have HNum := Lib.hid (fun W i n (h : n ≤ 8) => numc W (atL l i n) (Nat.le_trans (atL_len l i n) h))
  have HAt := Lib.hid (fun W i n I M hI hM hi => atc W l i n I M hI hM hi hl)
  have HBe := Lib.hid (fun W i I hI hi => behc W l i I hI hi hl)
  have HS : Hid (seemsR l = seemsR l) := Lib.hid rfl
  conv at HS => arg 1; rhs; unfold seemsR
  dsimp only at HS
  have HTg : Hid (rTag l = decide (atL l 12 2 = [129, 0])) := Lib.hid rfl
  have HAtt : Hid (rAt l = if rTag l then 16 else 12) := Lib.hid rfl
  have HVl : Hid (rVlan l = if rTag l then 4096 + numG (atL l 14 2) else 0) := Lib.hid rfl
  have HTy : Hid (rType l = numG (atL l (rAt l) 2)) := Lib.hid rfl
  have hra : rAt l ≤ 16 := by rw [HAtt.out]; split <;> omega

  go_enter Try.func22, Try.ntmps22
  go_upto_region 2 with fail
  refine two_boxes_wp ?_
  intro W hb1 hb2 hbel hsz
  have K : Hid (KR w.heap.size w [(w.heap.size + 1, 25, pktC ⟨0, 0, 0, 0, 0, 0, 0, 0, 0, 0, ⟨#[]⟩⟩), (w.heap.size, 25, pktC z25)] W) := Lib.hid ((((KR.start hbel hbel.size).add hb2).add hb1).sub (by simp [pktC, z25]))
  clear hb1 hb2 hbel hsz
  go_wp2_with fail
  refine (HAt.out _ (0) 6 (0) 6 (by omega) rfl (by omega)).mono ?_
  rintro x wa ⟨rfl, ba⟩
  replace K := Lib.hid (K.out.call ba)
  clear ba
  go_wp2_with fail
  refine (HNum.out _ (0) 6 (by decide)).mono ?_
  rintro x wb ⟨rfl, rfl⟩
  have qb := numG_at l (0) 6 (by decide)
  have cj := (K.out.at 0 rfl).cell 0 _ (pktC_0 _)
  have fj := (K.out.at 0 rfl).frozen 0
  go_upto_region 3 with fail
  clear cj fj qb
  replace K : Hid (KR w.heap.size w [(w.heap.size + 1, 25, pktC ⟨(numG (atL l (0) 6)), 0, 0, 0, 0, 0, 0, 0, 0, 0, ⟨#[]⟩⟩), (w.heap.size, 25, pktC z25)] (wa.setCell ⟨w.heap.size + 1, 0, none⟩ (.int .u64 (numG (atL l (0) 6))))) := Lib.hid (K.out.set0 0 _ (by omega) (by simp))
  generalize wa.setCell ⟨w.heap.size + 1, 0, none⟩ (.int .u64 (numG (atL l (0) 6))) = wa at *
  go_wp2_with fail
  refine (HAt.out _ (6) 6 (6) 6 (by omega) rfl (by omega)).mono ?_
  rintro x wa ⟨rfl, ba⟩
  replace K := Lib.hid (K.out.call ba)
  clear ba
  go_wp2_with fail
  refine (HNum.out _ (6) 6 (by decide)).mono ?_
  rintro x wb ⟨rfl, rfl⟩
  have qb := numG_at l (6) 6 (by decide)
  have cj := (K.out.at 0 rfl).cell 1 _ (pktC_1 _)
  have fj := (K.out.at 0 rfl).frozen 1
  go_upto_region 4 with fail
  clear cj fj qb
  replace K : Hid (KR w.heap.size w [(w.heap.size + 1, 25, pktC ⟨(numG (atL l (0) 6)), (numG (atL l (6) 6)), 0, 0, 0, 0, 0, 0, 0, 0, ⟨#[]⟩⟩), (w.heap.size, 25, pktC z25)] (wa.setCell ⟨w.heap.size + 1, 1, none⟩ (.int .u64 (numG (atL l (6) 6))))) := Lib.hid (K.out.set0 1 _ (by omega) (by simp))
  generalize wa.setCell ⟨w.heap.size + 1, 1, none⟩ (.int .u64 (numG (atL l (6) 6))) = wa at *
  have e0 : (⟨#[129, 0]⟩ : ByteArray) = str [129, 0] := rfl
  go_wp2_with fail
  refine (HAt.out _ 12 2 12 2 rfl rfl (by omega)).mono ?_
  rintro x wa ⟨rfl, ba⟩
  replace K := Lib.hid (K.out.call ba)
  clear ba
  go_upto_if 18 with fail
  clear e0
  go_cut [6] from 8 (fun s6 wx => s6 = .int .i64 (rAt l : Int) ∧ Hid (KR w.heap.size w [(w.heap.size + 1, 25, pktC ⟨(numG (atL l (0) 6)), (numG (atL l (6) 6)), rVlan l, 0, 0, 0, 0, 0, 0, 0, ⟨#[]⟩⟩), (w.heap.size, 25, pktC z25)] wx))
  case first =>
    by_cases ht : atL l 12 2 = [129, 0]
    · have t1 : (atL l 12 2 == [129, 0]) = true := by simpa using ht
      rw [t1]
      have r1 : rTag l = true := by rw [HTg.out]; simpa using ht
      go_wp2_with fail
      refine (HAt.out _ (14) 2 (14) 2 (by omega) rfl (by omega)).mono ?_
      rintro x wa ⟨rfl, ba⟩
      replace K := Lib.hid (K.out.call ba)
      clear ba
      go_wp2_with fail
      refine (HNum.out _ (14) 2 (by decide)).mono ?_
      rintro x wb ⟨rfl, rfl⟩
      have qb := numG_at2 l (14)
      have cj := (K.out.at 0 rfl).cell 2 _ (pktC_2 _)
      have fj := (K.out.at 0 rfl).frozen 2
      go_upto_region 7 with fail
      clear cj fj qb
      replace K : Hid (KR w.heap.size w [(w.heap.size + 1, 25, pktC ⟨(numG (atL l (0) 6)), (numG (atL l (6) 6)), (4096 + numG (atL l 14 2)), 0, 0, 0, 0, 0, 0, 0, ⟨#[]⟩⟩), (w.heap.size, 25, pktC z25)] (wa.setCell ⟨w.heap.size + 1, 2, none⟩ (.int .i64 (4096 + numG (atL l 14 2))))) := Lib.hid (K.out.set0 2 _ (by omega) (by simp))
      generalize wa.setCell ⟨w.heap.size + 1, 2, none⟩ (.int .i64 (4096 + numG (atL l 14 2))) = wa at *
      go_wp2_with fail
      go_meet
      case rel =>
        refine ⟨by rw [HAtt.out, r1]; rfl, Lib.hid ?_⟩
        rw [HVl.out, r1]
        exact K.out
    · have t1 : (atL l 12 2 == [129, 0]) = false := by simpa using ht
      rw [t1]
      have r1 : rTag l = false := by rw [HTg.out]; simpa using ht
      go_wp2_with fail
      go_meet
      case rel =>
        refine ⟨by rw [HAtt.out, r1]; rfl, Lib.hid ?_⟩
        rw [HVl.out, r1]
        exact K.out
  case rest =>
    clear K
    obtain ⟨rfl, K⟩ := hcut
    clear HTg HAtt HVl
    go_wp2_with fail
    refine (HAt.out _ (rAt l) 2 ((rAt l : Int)) 2 (by omega) rfl (by omega)).mono ?_
    rintro x wa ⟨rfl, ba⟩
    replace K := Lib.hid (K.out.call ba)
    clear ba
    go_wp2_with fail
    refine (HNum.out _ (rAt l) 2 (by decide)).mono ?_
    rintro x wb ⟨rfl, rfl⟩
    have qb := numG_at2 l (rAt l)
    have cj := (K.out.at 0 rfl).cell 3 _ (pktC_3 _)
    have fj := (K.out.at 0 rfl).frozen 3
    go_upto_region 9 with fail
    clear cj fj qb
    replace K : Hid (KR w.heap.size w [(w.heap.size + 1, 25, pktC ⟨(numG (atL l (0) 6)), (numG (atL l (6) 6)), rVlan l, (numG (atL l (rAt l) 2)), 0, 0, 0, 0, 0, 0, ⟨#[]⟩⟩), (w.heap.size, 25, pktC z25)] (wa.setCell ⟨w.heap.size + 1, 3, none⟩ (.int .i64 (numG (atL l (rAt l) 2))))) := Lib.hid (K.out.set0 3 _ (by omega) (by simp))
    generalize wa.setCell ⟨w.heap.size + 1, 3, none⟩ (.int .i64 (numG (atL l (rAt l) 2))) = wa at *
    rw [← HTy.out] at K
    generalize rType l = ty at *
    obtain ⟨i, hi⟩ : ∃ i, i = rAt l + 2 := ⟨_, rfl⟩
    rw [← hi] at HS
    have hi18 : i ≤ 18 := by omega
    have hie : ((rAt l : Nat) : Int) + 2 = (i : Int) := by omega
    clear hi HTy hra
    generalize rAt l = ra at *
    have cj := (K.out.at 0 rfl).cell 3 _ (pktC_3 _)
    go_upto_if 35 with fail
    clear cj hie
    generalize rVlan l = vl at *
    generalize numG (atL l 0 6) = n1 at *
    generalize numG (atL l 6 6) = n2 at *
    by_cases ht : ty = 2048
    rotate_left
    · have t2 : (ty != 2048) = true := by simpa using ht
      rw [t2]
      have HS1 := HS.out
      rw [if_pos (by simpa using ht)] at HS1
      replace HS := Lib.hid HS1
      clear HS1 ht
      go_wp2_with fail
      refine (HBe.out _ (i) ((i : Int)) (by omega) (by omega)).mono ?_
      rintro x wb ⟨rfl, rfl⟩
      have cj := (K.out.at 0 rfl).cell 10 _ (pktC_10 _)
      have fj := (K.out.at 0 rfl).frozen 10
      go_upto_region 12 with fail
      clear cj fj
      have KB := K.out.set0 10 (.string (str (l.drop (i)))) (by omega) (by simp)
      replace K : Hid (KR w.heap.size w [(w.heap.size + 1, 25, pktC ⟨n1, n2, vl, ty, 0, 0, 0, 0, 0, 0, str (l.drop (i))⟩), (w.heap.size, 25, pktC z25)] _) := Lib.hid KB
      clear KB
      generalize World.setCell _ _ _ = wa at *
      have oneP := one25r ⟨n1, n2, vl, ty, 0, 0, 0, 0, 0, 0, str (l.drop (i))⟩
      go_wp2_with (first
        | (refine wpList_row 25 _ rfl (by rfl) _ _ rfl _ (run_loadVar_row _ _ _ 25 _ (0, 0) _ (K.out.at 0 rfl) Try.underlying25 rfl (by kernel_rfl)) ?_)
        | (refine wpList_store_row rfl 25 _ _ rfl _ rfl (pktC ⟨n1, n2, vl, ty, 0, 0, 0, 0, 0, 0, str (l.drop (i))⟩) rfl _ _ (K.out.at 1 rfl) rfl (by kernel_rfl) oneP ?_)
        | fail)
      intro W7 hb7 hbar7
      have KE := (K.out.sub (l' := [(w.heap.size, 25, pktC z25), (w.heap.size + 1, 25, pktC ⟨n1, n2, vl, ty, 0, 0, 0, 0, 0, 0, str (l.drop (i))⟩)]) (by simp)).bar0 hbar7 hb7 (by omega) (by simp)
      clear hb7 hbar7
      go_wp2_with fail
      refine bodyPost_ret (v := .tuple #[.agg (pktC ⟨n1, n2, vl, ty, 0, 0, 0, 0, 0, 0, str (l.drop (i))⟩), .int .i64 (0), .int .i64 (0)]) ?_ rfl ⟨?_, KE.below⟩
      · exact results_row_tmp2 (p := 2) (u := 3) (v := 4) rfl _ _ w.heap.size _ _ _ rfl (KE.at 0 rfl) Try.underlying25 rfl (by kernel_rfl)
      · rw [HS.out]
    have t2 : (ty != 2048) = false := by simpa using ht
    rw [t2]
    have HS1 := HS.out
    rw [if_neg (by simpa using ht)] at HS1
    replace HS := Lib.hid HS1
    clear HS1 ht
    go_wp2_with fail
    refine (HAt.out _ (i + 8) 1 ((i : Int) + 8) 1 (by omega) rfl (by omega)).mono ?_
    rintro x wa ⟨rfl, ba⟩
    replace K := Lib.hid (K.out.call ba)
    clear ba
    go_wp2_with fail
    refine (HNum.out _ (i + 8) 1 (by decide)).mono ?_
    rintro x wb ⟨rfl, rfl⟩
    have qb := numG_at1 l (i + 8)
    have cj := (K.out.at 0 rfl).cell 6 _ (pktC_6 _)
    have fj := (K.out.at 0 rfl).frozen 6
    go_upto_region 14 with fail
    clear cj fj qb
    replace K : Hid (KR w.heap.size w [(w.heap.size + 1, 25, pktC ⟨n1, n2, vl, ty, 0, 0, (numG (atL l (i + 8) 1)), 0, 0, 0, ⟨#[]⟩⟩), (w.heap.size, 25, pktC z25)] (wa.setCell ⟨w.heap.size + 1, 6, none⟩ (.int .i64 (numG (atL l (i + 8) 1))))) := Lib.hid (K.out.set0 6 _ (by omega) (by simp))
    generalize wa.setCell ⟨w.heap.size + 1, 6, none⟩ (.int .i64 (numG (atL l (i + 8) 1))) = wa at *
    go_wp2_with fail
    refine (HAt.out _ (i + 9) 1 ((i : Int) + 9) 1 (by omega) rfl (by omega)).mono ?_
    rintro x wa ⟨rfl, ba⟩
    replace K := Lib.hid (K.out.call ba)
    clear ba
    go_wp2_with fail
    refine (HNum.out _ (i + 9) 1 (by decide)).mono ?_
    rintro x wb ⟨rfl, rfl⟩
    have qb := numG_at1 l (i + 9)
    have cj := (K.out.at 0 rfl).cell 7 _ (pktC_7 _)
    have fj := (K.out.at 0 rfl).frozen 7
    go_upto_region 15 with fail
    clear cj fj qb
    replace K : Hid (KR w.heap.size w [(w.heap.size + 1, 25, pktC ⟨n1, n2, vl, ty, 0, 0, (numG (atL l (i + 8) 1)), (numG (atL l (i + 9) 1)), 0, 0, ⟨#[]⟩⟩), (w.heap.size, 25, pktC z25)] (wa.setCell ⟨w.heap.size + 1, 7, none⟩ (.int .i64 (numG (atL l (i + 9) 1))))) := Lib.hid (K.out.set0 7 _ (by omega) (by simp))
    generalize wa.setCell ⟨w.heap.size + 1, 7, none⟩ (.int .i64 (numG (atL l (i + 9) 1))) = wa at *
    go_wp2_with fail
    refine (HAt.out _ (i + 10) 2 ((i : Int) + 10) 2 (by omega) rfl (by omega)).mono ?_
    rintro x wa ⟨rfl, ba⟩
    replace K := Lib.hid (K.out.call ba)
    clear ba
    go_wp2_with fail
    refine (HNum.out _ (i + 10) 2 (by decide)).mono ?_
    rintro x wb ⟨rfl, rfl⟩
    have qb := numG_at2 l (i + 10)
    go_upto_region 16 with fail
    clear qb
    go_wp2_with fail
    refine (HAt.out _ (i + 12) 4 ((i : Int) + 12) 4 (by omega) rfl (by omega)).mono ?_
    rintro x wa ⟨rfl, ba⟩
    replace K := Lib.hid (K.out.call ba)
    clear ba
    go_wp2_with fail
    refine (HNum.out _ (i + 12) 4 (by decide)).mono ?_
    rintro x wb ⟨rfl, rfl⟩
    have qb := numG_at4 l (i + 12)
    have cj := (K.out.at 0 rfl).cell 4 _ (pktC_4 _)
    have fj := (K.out.at 0 rfl).frozen 4
    have qc := u32_id' qb.1 qb.2
    go_upto_region 17 with fail
    clear cj fj qb qc
    replace K : Hid (KR w.heap.size w [(w.heap.size + 1, 25, pktC ⟨n1, n2, vl, ty, (numG (atL l (i + 12) 4)), 0, (numG (atL l (i + 8) 1)), (numG (atL l (i + 9) 1)), 0, 0, ⟨#[]⟩⟩), (w.heap.size, 25, pktC z25)] (wa.setCell ⟨w.heap.size + 1, 4, none⟩ (.int .u32 (numG (atL l (i + 12) 4))))) := Lib.hid (K.out.set0 4 _ (by omega) (by simp))
    generalize wa.setCell ⟨w.heap.size + 1, 4, none⟩ (.int .u32 (numG (atL l (i + 12) 4))) = wa at *
    go_wp2_with fail
    refine (HAt.out _ (i + 16) 4 ((i : Int) + 16) 4 (by omega) rfl (by omega)).mono ?_
    rintro x wa ⟨rfl, ba⟩
    replace K := Lib.hid (K.out.call ba)
    clear ba
    go_wp2_with fail
    refine (HNum.out _ (i + 16) 4 (by decide)).mono ?_
    rintro x wb ⟨rfl, rfl⟩
    have qb := numG_at4 l (i + 16)
    have cj := (K.out.at 0 rfl).cell 5 _ (pktC_5 _)
    have fj := (K.out.at 0 rfl).frozen 5
    have qc := u32_id' qb.1 qb.2
    go_upto_region 18 with fail
    clear cj fj qb qc
    replace K : Hid (KR w.heap.size w [(w.heap.size + 1, 25, pktC ⟨n1, n2, vl, ty, (numG (atL l (i + 12) 4)), (numG (atL l (i + 16) 4)), (numG (atL l (i + 8) 1)), (numG (atL l (i + 9) 1)), 0, 0, ⟨#[]⟩⟩), (w.heap.size, 25, pktC z25)] (wa.setCell ⟨w.heap.size + 1, 5, none⟩ (.int .u32 (numG (atL l (i + 16) 4))))) := Lib.hid (K.out.set0 5 _ (by omega) (by simp))
    generalize wa.setCell ⟨w.heap.size + 1, 5, none⟩ (.int .u32 (numG (atL l (i + 16) 4))) = wa at *
    generalize numG (atL l (i + 8) 1) = lf at *
    generalize numG (atL l (i + 9) 1) = pr at *
    generalize numG (atL l (i + 10) 2) = hd at *
    generalize numG (atL l (i + 12) 4) = sr at *
    generalize numG (atL l (i + 16) 4) = ds at *
    have HP := Lib.hid (fun W => rported_any W ⟨n1, n2, vl, ty, sr, ds, lf, pr, 0, 0, ⟨#[]⟩⟩)
    go_wp2_with (first
      | (refine wpList_row 25 _ rfl (by rfl) _ _ rfl _ (run_loadVar_row _ _ _ 25 _ (0, 0) _ (K.out.at 0 rfl) Try.underlying25 rfl (by kernel_rfl)) ?_)
      | fail)
    refine (HP.out _).mono ?_
    rintro x w8 ⟨rfl, b8⟩
    replace K := Lib.hid (K.out.call b8)
    clear b8 HP
    have HPo : Hid (portedF ⟨n1, n2, vl, ty, sr, ds, lf, pr, 0, 0, ⟨#[]⟩⟩ = (pr == 6 || pr == 17)) := Lib.hid rfl
    generalize portedF ⟨n1, n2, vl, ty, sr, ds, lf, pr, 0, 0, ⟨#[]⟩⟩ = pb at *
    have hc : (∃ x : Unit, pb = false ∧ ¬ pr = 17 ∧ ¬ pr = 6) ∨ (∃ x : Unit, pb = true ∧ (pr == 17) = true ∧ pr = 17) ∨ (∃ x : Unit, pb = true ∧ (pr == 17) = false ∧ ¬ pr = 17 ∧ pr = 6) := by
      rw [HPo.out]
      by_cases h1 : pr = 17
      · subst h1; exact .inr (.inl ⟨(), rfl, rfl, rfl⟩)
      · by_cases h2 : pr = 6
        · subst h2; exact .inr (.inr ⟨(), rfl, rfl, h1, rfl⟩)
        · exact .inl ⟨(), by simp [h1, h2], h1, h2⟩
    clear HPo t2
    rcases hc with ⟨_, rfl, hp, hq⟩ | ⟨_, rfl, t3, hp⟩ | ⟨_, rfl, t3, hp, hq⟩
    · have HS1 := HS.out
      rw [if_neg hp, if_neg hq] at HS1
      replace HS := Lib.hid HS1
      clear HS1 hp hq
      go_wp2_with fail
      refine (HBe.out _ (i + 20) ((i : Int) + 20) (by omega) (by omega)).mono ?_
      rintro x wb ⟨rfl, rfl⟩
      have cj := (K.out.at 0 rfl).cell 10 _ (pktC_10 _)
      have fj := (K.out.at 0 rfl).frozen 10
      go_upto_region 21 with fail
      clear cj fj
      have KB := K.out.set0 10 (.string (str (l.drop (i + 20)))) (by omega) (by simp)
      replace K : Hid (KR w.heap.size w [(w.heap.size + 1, 25, pktC ⟨n1, n2, vl, ty, sr, ds, lf, pr, 0, 0, str (l.drop (i + 20))⟩), (w.heap.size, 25, pktC z25)] _) := Lib.hid KB
      clear KB
      generalize World.setCell _ _ _ = wa at *
      have oneP := one25r ⟨n1, n2, vl, ty, sr, ds, lf, pr, 0, 0, str (l.drop (i + 20))⟩
      go_wp2_with (first
        | (refine wpList_row 25 _ rfl (by rfl) _ _ rfl _ (run_loadVar_row _ _ _ 25 _ (0, 0) _ (K.out.at 0 rfl) Try.underlying25 rfl (by kernel_rfl)) ?_)
        | (refine wpList_store_row rfl 25 _ _ rfl _ rfl (pktC ⟨n1, n2, vl, ty, sr, ds, lf, pr, 0, 0, str (l.drop (i + 20))⟩) rfl _ _ (K.out.at 1 rfl) rfl (by kernel_rfl) oneP ?_)
        | fail)
      intro W7 hb7 hbar7
      have KE := (K.out.sub (l' := [(w.heap.size, 25, pktC z25), (w.heap.size + 1, 25, pktC ⟨n1, n2, vl, ty, sr, ds, lf, pr, 0, 0, str (l.drop (i + 20))⟩)]) (by simp)).bar0 hbar7 hb7 (by omega) (by simp)
      clear hb7 hbar7
      go_wp2_with fail
      refine bodyPost_ret (v := .tuple #[.agg (pktC ⟨n1, n2, vl, ty, sr, ds, lf, pr, 0, 0, str (l.drop (i + 20))⟩), .int .i64 (hd), .int .i64 (0)]) ?_ rfl ⟨?_, KE.below⟩
      · exact results_row_tmp2 (p := 2) (u := 3) (v := 4) rfl _ _ w.heap.size _ _ _ rfl (KE.at 0 rfl) Try.underlying25 rfl (by kernel_rfl)
      · rw [HS.out]
    · have HS1 := HS.out
      rw [if_pos hp] at HS1
      replace HS := Lib.hid HS1
      clear HS1 hp
      go_wp2_with fail
      refine (HAt.out _ (i + 20) 2 ((i : Int) + 20) 2 (by omega) rfl (by omega)).mono ?_
      rintro x wa ⟨rfl, ba⟩
      replace K := Lib.hid (K.out.call ba)
      clear ba
      go_wp2_with fail
      refine (HNum.out _ (i + 20) 2 (by decide)).mono ?_
      rintro x wb ⟨rfl, rfl⟩
      have qb := numG_at2 l (i + 20)
      have cj := (K.out.at 0 rfl).cell 8 _ (pktC_8 _)
      have fj := (K.out.at 0 rfl).frozen 8
      go_upto_region 23 with fail
      clear cj fj qb
      replace K : Hid (KR w.heap.size w [(w.heap.size + 1, 25, pktC ⟨n1, n2, vl, ty, sr, ds, lf, pr, (numG (atL l (i + 20) 2)), 0, ⟨#[]⟩⟩), (w.heap.size, 25, pktC z25)] (wa.setCell ⟨w.heap.size + 1, 8, none⟩ (.int .i64 (numG (atL l (i + 20) 2))))) := Lib.hid (K.out.set0 8 _ (by omega) (by simp))
      generalize wa.setCell ⟨w.heap.size + 1, 8, none⟩ (.int .i64 (numG (atL l (i + 20) 2))) = wa at *
      go_wp2_with fail
      refine (HAt.out _ (i + 22) 2 ((i : Int) + 20 + 2) 2 (by omega) rfl (by omega)).mono ?_
      rintro x wa ⟨rfl, ba⟩
      replace K := Lib.hid (K.out.call ba)
      clear ba
      go_wp2_with fail
      refine (HNum.out _ (i + 22) 2 (by decide)).mono ?_
      rintro x wb ⟨rfl, rfl⟩
      have qb := numG_at2 l (i + 22)
      have cj := (K.out.at 0 rfl).cell 9 _ (pktC_9 _)
      have fj := (K.out.at 0 rfl).frozen 9
      go_upto_region 24 with fail
      clear cj fj qb
      replace K : Hid (KR w.heap.size w [(w.heap.size + 1, 25, pktC ⟨n1, n2, vl, ty, sr, ds, lf, pr, (numG (atL l (i + 20) 2)), (numG (atL l (i + 22) 2)), ⟨#[]⟩⟩), (w.heap.size, 25, pktC z25)] (wa.setCell ⟨w.heap.size + 1, 9, none⟩ (.int .i64 (numG (atL l (i + 22) 2))))) := Lib.hid (K.out.set0 9 _ (by omega) (by simp))
      generalize wa.setCell ⟨w.heap.size + 1, 9, none⟩ (.int .i64 (numG (atL l (i + 22) 2))) = wa at *
      have cp := (K.out.at 0 rfl).cell 7 _ (pktC_7 _)
      go_wp2_with fail
      refine (HBe.out _ (i + 28) ((i : Int) + 20 + 8) (by omega) (by omega)).mono ?_
      rintro x wb ⟨rfl, rfl⟩
      have cj := (K.out.at 0 rfl).cell 10 _ (pktC_10 _)
      have fj := (K.out.at 0 rfl).frozen 10
      go_upto_region 26 with fail
      clear cj fj
      clear cp
      have KB := K.out.set0 10 (.string (str (l.drop (i + 28)))) (by omega) (by simp)
      replace K : Hid (KR w.heap.size w [(w.heap.size + 1, 25, pktC ⟨n1, n2, vl, ty, sr, ds, lf, pr, (numG (atL l (i + 20) 2)), (numG (atL l (i + 22) 2)), str (l.drop (i + 28))⟩), (w.heap.size, 25, pktC z25)] _) := Lib.hid KB
      clear KB
      generalize World.setCell _ _ _ = wa at *
      obtain ⟨PC, hPC⟩ : ∃ PC, PC = pktC ⟨n1, n2, vl, ty, sr, ds, lf, pr, (numG (atL l (i + 20) 2)), (numG (atL l (i + 22) 2)), str (l.drop (i + 28))⟩ := ⟨_, rfl⟩
      have hone : ∀ v ∈ PC.toList, v.oneCell' = true := by rw [hPC]; exact one25r _
      have hsize : PC.size = 11 := by rw [hPC]; rfl
      rw [← hPC] at K
      have HPC := Lib.hid hPC
      clear hPC
      have K0 : Hid (KR w.heap.size w [(w.heap.size, 25, pktC z25)] wa.drew) := Lib.hid ((K.out.sub (by simp)).drew)
      refine wp_region_noPanic ?_
      refine wp_region_held (S := fun w' => BlkAt w' (w.heap.size + 1) 25 PC) (by kernel_rfl) ?_
      change wpAnyH _ _ _ _ _ 11 #[false, false, false, false, false, false, false, false, false, false, false] _ (World.drew _)
      have hS := Lib.hid (K.out.at 0 rfl).drew
      clear K
      generalize wa.drew = Wd at *
      refine wpAnyH_take (i := 0) (v := .agg PC) rfl (by kernel_rfl) (by kernel_rfl) (by kernel_rfl) (fun _ _ _ h => h) (Or.inl ⟨by rfl, fun W hW => exec_row 25 _ rfl (w.heap.size + 1) rfl _ (run_loadVar_row _ _ _ 25 _ (0, 0) _ hW Try.underlying25 rfl (by rw [hsize]; kernel_rfl))⟩) hS.out ?_
      try simp only [List.getElem_toArray, List.getElem_cons_zero, List.getElem_cons_succ, Act.put, List.setIfInBounds_toArray, List.set_cons_zero, List.set_cons_succ]
      refine wpAnyH_take (i := 1) (v := ?_) rfl (by kernel_rfl) (by kernel_rfl) (by kernel_rfl) (fun _ _ _ h => h) (Or.inl ⟨by rfl, ?_⟩) hS.out ?_
      rotate_left
      · (intro w_ hSw; clear hSw; go_simp; try with_reducible rfl)
      try simp only [List.getElem_toArray, List.getElem_cons_zero, List.getElem_cons_succ, Act.put, List.setIfInBounds_toArray, List.set_cons_zero, List.set_cons_succ]
      refine wpAnyH_take (i := 2) (v := ?_) rfl (by kernel_rfl) (by kernel_rfl) (by kernel_rfl) (fun _ _ _ h => h) (Or.inl ⟨by rfl, ?_⟩) hS.out ?_
      rotate_left
      · (intro w_ hSw; clear hSw; go_simp; try with_reducible rfl)
      try simp only [List.getElem_toArray, List.getElem_cons_zero, List.getElem_cons_succ, Act.put, List.setIfInBounds_toArray, List.set_cons_zero, List.set_cons_succ]
      refine wpAnyH_take (i := 3) (v := ?_) rfl (by kernel_rfl) (by kernel_rfl) (by kernel_rfl) (fun _ _ _ h => h) (Or.inl ⟨by rfl, ?_⟩) hS.out ?_
      rotate_left
      · (intro w_ hSw; clear hSw; go_simp; try with_reducible rfl)
      try simp only [List.getElem_toArray, List.getElem_cons_zero, List.getElem_cons_succ, Act.put, List.setIfInBounds_toArray, List.set_cons_zero, List.set_cons_succ]
      refine wpAnyH_take (i := 4) (v := ?_) rfl (by kernel_rfl) (by kernel_rfl) (by kernel_rfl) (fun _ _ _ h => h) (Or.inl ⟨by rfl, ?_⟩) hS.out ?_
      rotate_left
      · (intro w_ hSw; clear hSw; go_simp; try with_reducible rfl)
      try simp only [List.getElem_toArray, List.getElem_cons_zero, List.getElem_cons_succ, Act.put, List.setIfInBounds_toArray, List.set_cons_zero, List.set_cons_succ]
      refine wpAnyH_ready (rs := [5]) (by kernel_rfl) (by simp) (AllReadyH.cons rfl (fun K hK => ?_) AllReadyH.nil)
      go_simp
      rw [i64_id' (by omega) (by omega)]
      refine (HAt.out _ (i + 26) 2 ((i : Int) + 20 + 6) 2 (by omega) rfl (by omega)).mono ?_
      rintro x wc' ⟨rfl, bc⟩
      replace hS := Lib.hid (hS.out.below bc hS.out.lt)
      replace K0 := Lib.hid (K0.out.call bc)
      go_wp2_with fail
      refine hK.out _ _ hS.out (fun hHeld => ?_)
      clear hK K hHeld bc
      try simp only [List.getElem_toArray, List.getElem_cons_zero, List.getElem_cons_succ, Act.put, List.setIfInBounds_toArray, List.set_cons_zero, List.set_cons_succ]
      refine wpAnyH_ready (rs := [6]) (by kernel_rfl) (by simp) (AllReadyH.cons rfl (fun K hK => ?_) AllReadyH.nil)
      go_simp
      refine (HNum.out _ (i + 26) 2 (by decide)).mono ?_
      rintro x wc'' ⟨rfl, rfl⟩
      go_wp2_with fail
      refine hK.out _ _ hS.out (fun hHeld => ?_)
      clear hK K hHeld
      have qb := numG_at2 l (i + 26)
      try simp only [List.getElem_toArray, List.getElem_cons_zero, List.getElem_cons_succ, Act.put, List.setIfInBounds_toArray, List.set_cons_zero, List.set_cons_succ]
      refine wpAnyH_take (i := 7) (v := ?_) rfl (by kernel_rfl) (by kernel_rfl) (by kernel_rfl) (fun _ _ _ h => h) (Or.inl ⟨by rfl, ?_⟩) hS.out ?_
      rotate_left
      · (intro w_ hSw; clear hSw; go_simp; try with_reducible rfl)
      try simp only [List.getElem_toArray, List.getElem_cons_zero, List.getElem_cons_succ, Act.put, List.setIfInBounds_toArray, List.set_cons_zero, List.set_cons_succ]
      try rw [i64_id' (n := numG (atL l (i + 26) 2)) (by omega) (by omega)]
      clear qb
      refine wpAnyH_ready (rs := [8]) (by kernel_rfl) (by simp) (AllReadyH.cons rfl (fun K hK => ?_) AllReadyH.nil)
      rw [if_pos (by rfl)]
      refine wp_store_row 25 _ _ rfl w.heap.size rfl PC rfl _ _ (K0.out.at 0 rfl) (by rw [hsize]; rfl) (by rw [hsize]; kernel_rfl) hone ?_
      intro W7 hb7 hbar7
      have KE := K0.out.bar0 hbar7 hb7 (Nat.le_refl _) (by simp)
      refine hK.out _ _ (hS.out.bar hbar7 (by omega)) (fun hS2 => ?_)
      clear hK hS hb7 hbar7 K0
      try simp only [List.getElem_toArray, List.getElem_cons_zero, List.getElem_cons_succ, Act.put, List.setIfInBounds_toArray, List.set_cons_zero, List.set_cons_succ]
      refine wpAnyH_ready (rs := [9]) (by kernel_rfl) (by simp) (AllReadyH.cons rfl (fun K' hK => ?_) AllReadyH.nil)
      go_simp
      refine hK.out _ _ hS2 (fun hS3 => ?_)
      clear hK
      try simp only [List.getElem_toArray, List.getElem_cons_zero, List.getElem_cons_succ, Act.put, List.setIfInBounds_toArray, List.set_cons_zero, List.set_cons_succ]
      refine wpAnyH_ready (rs := [10]) (by kernel_rfl) (by simp) (AllReadyH.cons rfl (fun K' hK => ?_) AllReadyH.nil)
      go_simp
      refine hK.out _ _ hS2 (fun hS3 => ?_)
      clear hK hS2
      try simp only [List.getElem_toArray, List.getElem_cons_zero, List.getElem_cons_succ, Act.put, List.setIfInBounds_toArray, List.set_cons_zero, List.set_cons_succ]
      refine wpAnyH_done (by kernel_rfl) ?_ _
      refine NoPanic.normal ?_
      go_wp2_with fail
      rw [HPC.out] at KE
      refine bodyPost_ret (v := .tuple #[.agg (pktC ⟨n1, n2, vl, ty, sr, ds, lf, pr, (numG (atL l (i + 20) 2)), (numG (atL l (i + 22) 2)), str (l.drop (i + 28))⟩), .int .i64 (hd), .int .i64 (numG (atL l (i + 26) 2))]) ?_ rfl ⟨?_, KE.below⟩
      · exact results_row_tmp2 (p := 2) (u := 3) (v := 4) rfl _ _ w.heap.size _ _ _ rfl (KE.at 0 rfl) Try.underlying25 rfl (by kernel_rfl)
      · rw [HS.out]
    · have HS1 := HS.out
      rw [if_neg hp, if_pos hq] at HS1
      replace HS := Lib.hid HS1
      clear HS1 hp hq
      go_wp2_with fail
      refine (HAt.out _ (i + 20) 2 ((i : Int) + 20) 2 (by omega) rfl (by omega)).mono ?_
      rintro x wa ⟨rfl, ba⟩
      replace K := Lib.hid (K.out.call ba)
      clear ba
      go_wp2_with fail
      refine (HNum.out _ (i + 20) 2 (by decide)).mono ?_
      rintro x wb ⟨rfl, rfl⟩
      have qb := numG_at2 l (i + 20)
      have cj := (K.out.at 0 rfl).cell 8 _ (pktC_8 _)
      have fj := (K.out.at 0 rfl).frozen 8
      go_upto_region 23 with fail
      clear cj fj qb
      replace K : Hid (KR w.heap.size w [(w.heap.size + 1, 25, pktC ⟨n1, n2, vl, ty, sr, ds, lf, pr, (numG (atL l (i + 20) 2)), 0, ⟨#[]⟩⟩), (w.heap.size, 25, pktC z25)] (wa.setCell ⟨w.heap.size + 1, 8, none⟩ (.int .i64 (numG (atL l (i + 20) 2))))) := Lib.hid (K.out.set0 8 _ (by omega) (by simp))
      generalize wa.setCell ⟨w.heap.size + 1, 8, none⟩ (.int .i64 (numG (atL l (i + 20) 2))) = wa at *
      go_wp2_with fail
      refine (HAt.out _ (i + 22) 2 ((i : Int) + 20 + 2) 2 (by omega) rfl (by omega)).mono ?_
      rintro x wa ⟨rfl, ba⟩
      replace K := Lib.hid (K.out.call ba)
      clear ba
      go_wp2_with fail
      refine (HNum.out _ (i + 22) 2 (by decide)).mono ?_
      rintro x wb ⟨rfl, rfl⟩
      have qb := numG_at2 l (i + 22)
      have cj := (K.out.at 0 rfl).cell 9 _ (pktC_9 _)
      have fj := (K.out.at 0 rfl).frozen 9
      go_upto_region 24 with fail
      clear cj fj qb
      replace K : Hid (KR w.heap.size w [(w.heap.size + 1, 25, pktC ⟨n1, n2, vl, ty, sr, ds, lf, pr, (numG (atL l (i + 20) 2)), (numG (atL l (i + 22) 2)), ⟨#[]⟩⟩), (w.heap.size, 25, pktC z25)] (wa.setCell ⟨w.heap.size + 1, 9, none⟩ (.int .i64 (numG (atL l (i + 22) 2))))) := Lib.hid (K.out.set0 9 _ (by omega) (by simp))
      generalize wa.setCell ⟨w.heap.size + 1, 9, none⟩ (.int .i64 (numG (atL l (i + 22) 2))) = wa at *
      have cp := (K.out.at 0 rfl).cell 7 _ (pktC_7 _)
      go_wp2_with fail
      refine (HBe.out _ (i + 40) ((i : Int) + 20 + 20) (by omega) (by omega)).mono ?_
      rintro x wb ⟨rfl, rfl⟩
      have cj := (K.out.at 0 rfl).cell 10 _ (pktC_10 _)
      have fj := (K.out.at 0 rfl).frozen 10
      go_upto_region 28 with fail
      clear cj fj
      clear cp
      have KB := K.out.set0 10 (.string (str (l.drop (i + 40)))) (by omega) (by simp)
      replace K : Hid (KR w.heap.size w [(w.heap.size + 1, 25, pktC ⟨n1, n2, vl, ty, sr, ds, lf, pr, (numG (atL l (i + 20) 2)), (numG (atL l (i + 22) 2)), str (l.drop (i + 40))⟩), (w.heap.size, 25, pktC z25)] _) := Lib.hid KB
      clear KB
      generalize World.setCell _ _ _ = wa at *
      obtain ⟨PC, hPC⟩ : ∃ PC, PC = pktC ⟨n1, n2, vl, ty, sr, ds, lf, pr, (numG (atL l (i + 20) 2)), (numG (atL l (i + 22) 2)), str (l.drop (i + 40))⟩ := ⟨_, rfl⟩
      have hone : ∀ v ∈ PC.toList, v.oneCell' = true := by rw [hPC]; exact one25r _
      have hsize : PC.size = 11 := by rw [hPC]; rfl
      rw [← hPC] at K
      have HPC := Lib.hid hPC
      clear hPC
      have K0 : Hid (KR w.heap.size w [(w.heap.size, 25, pktC z25)] wa.drew) := Lib.hid ((K.out.sub (by simp)).drew)
      refine wp_region_noPanic ?_
      refine wp_region_held (S := fun w' => BlkAt w' (w.heap.size + 1) 25 PC) (by kernel_rfl) ?_
      change wpAnyH _ _ _ _ _ 11 #[false, false, false, false, false, false, false, false, false, false, false] _ (World.drew _)
      have hS := Lib.hid (K.out.at 0 rfl).drew
      clear K
      generalize wa.drew = Wd at *
      refine wpAnyH_take (i := 0) (v := .agg PC) rfl (by kernel_rfl) (by kernel_rfl) (by kernel_rfl) (fun _ _ _ h => h) (Or.inl ⟨by rfl, fun W hW => exec_row 25 _ rfl (w.heap.size + 1) rfl _ (run_loadVar_row _ _ _ 25 _ (0, 0) _ hW Try.underlying25 rfl (by rw [hsize]; kernel_rfl))⟩) hS.out ?_
      try simp only [List.getElem_toArray, List.getElem_cons_zero, List.getElem_cons_succ, Act.put, List.setIfInBounds_toArray, List.set_cons_zero, List.set_cons_succ]
      refine wpAnyH_take (i := 1) (v := ?_) rfl (by kernel_rfl) (by kernel_rfl) (by kernel_rfl) (fun _ _ _ h => h) (Or.inl ⟨by rfl, ?_⟩) hS.out ?_
      rotate_left
      · (intro w_ hSw; clear hSw; go_simp; try with_reducible rfl)
      try simp only [List.getElem_toArray, List.getElem_cons_zero, List.getElem_cons_succ, Act.put, List.setIfInBounds_toArray, List.set_cons_zero, List.set_cons_succ]
      refine wpAnyH_take (i := 2) (v := ?_) rfl (by kernel_rfl) (by kernel_rfl) (by kernel_rfl) (fun _ _ _ h => h) (Or.inl ⟨by rfl, ?_⟩) hS.out ?_
      rotate_left
      · (intro w_ hSw; clear hSw; go_simp; try with_reducible rfl)
      try simp only [List.getElem_toArray, List.getElem_cons_zero, List.getElem_cons_succ, Act.put, List.setIfInBounds_toArray, List.set_cons_zero, List.set_cons_succ]
      refine wpAnyH_take (i := 3) (v := ?_) rfl (by kernel_rfl) (by kernel_rfl) (by kernel_rfl) (fun _ _ _ h => h) (Or.inl ⟨by rfl, ?_⟩) hS.out ?_
      rotate_left
      · (intro w_ hSw; clear hSw; go_simp; try with_reducible rfl)
      try simp only [List.getElem_toArray, List.getElem_cons_zero, List.getElem_cons_succ, Act.put, List.setIfInBounds_toArray, List.set_cons_zero, List.set_cons_succ]
      refine wpAnyH_take (i := 4) (v := ?_) rfl (by kernel_rfl) (by kernel_rfl) (by kernel_rfl) (fun _ _ _ h => h) (Or.inl ⟨by rfl, ?_⟩) hS.out ?_
      rotate_left
      · (intro w_ hSw; clear hSw; go_simp; try with_reducible rfl)
      try simp only [List.getElem_toArray, List.getElem_cons_zero, List.getElem_cons_succ, Act.put, List.setIfInBounds_toArray, List.set_cons_zero, List.set_cons_succ]
      refine wpAnyH_ready (rs := [5]) (by kernel_rfl) (by simp) (AllReadyH.cons rfl (fun K hK => ?_) AllReadyH.nil)
      go_simp
      rw [i64_id' (by omega) (by omega)]
      refine (HAt.out _ (i + 36) 2 ((i : Int) + 20 + 16) 2 (by omega) rfl (by omega)).mono ?_
      rintro x wc' ⟨rfl, bc⟩
      replace hS := Lib.hid (hS.out.below bc hS.out.lt)
      replace K0 := Lib.hid (K0.out.call bc)
      go_wp2_with fail
      refine hK.out _ _ hS.out (fun hHeld => ?_)
      clear hK K hHeld bc
      try simp only [List.getElem_toArray, List.getElem_cons_zero, List.getElem_cons_succ, Act.put, List.setIfInBounds_toArray, List.set_cons_zero, List.set_cons_succ]
      refine wpAnyH_ready (rs := [6]) (by kernel_rfl) (by simp) (AllReadyH.cons rfl (fun K hK => ?_) AllReadyH.nil)
      go_simp
      refine (HNum.out _ (i + 36) 2 (by decide)).mono ?_
      rintro x wc'' ⟨rfl, rfl⟩
      go_wp2_with fail
      refine hK.out _ _ hS.out (fun hHeld => ?_)
      clear hK K hHeld
      have qb := numG_at2 l (i + 36)
      try simp only [List.getElem_toArray, List.getElem_cons_zero, List.getElem_cons_succ, Act.put, List.setIfInBounds_toArray, List.set_cons_zero, List.set_cons_succ]
      refine wpAnyH_take (i := 7) (v := ?_) rfl (by kernel_rfl) (by kernel_rfl) (by kernel_rfl) (fun _ _ _ h => h) (Or.inl ⟨by rfl, ?_⟩) hS.out ?_
      rotate_left
      · (intro w_ hSw; clear hSw; go_simp; try with_reducible rfl)
      try simp only [List.getElem_toArray, List.getElem_cons_zero, List.getElem_cons_succ, Act.put, List.setIfInBounds_toArray, List.set_cons_zero, List.set_cons_succ]
      try rw [i64_id' (n := numG (atL l (i + 36) 2)) (by omega) (by omega)]
      clear qb
      refine wpAnyH_ready (rs := [8]) (by kernel_rfl) (by simp) (AllReadyH.cons rfl (fun K hK => ?_) AllReadyH.nil)
      rw [if_pos (by rfl)]
      refine wp_store_row 25 _ _ rfl w.heap.size rfl PC rfl _ _ (K0.out.at 0 rfl) (by rw [hsize]; rfl) (by rw [hsize]; kernel_rfl) hone ?_
      intro W7 hb7 hbar7
      have KE := K0.out.bar0 hbar7 hb7 (Nat.le_refl _) (by simp)
      refine hK.out _ _ (hS.out.bar hbar7 (by omega)) (fun hS2 => ?_)
      clear hK hS hb7 hbar7 K0
      try simp only [List.getElem_toArray, List.getElem_cons_zero, List.getElem_cons_succ, Act.put, List.setIfInBounds_toArray, List.set_cons_zero, List.set_cons_succ]
      refine wpAnyH_ready (rs := [9]) (by kernel_rfl) (by simp) (AllReadyH.cons rfl (fun K' hK => ?_) AllReadyH.nil)
      go_simp
      refine hK.out _ _ hS2 (fun hS3 => ?_)
      clear hK
      try simp only [List.getElem_toArray, List.getElem_cons_zero, List.getElem_cons_succ, Act.put, List.setIfInBounds_toArray, List.set_cons_zero, List.set_cons_succ]
      refine wpAnyH_ready (rs := [10]) (by kernel_rfl) (by simp) (AllReadyH.cons rfl (fun K' hK => ?_) AllReadyH.nil)
      go_simp
      refine hK.out _ _ hS2 (fun hS3 => ?_)
      clear hK hS2
      try simp only [List.getElem_toArray, List.getElem_cons_zero, List.getElem_cons_succ, Act.put, List.setIfInBounds_toArray, List.set_cons_zero, List.set_cons_succ]
      refine wpAnyH_done (by kernel_rfl) ?_ _
      refine NoPanic.normal ?_
      go_wp2_with fail
      rw [HPC.out] at KE
      refine bodyPost_ret (v := .tuple #[.agg (pktC ⟨n1, n2, vl, ty, sr, ds, lf, pr, (numG (atL l (i + 20) 2)), (numG (atL l (i + 22) 2)), str (l.drop (i + 40))⟩), .int .i64 (hd), .int .i64 (numG (atL l (i + 36) 2))]) ?_ rfl ⟨?_, KE.below⟩
      · exact results_row_tmp2 (p := 2) (u := 3) (v := 4) rfl _ _ w.heap.size _ _ _ rfl (KE.at 0 rfl) Try.underlying25 rfl (by kernel_rfl)
      · rw [HS.out]
end Go.Proofs.Ythihncfmimkimaa
