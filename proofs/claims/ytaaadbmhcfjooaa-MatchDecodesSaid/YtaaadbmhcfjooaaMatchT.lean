/- The walk of match.seems. -/
import Derived.Test.YtaaadbmhcfjooaaMatchS
import Derived.Deep.LoopGhost
namespace Go.Proofs.Ytaaadbmhcfjooaa
open Go.RowKit
set_option linter.unusedVariables false

theorem wrap_u64_id {v : Int} (h0 : 0 ≤ v) (h1 : v ≤ 18446744073709551615) : IntKind.u64.wrap v = v := by
  have : IntKind.u64.wrap v = v % 18446744073709551616 := by simp [IntKind.wrap, IntKind.bits, IntKind.signed]
  omega
theorem testInfo : (Try.prog.info? 48).map (fun i => (i.zero, i.size, i.bytes)) = some (some (.agg #[.int .i64 0, .int .u64 0, .int .u64 0]), 3, 24) := by kernel_rfl
theorem encTest_one' (x : Test) : ∀ u ∈ encTest x, u.oneCell' = true := encTest_one x trivial

theorem namedF_le (c : Int) : namedF c ≤ 9 := by
  unfold namedF
  split
  · rename_i i h
    have := List.mem_of_find?_eq_some h
    have := List.mem_range.1 this
    omega
  · omega
theorem or_U64 {a b : Int} (ha : U64 a) (hb : U64 b) : U64 (bits .or .u64 a b) := by
  obtain ⟨h1, h2⟩ := ha
  obtain ⟨h3, h4⟩ := hb
  rw [u64_or a b h1 (by omega) h3 (by omega)]
  have := Nat.or_lt_two_pow (n := 64) (x := a.toNat) (y := b.toNat) (by omega) (by omega)
  exact ⟨by omega, by omega⟩
theorem numG_U64 (l : List UInt8) : U64 (numG l) := by
  have gen : ∀ (l : List UInt8) (a : Int), U64 a → U64 (l.foldl (fun n b => Go.bits .or .u64 (IntKind.u64.wrap (n * 256)) (b.toNat : Int)) a) := by
    intro l
    induction l with
    | nil => intro a h; exact h
    | cons b l ih =>
      intro a h
      refine ih _ (or_U64 ?_ ?_)
      · have := u64_wrap_range (a * 256)
        exact ⟨this.1, by omega⟩
      · have := b.toNat_lt
        exact ⟨by omega, by omega⟩
  exact gen l 0 ⟨by decide, by decide⟩
theorem SR.numB {B : Nat} {w W : World} {g : Nat} {s : ByteArray} {e : Int} {v : Value} {acc : List Test} (h : SR B w g s e v acc W) (n : Int) : Calls Try.prog 65 #[.pointer (some ⟨g, 0, none⟩), .int .i64 n] W fun x w' =>
    x = .returned (.int .u64 (numG (rdN n s e).1.data.toList)) ∧ SR B w g (rdN n s e).2.1 (rdN n s e).2.2 v acc w' ∧ Bar g W w' :=
  (Num_any W g s e n h.1 h.2.2.2.2.2).mono fun x w' ⟨h1, h2, h3⟩ => ⟨h1, h.bar h2 h3 (takeR_rest _ _ _ _), h3⟩
theorem SR.append {B : Nat} {w W W' : World} {g : Nat} {s : ByteArray} {e : Int} {v v' : Value} {acc : List Test} {t : Test} (h : SR B w g s e v acc W) (ho : OwnL W' B 48 3 encTest v' (acc ++ [t])) (hg : W.grownBy W' v.ownBlock) :
    SR B w g s e v' (acc ++ [t]) W' := by
  refine ⟨?_, ho, h.2.2.1, below_grown h.2.2.2.1 hg h.2.2.2.2.1 h.2.1, Nat.le_trans h.2.2.2.2.1 hg.size, h.2.2.2.2.2⟩
  have h1 : W.heap[g]? = some (.cells #[.string s, .int .i64 e] 92 (0, 0)) := h.1
  show W'.heap[g]? = _
  rw [hg.block g (BlkAt.lt h.1) (fun e => h.ne e.symm)]
  exact h1

set_option maxRecDepth 100000 in
set_option maxHeartbeats 8000000 in
theorem seems_any (w : World) (s : ByteArray) (N : Nat) (hs : (s.size : Int) ≤ 4 * N) (hN : N ≤ 1000000) (R : List Test) (hR : seemsF N s 0 [] = R) :
    Calls Try.prog 47 #[.string s] w fun x w' => ∃ v, x = .returned v ∧ OwnL w' w.heap.size 48 3 encTest v R ∧ Below w.heap.size w w' := by
  have HRR := Lib.hid hR
  have hss : s.size ≤ 4000000 := by omega
  clear hR
  go_enter Try.func47, Try.ntmps47
  go_wp2_with fail
  refine (Read_any _ s).mono ?_
  rintro e w1 ⟨g, rfl, hg, hr, b1⟩
  have hS0 : Hid (SR w.heap.size w g s 0 (.slice none 0 0) [] w1) := Lib.hid ⟨hr, OwnL.nil _ _ _ _ _, hg, b1, b1.size, by omega⟩
  clear hg hr b1
  generalize hB : w.heap.size = B at *
  have HBq := Lib.hid hB
  clear hB
  go_wp2_with fail
  go_loopg [3] N (fun gg v wr => ∃ (s' : ByteArray) (e : Int) (acc : List Test), Hid (SR B w g s' e v acc wr) ∧ Hid (seemsF gg s' e acc = R) ∧ leftR s' e ≤ 4 * gg ∧ acc.length + gg ≤ N)
  case atStart => exact ⟨s, 0, [], hS0, HRR, by unfold leftR; simpa using hs, by simp⟩
  case round =>
    obtain ⟨s', e, acc, hS, hF, hle, hlen⟩ := hrel
    clear hS0 HRR
    by_cases h4 : 4 ≤ leftR s' e
    · have d1 : decide (4 ≤ leftR s' e) = true := by simpa using h4
      obtain ⟨n, rfl⟩ : ∃ n, gk = n + 1 := ⟨gk - 1, by omega⟩
      have hF1 := hF.out
      unfold seemsF at hF1
      rw [if_pos h4] at hF1
      have HFs := Lib.hid hF1
      clear hF hF1
      obtain ⟨r1, hr1⟩ : ∃ r, r = rdN 2 s' e := ⟨_, rfl⟩
      obtain ⟨r2, hr2⟩ : ∃ r, r = rdN 1 r1.2.1 r1.2.2 := ⟨_, rfl⟩
      obtain ⟨r3, hr3⟩ : ∃ r, r = rdN 1 r2.2.1 r2.2.2 := ⟨_, rfl⟩
      obtain ⟨c, hc⟩ : ∃ c, c = numG r2.1.data.toList := ⟨_, rfl⟩
      obtain ⟨f, hf⟩ : ∃ f, f = namedF (c / 2) := ⟨_, rfl⟩
      obtain ⟨r4, hr4⟩ : ∃ r, r = rdN (sizeF f) r3.2.1 r3.2.2 := ⟨_, rfl⟩
      obtain ⟨r5, hr5⟩ : ∃ r, r = rdN (sizeF f) r4.2.1 r4.2.2 := ⟨_, rfl⟩
      have HST : Hid (stepS s' e = if f = 0 then none else if c % 2 = 1 then some (⟨f, numG r4.1.data.toList, numG r5.1.data.toList⟩, r5.2.1, r5.2.2) else some (⟨f, numG r4.1.data.toList, greatF f⟩, r4.2.1, r4.2.2)) := Lib.hid (by
        subst hr5; subst hr4; subst hf; subst hc; subst hr3; subst hr2; subst hr1
        rfl)
      have L1 := leftR_rd s' e 2 (by decide)
      have L2 := leftR_rd r1.2.1 r1.2.2 1 (by decide)
      have L3 := leftR_rd r2.2.1 r2.2.2 1 (by decide)
      rw [← hr1] at L1
      rw [← hr2] at L2
      rw [← hr3] at L3
      have HLT : Hid (leftR r3.2.1 r3.2.2 ≤ 4 * n) := Lib.hid (by omega)
      clear L1 L2 L3
      have C1 := fun W (h : SR B w g s' e u3 acc W) => SR.bytes2 h
      have C2 := fun W (h : SR B w g r1.2.1 r1.2.2 u3 acc W) => SR.num h 1
      have C3 := fun W (h : SR B w g r2.2.1 r2.2.2 u3 acc W) => SR.num h 1
      have C4 := fun W (h : SR B w g r3.2.1 r3.2.2 u3 acc W) => SR.num h (sizeF f)
      have C5 := fun W (h : SR B w g r4.2.1 r4.2.2 u3 acc W) => SR.numB h (sizeF f)
      rw [← hr1] at C1
      rw [← hr2, ← hc] at C2
      rw [← hr3] at C3
      rw [← hr4] at C4
      rw [← hr5] at C5
      have H1 := Lib.hid C1
      have H2 := Lib.hid C2
      have H3 := Lib.hid C3
      have H4 := Lib.hid C4
      have H5 := Lib.hid C5
      have HNm := Lib.hid (fun W => named_any W (c / 2))
      rw [← hf] at HNm
      have HFd := Lib.hid hf
      have HR4 := Lib.hid hr4
      have HR5 := Lib.hid hr5
      have HCd := Lib.hid hc
      have hcU : U64 c := by rw [hc]; exact numG_U64 _
      have hq2 : IntKind.u64.wrap (c.tdiv 2) = c / 2 := by
        have h1 := hcU.1
        have h2 := hcU.2
        rw [Int.tdiv_eq_ediv_of_nonneg h1]
        exact wrap_u64_id (by omega) (by omega)
      have hq3 : c.tmod 2 = c % 2 := Int.tmod_eq_emod_of_nonneg hcU.1
      have HSz := Lib.hid (fun W => size_any W (f : Int))
      have HAl := Lib.hid (fun W => all_any W (f : Int))
      clear hcU
      clear C1 C2 C3 C4 C5 hr1 hr2 hr3 hr4 hr5 hc hf hle h4
      go_wp2_with fail
      refine (hS.out.left).mono ?_
      rintro x w2 ⟨rfl, rfl⟩
      go_wp2_with fail
      refine (H1.out _ hS.out).mono ?_
      rintro x w3 ⟨rfl, h3⟩
      have S3 := Lib.hid h3
      clear h3 hS H1
      go_wp2_with fail
      refine (H2.out _ S3.out).mono ?_
      rintro x w4 ⟨rfl, h4⟩
      have S4 := Lib.hid h4
      clear h4 S3 H2
      go_wp2_with fail
      refine (H3.out _ S4.out).mono ?_
      rintro x w5 ⟨rfl, h5⟩
      have S5 := Lib.hid h5
      clear h5 S4 H3
      go_wp2_with fail
      refine (HNm.out _).mono ?_
      rintro x w6 ⟨rfl, b6⟩
      have S6 := Lib.hid (S5.out.call b6)
      clear b6 S5 HNm
      by_cases hf0 : f = 0
      · have HR0 : Hid (R = []) := Lib.hid (by
          have h1 := HFs.out
          have h2 := HST.out
          rw [if_pos hf0] at h2
          rw [h2] at h1
          exact h1.symm)
        have HFz := Lib.hid hf0
        have t0 : (f : Int) = 0 := by omega
        have t1 : ((f : Int) == 0) = true := by simp; omega
        clear hf0 HFs HST H4 H5 HSz HAl HLT
        go_wp2
        go_ret
        rw [HBq.out]
        exact ⟨_, rfl, by rw [HR0.out]; exact OwnL.nil _ _ _ _ _, S6.out.2.2.2.1⟩
      have t0 : ¬ ((f : Int) = 0) := by omega
      have t1 : ((f : Int) == 0) = false := beq_eq_false_iff_ne.mpr t0
      have hfr : 1 ≤ (f : Int) ∧ (f : Int) ≤ 9 := by
        have h9 := namedF_le (c / 2)
        rw [← HFd.out] at h9
        omega
      have hsf := sizeF_val hfr
      have HL4 : Hid (leftR r4.2.1 r4.2.2 ≤ 4 * n) := Lib.hid (by
        have h1 := leftR_rd r3.2.1 r3.2.2 (sizeF f) ⟨by omega, by omega⟩
        rw [← HR4.out] at h1
        have h2 := HLT.out
        omega)
      have HL5 : Hid (leftR r5.2.1 r5.2.2 ≤ 4 * n) := Lib.hid (by
        have h1 := leftR_rd r4.2.1 r4.2.2 (sizeF f) ⟨by omega, by omega⟩
        rw [← HR5.out] at h1
        have h2 := HL4.out
        omega)
      have HO1 : Hid (c % 2 = 1 → seemsF n r5.2.1 r5.2.2 (acc ++ [⟨f, numG r4.1.data.toList, numG r5.1.data.toList⟩]) = R) := by
        show _
        intro ho
        have h1 := HFs.out
        have h2 := HST.out
        rw [if_neg hf0, if_pos ho] at h2
        rw [h2] at h1
        exact h1
      have HO0 : Hid (¬ c % 2 = 1 → seemsF n r4.2.1 r4.2.2 (acc ++ [⟨f, numG r4.1.data.toList, greatF f⟩]) = R) := by
        show _
        intro ho
        have h1 := HFs.out
        have h2 := HST.out
        rw [if_neg hf0, if_neg ho] at h2
        rw [h2] at h1
        exact h1
      clear HFs HST hf0 hfr hsf HLT HFd HR4 HR5
      go_wp2_with fail
      refine (HSz.out _).mono ?_
      rintro x w7 ⟨rfl, rfl⟩
      go_wp2_with fail
      refine (H4.out _ S6.out).mono ?_
      rintro x w8 ⟨rfl, h8⟩
      have S8 := Lib.hid h8
      clear h8 S6 H4
      go_wp2_with fail
      refine (HAl.out _).mono ?_
      rintro x w9 ⟨rfl, rfl⟩
      generalize numG r4.1.data.toList = v4 at *
      generalize greatF f = gm at *
      go_upto_region 11 with fail
      refine one_box_wp ?_
      intro W hb1 hbel hsz
      have S9 := Lib.hid (S8.out.call hbel)
      have hT9 := Lib.hid hb1
      have hgne : g ≠ w8.heap.size := Nat.ne_of_lt (BlkAt.lt S8.out.1)
      have hBg : B ≤ w8.heap.size := S8.out.2.2.2.2.1
      have hvn : Hid (u3.ownBlock ≠ some w8.heap.size) := Lib.hid (fun h => by
        have := (S8.out.2.1.block _ h).2
        omega)
      generalize w8.heap.size = g2 at *
      clear hb1 hbel hsz S8 HSz HAl
      by_cases ho : c % 2 = 1
      · have HFn := Lib.hid (HO1.out ho)
        have t2 : (c % 2 == 1) = true := by simpa using ho
        have HSz5 := Lib.hid (fun W => size_any W (f : Int))
        clear HO1 HO0
        go_wp2_with fail
        refine (HSz5.out _).mono ?_
        rintro x w10 ⟨rfl, rfl⟩
        go_wp2_with fail
        refine (H5.out _ S9.out).mono ?_
        rintro x w11 ⟨rfl, h11, hbr⟩
        have S11 := Lib.hid h11
        have hT11 := Lib.hid (BlkAt.bar hT9.out hbr (Ne.symm hgne))
        clear h11 hbr S9 hT9 H5 HSz5
        generalize numG r5.1.data.toList = v5 at *
        have hfz := hT11.out.frozen 2
        have q2 := hT11.out.cell 2 _ rfl
        go_upto_region 13 with fail
        have S12 := Lib.hid (S11.out.set hT11.out hBg hvn.out 2 (.int .u64 v5))
        have hT12 := Lib.hid (BlkAt.set hT11.out 2 (.int .u64 v5))
        clear hfz q2 S11 hT11
        generalize hW12 : w11.setCell ⟨g2, 2, none⟩ (.int .u64 v5) = w12 at *
        clear hW12
        have hT13 : Hid (BlkAt w12 g2 48 #[.int .i64 f, .int .u64 v4, .int .u64 v5]) := Lib.hid hT12.out
        have k0 := hT13.out.cell 0 _ rfl
        have k1 := hT13.out.cell 1 _ rfl
        have k2 := hT13.out.cell 2 _ rfl
        clear hT12 hT13 ho
        go_wp2_with (at_builtin; go_must (refine app_one S12.out.2.1 (⟨f, v4, v5⟩ : Test) Try.underlying22 testInfo rfl (by decide) encTest_len encTest_one' rfl rfl rfl rfl ?c1 ?c2 ?c3 ?_))
        case c1 => omega
        case c2 => omega
        case c3 => exact S12.out.2.2.2.2.1
        intro v' w13 hown hgrow _
        have S13 := Lib.hid (S12.out.append hown hgrow)
        clear hown hgrow S12 k0 k1 k2
        go_wp2_with fail
        go_roundg n
        case measure => omega
        case rel => exact ⟨_, _, _, S13, HFn, HL5.out, by simp; omega⟩
      · have HFn := Lib.hid (HO0.out ho)
        have t2 : (c % 2 == 1) = false := beq_eq_false_iff_ne.mpr ho
        have k0 := hT9.out.cell 0 _ rfl
        have k1 := hT9.out.cell 1 _ rfl
        have k2 := hT9.out.cell 2 _ rfl
        clear HO1 HO0 H5 hT9
        go_wp2_with (at_builtin; go_must (refine app_one S9.out.2.1 (⟨f, v4, gm⟩ : Test) Try.underlying22 testInfo rfl (by decide) encTest_len encTest_one' rfl rfl rfl rfl ?c1 ?c2 ?c3 ?_))
        case c1 => omega
        case c2 => omega
        case c3 => exact S9.out.2.2.2.2.1
        intro v' w13 hown hgrow _
        have S13 := Lib.hid (S9.out.append hown hgrow)
        clear hown hgrow S9 k0 k1 k2
        go_wp2_with fail
        go_roundg n
        case measure => omega
        case rel => exact ⟨_, _, _, S13, HFn, HL4.out, by simp; omega⟩
    · have d1 : decide (4 ≤ leftR s' e) = false := by simpa using h4
      have HRf : Hid (acc = R) := Lib.hid (by
        have h1 := hF.out
        cases gk with
        | zero => exact h1
        | succ n =>
          unfold seemsF at h1
          rw [if_neg h4] at h1
          exact h1)
      clear hF
      go_wp2_with fail
      refine (hS.out.left).mono ?_
      rintro x w2 ⟨rfl, rfl⟩
      go_wp2
      go_ret
      rw [HBq.out]
      exact ⟨_, rfl, by rw [← HRf.out]; exact hS.out.2.1, hS.out.2.2.2.1⟩
end Go.Proofs.Ytaaadbmhcfjooaa
