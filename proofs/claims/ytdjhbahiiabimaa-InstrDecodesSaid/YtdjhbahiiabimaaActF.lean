/- act.Decode. -/
import Derived.Test.YtdjhbahiiabimaaActE
import Derived.Deep.LoopGhost
import Derived.Deep.AppendLies
import Derived.Test.YtdjhbahiiabimaaHeldRow
import Derived.Test.YtdjhbahiiabimaaNumB
namespace Go.Proofs.Ytdjhbahiiabimaa
open Go.RowKit
set_option linter.unusedVariables false
set_option linter.unusedSimpArgs false

/-- A byte of a text. -/
def byteA (d : ByteArray) (i : Nat) : Nat := (d.data.toList.getD i 0).toNat
theorem byteA_le (d : ByteArray) (i : Nat) : byteA d i ≤ 255 := by have := (d.data.toList.getD i 0).toNat_lt; unfold byteA; omega
theorem byteA_get (d : ByteArray) (i : Nat) (h : i < d.size) : (d[i]'h).toNat = byteA d i := by
  have : d.data.toList.getD i 0 = d[i]'h := by
    rw [List.getD_eq_getElem?_getD, List.getElem?_eq_getElem (by simpa using h)]; rfl
  unfold byteA
  rw [this]
def lenD (d : ByteArray) : Nat := byteA d 2 * 256 + byteA d 3
theorem or_i64 {a b : Nat} (ha : a ≤ 255) (hb : b ≤ 255) : bits .or .i64 ((a : Int) * 256) (b : Int) = ((a * 256 + b : Nat) : Int) := by
  have e : (a : Int) * 256 = ((a * 256 : Nat) : Int) := by omega
  have h1 : a * 256 ||| b = a * 256 + b := by
    have := Nat.two_pow_add_eq_or_of_lt (i := 8) (b := b) (by omega) a
    rw [Nat.mul_comm] at this
    exact this.symm
  rw [e]
  show IntKind.i64.wrap ((BitVec.ofInt 64 ((a * 256 : Nat) : Int) ||| BitVec.ofInt 64 (b : Int)).toNat : Int) = _
  rw [BitVec.toNat_or, ofInt_u64 _ (by omega), ofInt_u64 b (by omega), h1]
  simp [IntKind.wrap, IntKind.bits, IntKind.signed]
  omega
theorem i64_wrap_in {v : Int} (h0 : -1000000 ≤ v) (h1 : v ≤ 1000000) : IntKind.i64.wrap v = v := IntWalk.i64_in v (by omega)
theorem list_ne {Y X : ByteArray} (h : ¬ Y = X) : (Y.toList == X.toList) = false := by
  refine beq_eq_false_iff_ne.mpr (fun e => h ?_)
  rw [ByteArray.toList_eq, ByteArray.toList_eq] at e
  exact ByteArray.ext (Array.toList_inj.mp e)
/-- What a chunk's bytes are told to be. -/
def chunkA (d : ByteArray) : ByteArray := d.extract 0 (lenD d)
def goodA (d : ByteArray) : Bool := rightX (seemsA (chunkA d)) && decide (str (laidX (seemsA (chunkA d))) = chunkA d)
/-- The actions that bytes are; or what is wrong. -/
def decAs : Nat → ByteArray → List Action → List Action × Int
  | 0, _, _ => ([], 0)
  | f + 1, d, acc => if d.size = 0 then (acc, 0) else if d.size < 4 then ([], 10) else if d.size < lenD d then ([], 10) else if lenD d < 8 then ([], 11)
    else if goodA d = false then ([], 11) else if acc.length = 32 then ([], 44) else decAs f (d.extract (lenD d) d.size) (acc ++ [seemsA (chunkA d)])
def DecA (w : World) (r : List Action × Int) (x : Ending) (w' : World) : Prop :=
  ∃ v, x = .returned (.tuple #[v, .int .i64 r.2]) ∧ OwnL w' w.heap.size 67 3 encAction v r.1 ∧ Below w.heap.size w w'
theorem actInfo : (Try.prog.info? 67).map (fun i => (i.zero, i.size, i.bytes)) = some (some (.agg #[.int .i64 0, .int .i64 0, .int .u64 0]), 3, 24) := by kernel_rfl
theorem encAction_one' (x : Action) : ∀ u ∈ encAction x, u.oneCell' = true := encAction_one x trivial
theorem seemsA_v (s : ByteArray) : 0 ≤ (seemsA s).fValue ∧ (seemsA s).fValue ≤ 18446744073709551615 := by
  have h4 : ∀ r : RS, 0 ≤ numR 4 r ∧ numR 4 r ≤ 18446744073709551615 := fun r => by have := numR_bd 4 r (by decide); simp at this; omega
  have hn : ∀ (f : Int) (r : RS), 0 ≤ numR (max (codeF f).2 1) r ∧ numR (max (codeF f).2 1) r ≤ 18446744073709551615 := fun f r => by
    have h : (codeF f).2 = 0 ∨ (codeF f).2 = 2 ∨ (codeF f).2 = 4 := by
      unfold codeF
      split <;> (try (simp; done)) <;> split <;> (try (simp; done)) <;> split <;> (try (simp; done)) <;> split <;> (try (simp; done)) <;> split <;> simp
    rcases h with h | h | h <;> rw [h]
    · rw [show max (0 : Int) 1 = 1 from by decide]; have := numR_bd 1 r (by decide); simp at this; omega
    · rw [show max (2 : Int) 1 = 2 from by decide]; have := numR_bd 2 r (by decide); simp at this; omega
    · rw [show max (4 : Int) 1 = 4 from by decide]; have := numR_bd 4 r (by decide); simp at this; omega
  unfold seemsA
  repeat' split
  all_goals first | exact h4 _ | exact hn _ _ | (simp; done)

set_option maxRecDepth 100000 in
set_option maxHeartbeats 8000000 in
theorem Decode_any (w : World) (d : ByteArray) (hd : d.size ≤ 1000000) (N : Nat) (hN : d.size < N) (R : List Action × Int) (hR : decAs N d [] = R) :
    Calls Try.prog 44 #[.string d] w (DecA w R) := by
  have HRR := Lib.hid hR
  have HDs := Lib.hid hd
  have K0 : Hid (Below w.heap.size w w) := Lib.hid (Below.refl _ _)
  have HNN := Lib.hid hN
  clear hR hd hN
  go_enter Try.func44, Try.ntmps44
  go_wp2_with fail
  go_loopg [0, 4] N (fun gg dv ov wr => ∃ (d : ByteArray) (acc : List Action), dv = .string d ∧ Hid (d.size ≤ 1000000) ∧ Hid (d.size < gg) ∧ Hid (acc.length ≤ 32) ∧ Hid (decAs gg d acc = R) ∧ Hid (OwnL wr w.heap.size 67 3 encAction ov acc) ∧ Hid (Below w.heap.size w wr))
  case atStart => exact ⟨d, [], rfl, HDs, HNN, Lib.hid (by simp), HRR, Lib.hid (OwnL.nil _ _ _ _ _), K0⟩
  case round =>
    obtain ⟨d1, acc, rfl, HD, HG, HAc, HF, Hown, HB⟩ := hrel
    clear HRR HDs K0 HNN
    obtain ⟨n0, rfl⟩ : ∃ n, gk = n + 1 := ⟨gk - 1, by have := HG.out; omega⟩
    have hF1 := HF.out
    unfold decAs at hF1
    by_cases h0 : d1.size = 0
    · rw [if_pos h0] at hF1
      have e0 : d1 = ⟨#[]⟩ := by
        apply ByteArray.ext
        exact Array.eq_empty_of_size_eq_zero h0
      subst e0
      have HRn := Lib.hid hF1
      clear hF1 HF
      go_wp2_with fail
      go_ret2
      rw [← HRn.out]
      exact ⟨_, rfl, Hown.out, HB.out⟩
    rw [if_neg h0] at hF1
    have t0 : d1.toList.isEmpty = false := by
      rw [ByteArray.toList_eq]
      cases h : d1.data.toList with
      | nil => exact absurd (by have := congrArg List.length h; simpa using this) h0
      | cons a l => rfl
    by_cases h4 : d1.size < 4
    · rw [if_pos h4] at hF1
      have t1 : decide ((d1.size : Int) < 4) = true := by simp; omega
      have HRn := Lib.hid hF1
      clear hF1 HF h4 h0
      go_wp2_with fail
      go_ret2
      rw [← HRn.out]
      exact ⟨_, rfl, OwnL.nil _ _ _ _ _, HB.out⟩
    rw [if_neg h4] at hF1
    have t1 : decide ((d1.size : Int) < 4) = false := by simp; omega
    have q2 : 2 < d1.size := by omega
    have q3 : 3 < d1.size := by omega
    have i2 : (2 : Int) < d1.size := by omega
    have i3 : (3 : Int) < d1.size := by omega
    have b2 := byteA_get d1 2 q2
    have b3 := byteA_get d1 3 q3
    have l2 := byteA_le d1 2
    have l3 := byteA_le d1 3
    have HFn := Lib.hid hF1
    have HLn : Hid (lenD d1 = byteA d1 2 * 256 + byteA d1 3) := Lib.hid rfl
    clear hF1 HF h0
    generalize byteA d1 2 = x2 at *
    generalize byteA d1 3 = x3 at *
    have K : Hid (KR w.heap.size w [] wr) := Lib.hid (KR.start HB.out HB.out.size)
    have K : Hid (KS w.heap.size w [] wr wr) := Lib.hid (KS.start K.out)
    haveI : Nonempty (Keep (KS w.heap.size w [] wr)) := ⟨⟨_, K.out⟩⟩
    go_upto_region 5 with fail
    refine wp_region_keep2 (Cl := KS w.heap.size w [] wr) (by kernel_rfl) (by kernel_rfl) K.out.drew ?_
    intro y' hy'
    clear hy' K
    repeat
      first
        | (refine wpQ2_step (fun K hK => ?_)
           go_simp
           first
             | (refine hK _ ?_; clear hK K)
             | (apply Exists.intro
                refine ⟨fun _ => ?_, hK _ ?_⟩
                (rw [if_neg (by omega)]; exact ⟨rfl, rfl⟩)
                clear hK K))
    refine wpQ2_nil ?_
    intro Wk Kk
    have K := Lib.hid Kk
    clear Kk
    have hor : bits .or .i64 ((x2 : Int) * 256) (x3 : Int) = (lenD d1 : Int) := by rw [HLn.out]; exact or_i64 l2 l3
    have w2 : IntKind.i64.wrap (x2 : Int) = x2 := i64_wrap_in (by omega) (by omega)
    have w3 : IntKind.i64.wrap (x3 : Int) = x3 := i64_wrap_in (by omega) (by omega)
    have w4 : IntKind.i64.wrap ((x2 : Int) * 256) = (x2 : Int) * 256 := i64_wrap_in (by omega) (by omega)
    simp only [w2, w3, w4, hor]
    have hn : lenD d1 ≤ 65535 := by have := HLn.out; omega
    clear w2 w3 w4 hor HLn b2 b3 l2 l3 q2 q3 i2 i3
    have hF2 := HFn.out
    clear HFn
    have HN : Hid (chunkA d1 = d1.extract 0 (lenD d1)) := Lib.hid rfl
    generalize lenD d1 = n at *
    have e0 : (0 : Int) ≤ n := by omega
    by_cases h5 : d1.size < n
    · have d2 : decide (d1.size < n) = true := by simp; omega
      rw [if_pos h5] at hF2
      have HRn := Lib.hid hF2
      clear hF2 h5
      go_wp2_with fail
      go_ret2
      rw [← HRn.out]
      exact ⟨_, rfl, OwnL.nil _ _ _ _ _, K.out.1.below⟩
    rw [if_neg h5] at hF2
    have d2 : decide (d1.size < n) = false := by simp; omega
    by_cases h6 : n < 8
    · have d3 : decide ((n : Int) < 8) = true := by simp; omega
      rw [if_pos h6] at hF2
      have HRn := Lib.hid hF2
      clear hF2 h5 h6
      go_wp2_with fail
      go_ret2
      rw [← HRn.out]
      exact ⟨_, rfl, OwnL.nil _ _ _ _ _, K.out.1.below⟩
    rw [if_neg h6] at hF2
    have d3 : decide ((n : Int) < 8) = false := by simp; omega
    have e1 : n ≤ d1.size := by omega
    have e3 : (n : Int) ≤ d1.size := by omega
    have HF3 := Lib.hid hF2
    clear hF2 h5
    have HS := Lib.hid (fun W => seems_any W (d1.extract 0 n) (by have := HD.out; rw [ByteArray.size_extract]; omega))
    rw [← HN.out] at HS
    have hv := seemsA_v (chunkA d1)
    have HGd : Hid ((rightX (seemsA (chunkA d1)) = false → goodA d1 = false) ∧ (¬ str (laidX (seemsA (chunkA d1))) = chunkA d1 → goodA d1 = false) ∧ (rightX (seemsA (chunkA d1)) = true → str (laidX (seemsA (chunkA d1))) = chunkA d1 → goodA d1 = true)) := Lib.hid (by
      unfold goodA
      refine ⟨fun h => by rw [h]; rfl, fun h => by rw [decide_eq_false h, Bool.and_false], fun h1 h2 => by rw [h1, decide_eq_true h2]; rfl⟩)
    generalize goodA d1 = G at *
    generalize hch : chunkA d1 = ch at *
    clear hch
    generalize seemsA ch = ax at *
    have HRt : Hid (∀ W : World, _) := Lib.hid (fun W => right_any W ax.fKind ax.fField ax.fValue hv.1 hv.2)
    have HLd : Hid (rightX ax = true → ∀ W : World, _) := Lib.hid (fun hr W => laid_any W ax.fKind ax.fField ax.fValue hr hv.1)
    obtain ⟨a1, a2, a3⟩ := ax
    simp only [rightX, laidX, encAction] at HRt HLd HGd HS
    clear hv
    generalize hrr : rightA a1 a2 a3 = RR at *
    obtain ⟨LA, hLA⟩ : ∃ LA, LA = laidA a1 a2 a3 := ⟨_, rfl⟩
    rw [← hLA] at HGd HLd
    clear hrr hLA
    go_wp2_with fail
    rw [← HN.out]
    refine (HS.out _).mono ?_
    rintro e w2 ⟨rfl, hb⟩
    have hbL := Lib.hid ((K.out.2.trans (hb.mono K.out.2.size)))
    have K := Lib.hid (K.out.1.call hb)
    clear hb HS
    go_wp2_with (first
      | (refine wpList_store_row rfl 67 _ _ rfl _ rfl #[.int .i64 a1, .int .i64 a2, .int .u64 a3] rfl _ _ ((K.out.box _ _).at 0 rfl) rfl (by kernel_rfl) (by simp [Value.oneCell']) ?_)
      | fail)
    intro Wi hbi hbari
    have HOwn2 : Hid (OwnL Wi w.heap.size 67 3 encAction u4 acc) := Lib.hid ((Hown.out.below (hbL.out.trans ((Below.refl w2.heap.size w2).mono hbL.out.size)) (fun k hk => (Hown.out.block k hk).2)).bar ((Bar.of_below ((Below.refl w2.heap.size w2).alloc (Nat.le_refl _) _)).trans hbari) (fun k hk => by have := (Hown.out.block k hk).2; have := hbL.out.size; omega))
    have hge : w.heap.size ≤ w2.heap.size := K.out.size
    have hown2 : ∀ k, u4.ownBlock = some k → k < w2.heap.size := fun k hk => by have := (Hown.out.block k hk).2; have := hbL.out.size; omega
    have HLt := Lib.hid hown2
    replace K := Lib.hid (K.out.into hbari hbi)
    clear hbi hbari hown2 Hown hbL
    generalize w2.heap.size = gb at *
    have K : Hid (KS w.heap.size w [(gb, 67, #[.int .i64 a1, .int .i64 a2, .int .u64 a3])] Wi Wi) := Lib.hid (KS.start K.out)
    cases RR
    case false =>
      have hG := HGd.out.1 rfl
      have hF4 := HF3.out
      rw [if_pos hG] at hF4
      have HRn := Lib.hid hF4
      clear hF4 HF3 hG HGd HLd
      haveI : Nonempty (Keep (KS w.heap.size w [(gb, 67, #[.int .i64 a1, .int .i64 a2, .int .u64 a3])] Wi)) := ⟨⟨_, K.out⟩⟩
      go_upto_region 11 with fail
      refine wp_region_keep2 (Cl := KS w.heap.size w [(gb, 67, #[.int .i64 a1, .int .i64 a2, .int .u64 a3])] Wi) (by kernel_rfl) (by kernel_rfl) K.out.drew ?_
      intro y' hy'
      have g3_ := fun tmps => hy' tmps 3 35 rfl
      have gb_ := yl_bool
      clear hy' K
      repeat
        first
          | (refine wpQ2_rowk _ _ rfl _ (fun W h => run_loadVar_row W _ _ 67 _ (0, 0) _ (KS.at h 0 rfl) Try.underlying67 rfl (by kernel_rfl)) ?_ ?_
             · (go_simp; done))
          | (refine wpQ2_step (fun K hK => ?_)
             go_simp
             first
               | (refine hK _ ?_; clear hK K)
               | (apply Exists.intro
                  refine ⟨fun _ => ?_, hK _ ?_⟩
                  (rw [if_neg (by omega)]; exact ⟨rfl, rfl⟩)
                  clear hK K)
               | (apply Exists.intro
                  refine ⟨fun _ => ?_, hK _ ?_⟩
                  ((with_reducible refine Calls.keep (HRt.out _) ?_); exact (fun w' hb => KS.call (Keep.h _) hb))
                  clear hK K))
      refine wpQ2_nil ?_
      intro Wk Kk
      have K := Lib.hid Kk
      clear Kk
      clear gb_ g3_
      go_wp2_with fail
      go_ret2
      rw [← HRn.out]
      exact ⟨_, rfl, OwnL.nil _ _ _ _ _, K.out.1.below⟩
    by_cases hq : str LA = ch
    case neg =>
      have hG := HGd.out.2.1 hq
      have hF4 := HF3.out
      rw [if_pos hG] at hF4
      have HRn := Lib.hid hF4
      have tq : (LA == (d1.extract 0 n).toList) = false := by
        have h1 := list_ne hq
        rw [HN.out, ByteArray.toList_eq, str_data] at h1
        exact h1
      have HLd2 := Lib.hid (HLd.out rfl)
      clear hF4 HF3 hG HGd HLd hq
      haveI : Nonempty (Keep (KS w.heap.size w [(gb, 67, #[.int .i64 a1, .int .i64 a2, .int .u64 a3])] Wi)) := ⟨⟨_, K.out⟩⟩
      go_upto_region 11 with fail
      refine wp_region_keep2 (Cl := KS w.heap.size w [(gb, 67, #[.int .i64 a1, .int .i64 a2, .int .u64 a3])] Wi) (by kernel_rfl) (by kernel_rfl) K.out.drew ?_
      intro y' hy'
      have g3_ := fun tmps => hy' tmps 3 35 rfl
      have gb_ := yl_bool
      clear hy' K
      repeat
        first
          | (refine wpQ2_rowk _ _ rfl _ (fun W h => run_loadVar_row W _ _ 67 _ (0, 0) _ (KS.at h 0 rfl) Try.underlying67 rfl (by kernel_rfl)) ?_ ?_
             · (go_simp; done))
          | (refine wpQ2_step (fun K hK => ?_)
             go_simp
             first
               | (refine hK _ ?_; clear hK K)
               | (apply Exists.intro
                  refine ⟨fun _ => ?_, hK _ ?_⟩
                  (rw [if_neg (by omega)]; exact ⟨rfl, rfl⟩)
                  clear hK K)
               | (apply Exists.intro
                  refine ⟨fun _ => ?_, hK _ ?_⟩
                  ((with_reducible refine Calls.keep (HRt.out _) ?_); exact (fun w' hb => KS.call (Keep.h _) hb))
                  clear hK K)
               | (apply Exists.intro
                  refine ⟨fun _ => ?_, hK _ ?_⟩
                  ((with_reducible refine Calls.keep (HLd2.out _) ?_); exact (fun w' hb => KS.call (Keep.h _) hb))
                  clear hK K))
      refine wpQ2_nil ?_
      intro Wk Kk
      have K := Lib.hid Kk
      clear Kk
      clear gb_ g3_
      go_wp2_with fail
      go_ret2
      rw [← HRn.out]
      exact ⟨_, rfl, OwnL.nil _ _ _ _ _, K.out.1.below⟩
    have hG := HGd.out.2.2 rfl hq
    have hF4 := HF3.out
    rw [if_neg (by rw [hG]; decide)] at hF4
    have tq : (LA == (d1.extract 0 n).toList) = true := by
      rw [← HN.out, ← hq, ByteArray.toList_eq, str_data]; simp
    have HLd2 := Lib.hid (HLd.out rfl)
    obtain ⟨oa, oc, hov, hoc1, hoc2⟩ := HOwn2.out.slice
    subst hov
    by_cases h32 : acc.length = 32
    · rw [if_pos h32] at hF4
      have HRn := Lib.hid hF4
      have t5 : ((acc.length : Int) == 32) = true := by rw [h32]; rfl
      clear hF4 HF3 hG HGd HLd hq h32
      haveI : Nonempty (Keep (KS w.heap.size w [(gb, 67, #[.int .i64 a1, .int .i64 a2, .int .u64 a3])] Wi)) := ⟨⟨_, K.out⟩⟩
      go_upto_region 11 with fail
      refine wp_region_keep2 (Cl := KS w.heap.size w [(gb, 67, #[.int .i64 a1, .int .i64 a2, .int .u64 a3])] Wi) (by kernel_rfl) (by kernel_rfl) K.out.drew ?_
      intro y' hy'
      have g3_ := fun tmps => hy' tmps 3 35 rfl
      have gb_ := yl_bool
      clear hy' K
      repeat
        first
          | (refine wpQ2_rowk _ _ rfl _ (fun W h => run_loadVar_row W _ _ 67 _ (0, 0) _ (KS.at h 0 rfl) Try.underlying67 rfl (by kernel_rfl)) ?_ ?_
             · (go_simp; done))
          | (refine wpQ2_step (fun K hK => ?_)
             go_simp
             first
               | (refine hK _ ?_; clear hK K)
               | (apply Exists.intro
                  refine ⟨fun _ => ?_, hK _ ?_⟩
                  (rw [if_neg (by omega)]; exact ⟨rfl, rfl⟩)
                  clear hK K)
               | (apply Exists.intro
                  refine ⟨fun _ => ?_, hK _ ?_⟩
                  ((with_reducible refine Calls.keep (HRt.out _) ?_); exact (fun w' hb => KS.call (Keep.h _) hb))
                  clear hK K)
               | (apply Exists.intro
                  refine ⟨fun _ => ?_, hK _ ?_⟩
                  ((with_reducible refine Calls.keep (HLd2.out _) ?_); exact (fun w' hb => KS.call (Keep.h _) hb))
                  clear hK K))
      refine wpQ2_nil ?_
      intro Wk Kk
      have K := Lib.hid Kk
      clear Kk
      clear gb_ g3_
      go_wp2_with fail
      go_ret2
      rw [← HRn.out]
      exact ⟨_, rfl, OwnL.nil _ _ _ _ _, K.out.1.below⟩
    rw [if_neg h32] at hF4
    have t5 : ((acc.length : Int) == 32) = false := by simp; omega
    have HFn := Lib.hid hF4
    have HL31 : Hid (acc.length + 1 ≤ 32) := Lib.hid (by have := HAc.out; omega)
    clear hF4 HF3 hG HGd HLd hq h32
    haveI : Nonempty (Keep (KS w.heap.size w [(gb, 67, #[.int .i64 a1, .int .i64 a2, .int .u64 a3])] Wi)) := ⟨⟨_, K.out⟩⟩
    go_upto_region 11 with fail
    refine wp_region_keep2 (Cl := KS w.heap.size w [(gb, 67, #[.int .i64 a1, .int .i64 a2, .int .u64 a3])] Wi) (by kernel_rfl) (by kernel_rfl) K.out.drew ?_
    intro y' hy'
    have g3_ := fun tmps => hy' tmps 3 35 rfl
    have gb_ := yl_bool
    clear hy' K
    repeat
      first
        | (refine wpQ2_rowk _ _ rfl _ (fun W h => run_loadVar_row W _ _ 67 _ (0, 0) _ (KS.at h 0 rfl) Try.underlying67 rfl (by kernel_rfl)) ?_ ?_
           · (go_simp; done))
        | (refine wpQ2_step (fun K hK => ?_)
           go_simp
           first
             | (refine hK _ ?_; clear hK K)
             | (apply Exists.intro
                refine ⟨fun _ => ?_, hK _ ?_⟩
                (rw [if_neg (by omega)]; exact ⟨rfl, rfl⟩)
                clear hK K)
             | (apply Exists.intro
                refine ⟨fun _ => ?_, hK _ ?_⟩
                ((with_reducible refine Calls.keep (HRt.out _) ?_); exact (fun w' hb => KS.call (Keep.h _) hb))
                clear hK K)
             | (apply Exists.intro
                refine ⟨fun _ => ?_, hK _ ?_⟩
                ((with_reducible refine Calls.keep (HLd2.out _) ?_); exact (fun w' hb => KS.call (Keep.h _) hb))
                clear hK K))
    refine wpQ2_nil ?_
    intro Wk Kk
    have K := Lib.hid Kk
    clear Kk
    clear gb_ g3_
    clear HRt HLd2 tq
    have HOw := Lib.hid (HOwn2.out.below K.out.2 (fun k hk => (HOwn2.out.block k hk).2))
    have K2 := Lib.hid K.out.1
    clear K HOwn2
    have K := K2
    clear K2
    have HBk := Lib.hid K.out.below
    go_upto_region 15 with fail
    refine wp_region_noPanic ?_
    refine wp_region_G 2 (KR w.heap.size w [(gb, 67, #[.int .i64 a1, .int .i64 a2, .int .u64 a3])]) (by kernel_rfl) ?_
    change wpG _ _ _ _ _ 9 #[false, false, false, false, false, false, false, false, false] _ (World.drew _)
    replace K := Lib.hid K.out.drew
    refine wpG_pure (i := 0) (v := ?_) rfl (by kernel_rfl) (by kernel_rfl) (by kernel_rfl) (fun _ _ _ h => h) (Or.inl ⟨by rfl, ?_⟩) ?_
    rotate_left
    · (intro w_ hS; clear hS; go_simp; try with_reducible rfl)
    try simp only [List.getElem_toArray, List.getElem_cons_zero, List.getElem_cons_succ, Act.put, List.setIfInBounds_toArray, List.set_cons_zero, List.set_cons_succ]
    refine wpG_pure (i := 4) (v := ?_) rfl (by kernel_rfl) (by kernel_rfl) (by kernel_rfl) (fun _ _ _ h => h) (Or.inl ⟨by rfl, ?_⟩) ?_
    rotate_left
    · (intro w_ hS; clear hS; go_simp; try with_reducible rfl)
    try simp only [List.getElem_toArray, List.getElem_cons_zero, List.getElem_cons_succ, Act.put, List.setIfInBounds_toArray, List.set_cons_zero, List.set_cons_succ]
    refine wpG_pure (i := 5) (v := ?_) rfl (by kernel_rfl) (by kernel_rfl) (by kernel_rfl) (fun _ _ _ h => h) (Or.inl ⟨by rfl, ?_⟩) ?_
    rotate_left
    · (intro w_ hS; clear hS; go_simp; try with_reducible rfl)
    try simp only [List.getElem_toArray, List.getElem_cons_zero, List.getElem_cons_succ, Act.put, List.setIfInBounds_toArray, List.set_cons_zero, List.set_cons_succ]
    refine wpG_pure (i := 6) (v := ?_) rfl (by kernel_rfl) (by kernel_rfl) (by kernel_rfl) (fun _ _ _ h => h) (Or.inl ⟨by rfl, ?_⟩) ?_
    rotate_left
    · (intro w_ hS; clear hS; go_simp; try with_reducible rfl)
    try simp only [List.getElem_toArray, List.getElem_cons_zero, List.getElem_cons_succ, Act.put, List.setIfInBounds_toArray, List.set_cons_zero, List.set_cons_succ]
    refine wpG_take (i := 1) rfl (by kernel_rfl) (by kernel_rfl) (by kernel_rfl) (fun _ _ _ h => h) (Or.inl ⟨by rfl, fun w_ hS => exec_row 67 _ rfl _ rfl _ (run_loadVar_row w_ _ _ 67 _ (0, 0) _ (hS.at 0 rfl) Try.underlying67 rfl (by kernel_rfl))⟩) K.out ?_
    try simp only [List.getElem_toArray, List.getElem_cons_zero, List.getElem_cons_succ, Act.put, List.setIfInBounds_toArray, List.set_cons_zero, List.set_cons_succ]
    refine wpG_ready (i := 2) rfl (by kernel_rfl) (fun K_ hK => ?_)
    go_simp
    refine hK.out _ _ (fun h_ _ => absurd h_ (by decide)) ?_
    clear hK K_
    try simp only [List.getElem_toArray, List.getElem_cons_zero, List.getElem_cons_succ, Act.put, List.setIfInBounds_toArray, List.set_cons_zero, List.set_cons_succ]
    refine wpG_ready (i := 3) rfl (by kernel_rfl) (fun K_ hK => ?_)
    rw [if_pos (by rfl)]
    obtain ⟨i0, hi, hz0, hz1, hz2⟩ := info_parts actInfo
    refine wp_append_lies _ _ _ 23 rfl w.heap.size 67 i0 _ 3 24 Try.underlying23 hi hz0 hz1 hz2 rfl (by decide) _ acc.length (acc.flatMap encAction) rfl (World.ownsRow.alloc HOw.out.drew _) ⟨_, 0, none⟩ 1 1 (encAction ⟨a1, a2, a3⟩) rfl (by simp [encAction]) ?_ (encAction_one' _) (by decide) (by have := HL31.out; unfold maxLen; omega) (by have := HL31.out; omega) (Nat.le_trans HBk.out.size (by simp)) _ rfl ?_
    · intro j u hu
      have hadd : ∀ (g j : Nat), (⟨g, 0, none⟩ : Addr).add j = ⟨g, j, none⟩ := fun g j => by unfold Addr.add; split <;> simp_all
      rw [hadd]
      change (Wk.alloc (.cells #[.int .i64 a1, .int .i64 a2, .int .u64 a3] 67)).cell? ⟨Wk.heap.size, j, none⟩ = some u
      rw [World.cell?_alloc_at _ _ _ _ rfl]
      simpa [encAction] using hu
    intro gc cpc w3 hown3 hgrow3 hat3 hlt3
    have HO3 : Hid (OwnL w3 w.heap.size 67 3 encAction (.slice (some ⟨gc, 0, none⟩) (acc.length + 1) cpc) (acc ++ [⟨a1, a2, a3⟩])) := Lib.hid (by
      unfold OwnL
      rw [List.flatMap_append, List.length_append]
      exact hown3)
    have hg3 : (World.drew (Wk.alloc (.cells #[.int .i64 a1, .int .i64 a2, .int .u64 a3] 67))).grownBy w3 (Value.ownBlock (.slice oa acc.length oc)) := hgrow3
    have HB3 := Lib.hid ((HBk.out.alloc HBk.out.size (.cells #[.int .i64 a1, .int .i64 a2, .int .u64 a3] 67)).drew.grown hg3 (Nat.le_trans HBk.out.size (by simp)) (fun k hk => (HOw.out.block k hk).1))
    clear hown3 hg3 hgrow3 hat3 hlt3
    refine hK.out _ _ (fun h_ _ => absurd h_ (by decide)) ?_
    clear hK K_
    try simp only [List.getElem_toArray, List.getElem_cons_zero, List.getElem_cons_succ, Act.put, List.setIfInBounds_toArray, List.set_cons_zero, List.set_cons_succ]
    clear K HOw HBk
    have K : Hid (KR w3.heap.size w3 [] w3) := Lib.hid (KR.start (Below.refl _ _) (Nat.le_refl _))
    refine wpG_pure (i := 7) (v := ?_) rfl (by kernel_rfl) (by kernel_rfl) (by kernel_rfl) (fun _ _ _ h => h) (Or.inl ⟨by rfl, ?_⟩) ?_
    rotate_left
    · (intro w_ hS; clear hS; go_simp; try with_reducible rfl)
    try simp only [List.getElem_toArray, List.getElem_cons_zero, List.getElem_cons_succ, Act.put, List.setIfInBounds_toArray, List.set_cons_zero, List.set_cons_succ]
    refine wpG_pure (i := 8) (v := ?_) rfl (by kernel_rfl) (by kernel_rfl) (by kernel_rfl) (fun _ _ _ h => h) (Or.inl ⟨by rfl, ?_⟩) ?_
    rotate_left
    · (intro w_ hS; clear hS; go_simp; try with_reducible rfl)
    try simp only [List.getElem_toArray, List.getElem_cons_zero, List.getElem_cons_succ, Act.put, List.setIfInBounds_toArray, List.set_cons_zero, List.set_cons_succ]
    refine wpG_done (by kernel_rfl) ?_ _
    refine NoPanic.normal ?_
    go_wp2_with fail
    go_roundg n0
    case measure => omega
    case rel => exact ⟨_, _, rfl, Lib.hid (by have := HD.out; rw [ByteArray.size_extract]; omega), Lib.hid (by have := HG.out; rw [ByteArray.size_extract]; omega), Lib.hid (by have := HL31.out; simp; omega), HFn, HO3, HB3⟩
end Go.Proofs.Ytdjhbahiiabimaa
