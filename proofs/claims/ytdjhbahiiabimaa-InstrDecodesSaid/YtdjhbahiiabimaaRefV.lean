/- droverref07.take (printed by gen/refn.py). Plain: what a part takes up is what it seems to say. droverref07.Decode (printed by gen/refp.py). InstrDecodes. -/
import Derived.Test.YtdjhbahiiabimaaRefT
import Derived.Test.YtdjhbahiiabimaaLaw07e
namespace Go.Proofs.Ytdjhbahiiabimaa
section
open Go.RowKit
set_option linter.unusedVariables false
set_option linter.unusedSimpArgs false

def actsR (s : ByteArray) : List Action × Int := decAs ((s.extract 8 s.size).size + 1) (s.extract 8 s.size) []
def zero4 : ByteArray := ⟨#[0, 0, 0, 0]⟩
/-- What a part takes up; how far it stands in the order, and whether it is one. -/
def takeP (p : Part) (s : ByteArray) : Part × Int × Bool :=
  if exN s 0 2 = 6 then ({ p with mt := exN s 4 8 }, 1, decide (s.size = 8) && (exN s 4 8 != 0))
  else if exN s 0 2 = 5 then ({ p with cl := true }, 3, decide (s.extract 2 s.size = ⟨#[0, 8, 0, 0, 0, 0]⟩))
  else if exN s 0 2 = 4 then ({ p with pA := (actsR s).1 }, 2, ((actsR s).2 == 0) && (decide (0 < (actsR s).1.length) && decide (s.extract 4 8 = ⟨#[0, 0, 0, 0]⟩)))
  else if exN s 0 2 = 3 then ({ p with pW := (actsR s).1 }, 4, ((actsR s).2 == 0) && (decide (0 < (actsR s).1.length) && decide (s.extract 4 8 = ⟨#[0, 0, 0, 0]⟩)))
  else if exN s 0 2 = 2 then (if s.size ≠ 24 then (p, 0, false) else ({ p with me := exN s 8 16, ma := exN s 16 24 }, 5, decide (s.extract 4 8 = ⟨#[0, 0, 0, 0]⟩) && (exN s 16 24 != 0)))
  else if exN s 0 2 = 1 then ({ p with gt := (byteA s 4 : Int) }, 6, decide (s.size = 8) && (decide (s.extract 5 s.size = ⟨#[0, 0, 0]⟩) && ((byteA s 4 : Int) != 0)))
  else (p, 0, false)
def TakePost (B : Nat) (w0 : World) (gx g0 : Nat) (Z : Array Value) (tb : Int) (r : Part × Int × Bool) (x : Ending) (w' : World) : Prop :=
  ∃ vA vW, x = .returned (.tuple #[.int .i64 r.2.1, .bool r.2.2]) ∧ OwnL w' (gx + 1) 67 3 encAction vA r.1.pA ∧ OwnL w' (gx + 1) 67 3 encAction vW r.1.pW ∧ KR B w0 [(gx, 26, entC tb 0 (.slice none 0 0) vA vW r.1.cl r.1.me r.1.ma r.1.mt r.1.gt), (g0, 26, Z)] w'
theorem exN4_bd (s : ByteArray) : 0 ≤ exN s 4 8 ∧ exN s 4 8 ≤ 4294967295 := by
  unfold exN
  have hl : (s.extract 4 8).data.toList.length ≤ 4 := by rw [size_data, ByteArray.size_extract]; omega
  rw [numG_eq _ (by omega)]
  have h1 := numN_lt (s.extract 4 8).data.toList
  have h2 : 256 ^ (s.extract 4 8).data.toList.length ≤ 256 ^ 4 := Nat.pow_le_pow_right (by decide) hl
  have h3 : (256 : Nat) ^ 4 = 4294967296 := by decide
  omega
theorem i64_in6 {v : Int} (h0 : 0 ≤ v) (h1 : v ≤ 4294967295) : IntKind.i64.wrap v = v := IntWalk.i64_in v (by omega)
theorem ext_eq (a : ByteArray) (l : List UInt8) : ((a.toList == l) = true ↔ a = str l) := by
  rw [ByteArray.toList_eq]
  constructor
  · intro h
    have := beq_iff_eq.1 h
    rw [← this, str_of]
  · intro h; rw [h, str_data]; simp
theorem ext_beq (a : ByteArray) (l : List UInt8) : (a.toList == l) = decide (a = str l) := by
  cases h : decide (a = str l)
  · have := of_decide_eq_false h
    cases h2 : (a.toList == l)
    · rfl
    · exact absurd ((ext_eq a l).1 h2) this
  · exact (ext_eq a l).2 (of_decide_eq_true h)
set_option maxRecDepth 100000 in
set_option maxHeartbeats 16000000 in
theorem r7take_any (w w0 : World) (B gx g0 : Nat) (Z : Array Value) (tb : Int) (vA vW : Value) (pA pW : List Action) (cl : Bool) (me ma mt gt : Int) (s : ByteArray) (hs : 8 ≤ s.size) (hs2 : s.size ≤ 100000) (hBg : B ≤ gx) (hg0 : g0 ≠ gx)
    (hA : OwnL w (gx + 1) 67 3 encAction vA pA) (hW : OwnL w (gx + 1) 67 3 encAction vW pW) (hK : KR B w0 [(gx, 26, entC tb 0 (.slice none 0 0) vA vW cl me ma mt gt), (g0, 26, Z)] w) (R : Part × Int × Bool) (hR : takeP ⟨pA, pW, cl, me, ma, mt, gt⟩ s = R) :
    Calls Try.prog 31 #[.pointer (some ⟨gx, 0, none⟩), .string s] w (TakePost B w0 gx g0 Z tb R) := by
  have H2 : Hid (∀ W : World, Calls Try.prog 30 #[.string (s.extract 0 2)] W fun x w' => x = .returned (.int .u64 (exN s 0 2)) ∧ W = w') := Lib.hid (fun W => exNum W s 0 2 (by decide))
  have H48 : Hid (∀ W : World, Calls Try.prog 30 #[.string (s.extract 4 8)] W fun x w' => x = .returned (.int .u64 (exN s 4 8)) ∧ W = w') := Lib.hid (fun W => exNum W s 4 8 (by decide))
  have H16 : Hid (∀ W : World, Calls Try.prog 30 #[.string (s.extract 8 16)] W fun x w' => x = .returned (.int .u64 (exN s 8 16)) ∧ W = w') := Lib.hid (fun W => exNum W s 8 16 (by decide))
  have H24 : Hid (∀ W : World, Calls Try.prog 30 #[.string (s.extract 16 24)] W fun x w' => x = .returned (.int .u64 (exN s 16 24)) ∧ W = w') := Lib.hid (fun W => exNum W s 16 24 (by decide))
  have HDc := Lib.hid (fun W => r6Decode_any W (s.extract 8 s.size) (by rw [ByteArray.size_extract]; omega) _ (Nat.lt_succ_self _) (actsR s) rfl)
  have hm := exN4_bd s
  have HR := Lib.hid hR
  unfold takeP at HR
  generalize exN s 16 24 = n24 at *
  generalize exN s 8 16 = n16 at *
  generalize exN s 4 8 = m at *
  generalize exN s 0 2 = k at *
  generalize actsR s = AR at *
  have K := Lib.hid hK
  have HA := Lib.hid hA
  have HW := Lib.hid hW
  have hne : ∀ x ∈ [(g0, 26, Z)], x.1 ≠ gx := by intro x hx; rw [List.mem_singleton.1 hx]; exact hg0
  have HNe := Lib.hid hne
  have hgw : gx < w.heap.size := K.out.lt 0 rfl
  have HGw : Hid (gx + 1 ≤ w.heap.size) := Lib.hid hgw
  have i2 : (2 : Int) ≤ s.size := by omega
  have i4 : (4 : Int) ≤ s.size := by omega
  have i8 : (8 : Int) ≤ s.size := by omega
  have i5 : (5 : Int) ≤ s.size := by omega
  clear hR hK hA hW hne hg0 hgw
  go_enter Try.func31, Try.ntmps31
  go_wp2_with fail
  refine (H2.out _).mono ?_
  rintro x w' ⟨rfl, rfl⟩
  clear H2
  by_cases h6 : k = 6
  · subst h6
    have w4 : IntKind.i64.wrap m = m := i64_in6 (by omega) (by omega)
    have c8 := (K.out.at 0 rfl).cell 8 _ rfl
    have f8 := (K.out.at 0 rfl).frozen 8
    go_wp2_with fail
    refine (H48.out _).mono ?_
    rintro x w' ⟨rfl, rfl⟩
    go_upto_region 5 with fail
    clear c8 f8
    replace HA := Lib.hid (HA.out.bar ((Bar.refl gx _).set 8 (.int .i64 m)) (fun k hk => by have := (HA.out.block k hk).1; omega))
    replace HW := Lib.hid (HW.out.bar ((Bar.refl gx _).set 8 (.int .i64 m)) (fun k hk => by have := (HW.out.block k hk).1; omega))
    replace K : Hid (KR B w0 [(gx, 26, entC tb 0 (.slice none 0 0) vA vW cl me ma m gt), (g0, 26, Z)] _) := Lib.hid (K.out.set0 8 (.int .i64 m) hBg HNe.out)
    generalize w.setCell ⟨gx, 8, none⟩ (.int .i64 m) = w1 at *
    have K : Hid (KS B w0 [(gx, 26, entC tb 0 (.slice none 0 0) vA vW cl me ma m gt), (g0, 26, Z)] w1 w1) := Lib.hid (KS.start K.out)
    by_cases h8 : s.size = 8
    · have t8 : ((s.size : Int) == 8) = true := by rw [h8]; rfl
      have HRn : Hid ((({ pA := pA, pW := pW, cl := cl, me := me, ma := ma, mt := m, gt := gt } : Part), (1 : Int), (m != 0)) = R) := Lib.hid (by rw [← HR.out, decide_eq_true h8]; rfl)
      clear HR
      haveI : Nonempty (Keep (KS B w0 [(gx, 26, entC tb 0 (.slice none 0 0) vA vW cl me ma m gt), (g0, 26, Z)] w1)) := ⟨⟨_, K.out⟩⟩
      have kc0 := fun q : Keep (KS B w0 [(gx, 26, entC tb 0 (.slice none 0 0) vA vW cl me ma m gt), (g0, 26, Z)] w1) => (KS.at q.h 0 rfl).cell 8 _ rfl
      refine wp_region_keep2 (Cl := KS B w0 [(gx, 26, entC tb 0 (.slice none 0 0) vA vW cl me ma m gt), (g0, 26, Z)] w1) (by kernel_rfl) (by kernel_rfl) K.out.drew ?_
      intro y' hy'
      have g3_ := fun tmps => hy' tmps 3 25 rfl
      have gb_ := yl_bool
      clear hy' K
      repeat
        first
          | (refine wpQ2_step (fun K hK => ?_)
             go_simp
             first
               | (refine hK _ ?_; clear hK K)
               | (apply Exists.intro
                  refine ⟨fun _ => ?_, hK _ ?_⟩
                  (rw [if_neg (by omega)]; exact ⟨rfl, rfl⟩)
                  clear hK K))
      refine wpQ2_nil ?_
      clear kc0
      intro Wk Kk
      have K := Lib.hid Kk
      clear Kk
      clear gb_ g3_
      have HA2 := Lib.hid (HA.out.below K.out.2 (fun k hk => (HA.out.block k hk).2))
      have HW2 := Lib.hid (HW.out.below K.out.2 (fun k hk => (HW.out.block k hk).2))
      have K2 := Lib.hid K.out.1
      clear HA HW K
      go_wp2_with fail
      go_ret2
      rw [← HRn.out]
      exact ⟨_, _, rfl, HA2.out, HW2.out, K2.out⟩
    · have t8 : ((s.size : Int) == 8) = false := by simp; omega
      have HRn : Hid ((({ pA := pA, pW := pW, cl := cl, me := me, ma := ma, mt := m, gt := gt } : Part), (1 : Int), false) = R) := Lib.hid (by rw [← HR.out, decide_eq_false h8]; rfl)
      clear HR
      haveI : Nonempty (Keep (KS B w0 [(gx, 26, entC tb 0 (.slice none 0 0) vA vW cl me ma m gt), (g0, 26, Z)] w1)) := ⟨⟨_, K.out⟩⟩
      have kc0 := fun q : Keep (KS B w0 [(gx, 26, entC tb 0 (.slice none 0 0) vA vW cl me ma m gt), (g0, 26, Z)] w1) => (KS.at q.h 0 rfl).cell 8 _ rfl
      refine wp_region_keep2 (Cl := KS B w0 [(gx, 26, entC tb 0 (.slice none 0 0) vA vW cl me ma m gt), (g0, 26, Z)] w1) (by kernel_rfl) (by kernel_rfl) K.out.drew ?_
      intro y' hy'
      have g3_ := fun tmps => hy' tmps 3 25 rfl
      have gb_ := yl_bool
      clear hy' K
      repeat
        first
          | (refine wpQ2_step (fun K hK => ?_)
             go_simp
             first
               | (refine hK _ ?_; clear hK K)
               | (apply Exists.intro
                  refine ⟨fun _ => ?_, hK _ ?_⟩
                  (rw [if_neg (by omega)]; exact ⟨rfl, rfl⟩)
                  clear hK K))
      refine wpQ2_nil ?_
      clear kc0
      intro Wk Kk
      have K := Lib.hid Kk
      clear Kk
      clear gb_ g3_
      have HA2 := Lib.hid (HA.out.below K.out.2 (fun k hk => (HA.out.block k hk).2))
      have HW2 := Lib.hid (HW.out.below K.out.2 (fun k hk => (HW.out.block k hk).2))
      have K2 := Lib.hid K.out.1
      clear HA HW K
      go_wp2_with fail
      go_ret2
      rw [← HRn.out]
      exact ⟨_, _, rfl, HA2.out, HW2.out, K2.out⟩
  have t6 : (k == 6) = false := by simpa using h6
  by_cases h5 : k = 5
  · subst h5
    have c5 := (K.out.at 0 rfl).cell 5 _ rfl
    have f5 := (K.out.at 0 rfl).frozen 5
    have hq := ext_beq (s.extract 2 s.size) [0, 8, 0, 0, 0, 0]
    go_upto_region 8 with fail
    clear c5 f5
    replace HA := Lib.hid (HA.out.bar ((Bar.refl gx _).set 5 (.bool true)) (fun k hk => by have := (HA.out.block k hk).1; omega))
    replace HW := Lib.hid (HW.out.bar ((Bar.refl gx _).set 5 (.bool true)) (fun k hk => by have := (HW.out.block k hk).1; omega))
    replace K : Hid (KR B w0 [(gx, 26, entC tb 0 (.slice none 0 0) vA vW true me ma mt gt), (g0, 26, Z)] _) := Lib.hid (K.out.set0 5 (.bool true) hBg HNe.out)
    generalize w.setCell ⟨gx, 5, none⟩ (.bool true) = w1 at *
    have K : Hid (KS B w0 [(gx, 26, entC tb 0 (.slice none 0 0) vA vW true me ma mt gt), (g0, 26, Z)] w1 w1) := Lib.hid (KS.start K.out)
    have HRn : Hid ((({ pA := pA, pW := pW, cl := true, me := me, ma := ma, mt := mt, gt := gt } : Part), (3 : Int), decide (s.extract 2 s.size = str [0, 8, 0, 0, 0, 0])) = R) := Lib.hid (by rw [← HR.out]; rfl)
    clear HR
    generalize decide (s.extract 2 s.size = str [0, 8, 0, 0, 0, 0]) = T at *
    haveI : Nonempty (Keep (KS B w0 [(gx, 26, entC tb 0 (.slice none 0 0) vA vW true me ma mt gt), (g0, 26, Z)] w1)) := ⟨⟨_, K.out⟩⟩
    refine wp_region_keep2 (Cl := KS B w0 [(gx, 26, entC tb 0 (.slice none 0 0) vA vW true me ma mt gt), (g0, 26, Z)] w1) (by kernel_rfl) (by kernel_rfl) K.out.drew ?_
    intro y' hy'
    clear hy' K
    repeat
      first
        | (refine wpQ2_step (fun K hK => ?_)
           go_simp
           first
             | (refine hK _ ?_; clear hK K)
             | (apply Exists.intro
                refine ⟨fun _ => ?_, hK _ ?_⟩
                (rw [if_neg (by omega)]; exact ⟨rfl, rfl⟩)
                clear hK K))
    refine wpQ2_nil ?_
    intro Wk Kk
    have K := Lib.hid Kk
    clear Kk
    have HA2 := Lib.hid (HA.out.below K.out.2 (fun k hk => (HA.out.block k hk).2))
    have HW2 := Lib.hid (HW.out.below K.out.2 (fun k hk => (HW.out.block k hk).2))
    have K2 := Lib.hid K.out.1
    clear HA HW K
    go_wp2_with fail
    go_ret2
    rw [← HRn.out]
    exact ⟨_, _, rfl, HA2.out, HW2.out, K2.out⟩
  have t5 : (k == 5) = false := by simpa using h5
  by_cases h4 : k = 4
  · subst h4
    go_wp2_with fail
    refine (HDc.out _).mono ?_
    rintro x w2 ⟨vl, rfl, hol, hb⟩
    have HL := Lib.hid (hol.down HGw.out)
    replace HA := Lib.hid (HA.out.below hb (fun k hk => (HA.out.block k hk).2))
    replace HW := Lib.hid (HW.out.below hb (fun k hk => (HW.out.block k hk).2))
    replace K := Lib.hid (K.out.call hb)
    clear hol hb HDc
    obtain ⟨l, e⟩ := AR
    simp only at HL HR
    obtain ⟨la, lc, hvl, hlc1, hlc2⟩ := HL.out.slice
    subst hvl
    have hln : Hid (l.length = l.length) := Lib.hid rfl
    have q4 := ext_beq (s.extract 4 8) [0, 0, 0, 0]
    have c3 := (K.out.at 0 rfl).cell 3 _ rfl
    have f3 := (K.out.at 0 rfl).frozen 3
    go_upto_region 15 with fail
    clear c3 f3
    replace HL := Lib.hid (HL.out.bar ((Bar.refl gx _).set 3 (.slice la l.length lc)) (fun k hk => by have := (HL.out.block k hk).1; omega))
    replace HA := Lib.hid (HA.out.bar ((Bar.refl gx _).set 3 (.slice la l.length lc)) (fun k hk => by have := (HA.out.block k hk).1; omega))
    replace HW := Lib.hid (HW.out.bar ((Bar.refl gx _).set 3 (.slice la l.length lc)) (fun k hk => by have := (HW.out.block k hk).1; omega))
    replace K : Hid (KR B w0 [(gx, 26, entC tb 0 (.slice none 0 0) (.slice la l.length lc) vW cl me ma mt gt), (g0, 26, Z)] _) := Lib.hid (K.out.set0 3 (.slice la l.length lc) hBg HNe.out)
    generalize w2.setCell ⟨gx, 3, none⟩ (.slice la l.length lc) = w1 at *
    have K : Hid (KS B w0 [(gx, 26, entC tb 0 (.slice none 0 0) (.slice la l.length lc) vW cl me ma mt gt), (g0, 26, Z)] w1 w1) := Lib.hid (KS.start K.out)
    have HRn0 : Hid ((({ pA := l, pW := pW, cl := cl, me := me, ma := ma, mt := mt, gt := gt } : Part), (2 : Int), ((e == 0) && (decide (0 < l.length) && decide (s.extract 4 8 = str [0, 0, 0, 0])))) = R) := Lib.hid (by rw [← HR.out]; rfl)
    clear HR
    generalize decide (s.extract 4 8 = str [0, 0, 0, 0]) = T at *
    cases te : (e == 0)
    · have HRn : Hid ((({ pA := l, pW := pW, cl := cl, me := me, ma := ma, mt := mt, gt := gt } : Part), (2 : Int), false) = R) := Lib.hid (by rw [← HRn0.out, te]; rfl)
      clear HRn0
      haveI : Nonempty (Keep (KS B w0 [(gx, 26, entC tb 0 (.slice none 0 0) (.slice la l.length lc) vW cl me ma mt gt), (g0, 26, Z)] w1)) := ⟨⟨_, K.out⟩⟩
      refine wp_region_keep2 (Cl := KS B w0 [(gx, 26, entC tb 0 (.slice none 0 0) (.slice la l.length lc) vW cl me ma mt gt), (g0, 26, Z)] w1) (by kernel_rfl) (by kernel_rfl) K.out.drew ?_
      intro y' hy'
      have g7_ := fun tmps => hy' tmps 7 66 rfl
      have g12_ := fun tmps => hy' tmps 12 71 rfl
      have gb_ := yl_bool
      clear hy' K
      repeat
        first
          | (refine wpQ2_step (fun K hK => ?_)
             go_simp
             first
               | (refine hK _ ?_; clear hK K)
               | (apply Exists.intro
                  refine ⟨fun _ => ?_, hK _ ?_⟩
                  (rw [if_neg (by omega)]; exact ⟨rfl, rfl⟩)
                  clear hK K))
      refine wpQ2_nil ?_
      intro Wk Kk
      have K := Lib.hid Kk
      clear Kk
      clear gb_ g7_ g12_
      have HL2 := Lib.hid (HL.out.below K.out.2 (fun k hk => (HL.out.block k hk).2))
      have HA2 := Lib.hid (HA.out.below K.out.2 (fun k hk => (HA.out.block k hk).2))
      have HW2 := Lib.hid (HW.out.below K.out.2 (fun k hk => (HW.out.block k hk).2))
      have K2 := Lib.hid K.out.1
      clear HA HW K
      go_wp2_with fail
      go_ret2
      rw [← HRn.out]
      exact ⟨_, _, rfl, HL2.out, HW2.out, K2.out⟩
    · by_cases h0 : 0 < l.length
      · have t0 : decide (0 < l.length) = true := decide_eq_true h0
        have HRn : Hid ((({ pA := l, pW := pW, cl := cl, me := me, ma := ma, mt := mt, gt := gt } : Part), (2 : Int), T) = R) := Lib.hid (by rw [← HRn0.out, te, t0]; rfl)
        clear HRn0
        haveI : Nonempty (Keep (KS B w0 [(gx, 26, entC tb 0 (.slice none 0 0) (.slice la l.length lc) vW cl me ma mt gt), (g0, 26, Z)] w1)) := ⟨⟨_, K.out⟩⟩
        refine wp_region_keep2 (Cl := KS B w0 [(gx, 26, entC tb 0 (.slice none 0 0) (.slice la l.length lc) vW cl me ma mt gt), (g0, 26, Z)] w1) (by kernel_rfl) (by kernel_rfl) K.out.drew ?_
        intro y' hy'
        have g7_ := fun tmps => hy' tmps 7 66 rfl
        have g12_ := fun tmps => hy' tmps 12 71 rfl
        have gb_ := yl_bool
        clear hy' K
        repeat
          first
            | (refine wpQ2_step (fun K hK => ?_)
               go_simp
               first
                 | (refine hK _ ?_; clear hK K)
                 | (apply Exists.intro
                    refine ⟨fun _ => ?_, hK _ ?_⟩
                    (rw [if_neg (by omega)]; exact ⟨rfl, rfl⟩)
                    clear hK K))
        refine wpQ2_nil ?_
        intro Wk Kk
        have K := Lib.hid Kk
        clear Kk
        clear gb_ g7_ g12_
        have HL2 := Lib.hid (HL.out.below K.out.2 (fun k hk => (HL.out.block k hk).2))
        have HA2 := Lib.hid (HA.out.below K.out.2 (fun k hk => (HA.out.block k hk).2))
        have HW2 := Lib.hid (HW.out.below K.out.2 (fun k hk => (HW.out.block k hk).2))
        have K2 := Lib.hid K.out.1
        clear HA HW K
        go_wp2_with fail
        go_ret2
        rw [← HRn.out]
        exact ⟨_, _, rfl, HL2.out, HW2.out, K2.out⟩
      · have t0 : decide (0 < l.length) = false := decide_eq_false h0
        have HRn : Hid ((({ pA := l, pW := pW, cl := cl, me := me, ma := ma, mt := mt, gt := gt } : Part), (2 : Int), false) = R) := Lib.hid (by rw [← HRn0.out, te, t0]; rfl)
        clear HRn0
        haveI : Nonempty (Keep (KS B w0 [(gx, 26, entC tb 0 (.slice none 0 0) (.slice la l.length lc) vW cl me ma mt gt), (g0, 26, Z)] w1)) := ⟨⟨_, K.out⟩⟩
        refine wp_region_keep2 (Cl := KS B w0 [(gx, 26, entC tb 0 (.slice none 0 0) (.slice la l.length lc) vW cl me ma mt gt), (g0, 26, Z)] w1) (by kernel_rfl) (by kernel_rfl) K.out.drew ?_
        intro y' hy'
        have g7_ := fun tmps => hy' tmps 7 66 rfl
        have g12_ := fun tmps => hy' tmps 12 71 rfl
        have gb_ := yl_bool
        clear hy' K
        repeat
          first
            | (refine wpQ2_step (fun K hK => ?_)
               go_simp
               first
                 | (refine hK _ ?_; clear hK K)
                 | (apply Exists.intro
                    refine ⟨fun _ => ?_, hK _ ?_⟩
                    (rw [if_neg (by omega)]; exact ⟨rfl, rfl⟩)
                    clear hK K))
        refine wpQ2_nil ?_
        intro Wk Kk
        have K := Lib.hid Kk
        clear Kk
        clear gb_ g7_ g12_
        have HL2 := Lib.hid (HL.out.below K.out.2 (fun k hk => (HL.out.block k hk).2))
        have HA2 := Lib.hid (HA.out.below K.out.2 (fun k hk => (HA.out.block k hk).2))
        have HW2 := Lib.hid (HW.out.below K.out.2 (fun k hk => (HW.out.block k hk).2))
        have K2 := Lib.hid K.out.1
        clear HA HW K
        go_wp2_with fail
        go_ret2
        rw [← HRn.out]
        exact ⟨_, _, rfl, HL2.out, HW2.out, K2.out⟩
  have t4 : (k == 4) = false := by simpa using h4
  by_cases h3 : k = 3
  · subst h3
    go_wp2_with fail
    refine (HDc.out _).mono ?_
    rintro x w2 ⟨vl, rfl, hol, hb⟩
    have HL := Lib.hid (hol.down HGw.out)
    replace HA := Lib.hid (HA.out.below hb (fun k hk => (HA.out.block k hk).2))
    replace HW := Lib.hid (HW.out.below hb (fun k hk => (HW.out.block k hk).2))
    replace K := Lib.hid (K.out.call hb)
    clear hol hb HDc
    obtain ⟨l, e⟩ := AR
    simp only at HL HR
    obtain ⟨la, lc, hvl, hlc1, hlc2⟩ := HL.out.slice
    subst hvl
    have hln : Hid (l.length = l.length) := Lib.hid rfl
    have q4 := ext_beq (s.extract 4 8) [0, 0, 0, 0]
    have c4 := (K.out.at 0 rfl).cell 4 _ rfl
    have f4 := (K.out.at 0 rfl).frozen 4
    go_upto_region 15 with fail
    clear c4 f4
    replace HL := Lib.hid (HL.out.bar ((Bar.refl gx _).set 4 (.slice la l.length lc)) (fun k hk => by have := (HL.out.block k hk).1; omega))
    replace HA := Lib.hid (HA.out.bar ((Bar.refl gx _).set 4 (.slice la l.length lc)) (fun k hk => by have := (HA.out.block k hk).1; omega))
    replace HW := Lib.hid (HW.out.bar ((Bar.refl gx _).set 4 (.slice la l.length lc)) (fun k hk => by have := (HW.out.block k hk).1; omega))
    replace K : Hid (KR B w0 [(gx, 26, entC tb 0 (.slice none 0 0) vA (.slice la l.length lc) cl me ma mt gt), (g0, 26, Z)] _) := Lib.hid (K.out.set0 4 (.slice la l.length lc) hBg HNe.out)
    generalize w2.setCell ⟨gx, 4, none⟩ (.slice la l.length lc) = w1 at *
    have K : Hid (KS B w0 [(gx, 26, entC tb 0 (.slice none 0 0) vA (.slice la l.length lc) cl me ma mt gt), (g0, 26, Z)] w1 w1) := Lib.hid (KS.start K.out)
    have HRn0 : Hid ((({ pA := pA, pW := l, cl := cl, me := me, ma := ma, mt := mt, gt := gt } : Part), (4 : Int), ((e == 0) && (decide (0 < l.length) && decide (s.extract 4 8 = str [0, 0, 0, 0])))) = R) := Lib.hid (by rw [← HR.out]; rfl)
    clear HR
    generalize decide (s.extract 4 8 = str [0, 0, 0, 0]) = T at *
    cases te : (e == 0)
    · have HRn : Hid ((({ pA := pA, pW := l, cl := cl, me := me, ma := ma, mt := mt, gt := gt } : Part), (4 : Int), false) = R) := Lib.hid (by rw [← HRn0.out, te]; rfl)
      clear HRn0
      haveI : Nonempty (Keep (KS B w0 [(gx, 26, entC tb 0 (.slice none 0 0) vA (.slice la l.length lc) cl me ma mt gt), (g0, 26, Z)] w1)) := ⟨⟨_, K.out⟩⟩
      refine wp_region_keep2 (Cl := KS B w0 [(gx, 26, entC tb 0 (.slice none 0 0) vA (.slice la l.length lc) cl me ma mt gt), (g0, 26, Z)] w1) (by kernel_rfl) (by kernel_rfl) K.out.drew ?_
      intro y' hy'
      have g7_ := fun tmps => hy' tmps 7 66 rfl
      have g12_ := fun tmps => hy' tmps 12 71 rfl
      have gb_ := yl_bool
      clear hy' K
      repeat
        first
          | (refine wpQ2_step (fun K hK => ?_)
             go_simp
             first
               | (refine hK _ ?_; clear hK K)
               | (apply Exists.intro
                  refine ⟨fun _ => ?_, hK _ ?_⟩
                  (rw [if_neg (by omega)]; exact ⟨rfl, rfl⟩)
                  clear hK K))
      refine wpQ2_nil ?_
      intro Wk Kk
      have K := Lib.hid Kk
      clear Kk
      clear gb_ g7_ g12_
      have HL2 := Lib.hid (HL.out.below K.out.2 (fun k hk => (HL.out.block k hk).2))
      have HA2 := Lib.hid (HA.out.below K.out.2 (fun k hk => (HA.out.block k hk).2))
      have HW2 := Lib.hid (HW.out.below K.out.2 (fun k hk => (HW.out.block k hk).2))
      have K2 := Lib.hid K.out.1
      clear HA HW K
      go_wp2_with fail
      go_ret2
      rw [← HRn.out]
      exact ⟨_, _, rfl, HA2.out, HL2.out, K2.out⟩
    · by_cases h0 : 0 < l.length
      · have t0 : decide (0 < l.length) = true := decide_eq_true h0
        have HRn : Hid ((({ pA := pA, pW := l, cl := cl, me := me, ma := ma, mt := mt, gt := gt } : Part), (4 : Int), T) = R) := Lib.hid (by rw [← HRn0.out, te, t0]; rfl)
        clear HRn0
        haveI : Nonempty (Keep (KS B w0 [(gx, 26, entC tb 0 (.slice none 0 0) vA (.slice la l.length lc) cl me ma mt gt), (g0, 26, Z)] w1)) := ⟨⟨_, K.out⟩⟩
        refine wp_region_keep2 (Cl := KS B w0 [(gx, 26, entC tb 0 (.slice none 0 0) vA (.slice la l.length lc) cl me ma mt gt), (g0, 26, Z)] w1) (by kernel_rfl) (by kernel_rfl) K.out.drew ?_
        intro y' hy'
        have g7_ := fun tmps => hy' tmps 7 66 rfl
        have g12_ := fun tmps => hy' tmps 12 71 rfl
        have gb_ := yl_bool
        clear hy' K
        repeat
          first
            | (refine wpQ2_step (fun K hK => ?_)
               go_simp
               first
                 | (refine hK _ ?_; clear hK K)
                 | (apply Exists.intro
                    refine ⟨fun _ => ?_, hK _ ?_⟩
                    (rw [if_neg (by omega)]; exact ⟨rfl, rfl⟩)
                    clear hK K))
        refine wpQ2_nil ?_
        intro Wk Kk
        have K := Lib.hid Kk
        clear Kk
        clear gb_ g7_ g12_
        have HL2 := Lib.hid (HL.out.below K.out.2 (fun k hk => (HL.out.block k hk).2))
        have HA2 := Lib.hid (HA.out.below K.out.2 (fun k hk => (HA.out.block k hk).2))
        have HW2 := Lib.hid (HW.out.below K.out.2 (fun k hk => (HW.out.block k hk).2))
        have K2 := Lib.hid K.out.1
        clear HA HW K
        go_wp2_with fail
        go_ret2
        rw [← HRn.out]
        exact ⟨_, _, rfl, HA2.out, HL2.out, K2.out⟩
      · have t0 : decide (0 < l.length) = false := decide_eq_false h0
        have HRn : Hid ((({ pA := pA, pW := l, cl := cl, me := me, ma := ma, mt := mt, gt := gt } : Part), (4 : Int), false) = R) := Lib.hid (by rw [← HRn0.out, te, t0]; rfl)
        clear HRn0
        haveI : Nonempty (Keep (KS B w0 [(gx, 26, entC tb 0 (.slice none 0 0) vA (.slice la l.length lc) cl me ma mt gt), (g0, 26, Z)] w1)) := ⟨⟨_, K.out⟩⟩
        refine wp_region_keep2 (Cl := KS B w0 [(gx, 26, entC tb 0 (.slice none 0 0) vA (.slice la l.length lc) cl me ma mt gt), (g0, 26, Z)] w1) (by kernel_rfl) (by kernel_rfl) K.out.drew ?_
        intro y' hy'
        have g7_ := fun tmps => hy' tmps 7 66 rfl
        have g12_ := fun tmps => hy' tmps 12 71 rfl
        have gb_ := yl_bool
        clear hy' K
        repeat
          first
            | (refine wpQ2_step (fun K hK => ?_)
               go_simp
               first
                 | (refine hK _ ?_; clear hK K)
                 | (apply Exists.intro
                    refine ⟨fun _ => ?_, hK _ ?_⟩
                    (rw [if_neg (by omega)]; exact ⟨rfl, rfl⟩)
                    clear hK K))
        refine wpQ2_nil ?_
        intro Wk Kk
        have K := Lib.hid Kk
        clear Kk
        clear gb_ g7_ g12_
        have HL2 := Lib.hid (HL.out.below K.out.2 (fun k hk => (HL.out.block k hk).2))
        have HA2 := Lib.hid (HA.out.below K.out.2 (fun k hk => (HA.out.block k hk).2))
        have HW2 := Lib.hid (HW.out.below K.out.2 (fun k hk => (HW.out.block k hk).2))
        have K2 := Lib.hid K.out.1
        clear HA HW K
        go_wp2_with fail
        go_ret2
        rw [← HRn.out]
        exact ⟨_, _, rfl, HA2.out, HL2.out, K2.out⟩
  have t3 : (k == 3) = false := by simpa using h3
  by_cases h2 : k = 2
  · subst h2
    by_cases h24 : s.size = 24
    case neg =>
      have t24 : ((s.size : Int) == 24) = false := by simp; omega
      have HRn : Hid ((({ pA := pA, pW := pW, cl := cl, me := me, ma := ma, mt := mt, gt := gt } : Part), (0 : Int), false) = R) := Lib.hid (by rw [← HR.out, if_neg (by decide), if_neg (by decide), if_neg (by decide), if_neg (by decide), if_pos rfl, if_pos h24])
      clear HR
      go_wp2_with fail
      go_ret2
      rw [← HRn.out]
      exact ⟨_, _, rfl, HA.out, HW.out, K.out⟩
    have t24 : ((s.size : Int) == 24) = true := by rw [h24]; rfl
    have i16 : (16 : Int) ≤ s.size := by omega
    have i24 : (24 : Int) ≤ s.size := by omega
    have q4 := ext_beq (s.extract 4 8) [0, 0, 0, 0]
    have HRn0 : Hid ((({ pA := pA, pW := pW, cl := cl, me := n16, ma := n24, mt := mt, gt := gt } : Part), (5 : Int), (decide (s.extract 4 8 = str [0, 0, 0, 0]) && (n24 != 0))) = R) := Lib.hid (by rw [← HR.out, if_neg (by decide), if_neg (by decide), if_neg (by decide), if_neg (by decide), if_pos rfl, if_neg (by omega)]; rfl)
    clear HR h24
    generalize decide (s.extract 4 8 = str [0, 0, 0, 0]) = T at *
    have c6 := (K.out.at 0 rfl).cell 6 _ rfl
    have f6 := (K.out.at 0 rfl).frozen 6
    go_wp2_with fail
    refine (H16.out _).mono ?_
    rintro x w' ⟨rfl, rfl⟩
    go_upto_region 20 with fail
    clear c6 f6
    replace HA := Lib.hid (HA.out.bar ((Bar.refl gx _).set 6 (.int .u64 n16)) (fun k hk => by have := (HA.out.block k hk).1; omega))
    replace HW := Lib.hid (HW.out.bar ((Bar.refl gx _).set 6 (.int .u64 n16)) (fun k hk => by have := (HW.out.block k hk).1; omega))
    replace K : Hid (KR B w0 [(gx, 26, entC tb 0 (.slice none 0 0) vA vW cl n16 ma mt gt), (g0, 26, Z)] _) := Lib.hid (K.out.set0 6 (.int .u64 n16) hBg HNe.out)
    generalize w.setCell ⟨gx, 6, none⟩ (.int .u64 n16) = w2 at *
    have c7 := (K.out.at 0 rfl).cell 7 _ rfl
    have f7 := (K.out.at 0 rfl).frozen 7
    go_wp2_with fail
    refine (H24.out _).mono ?_
    rintro x w' ⟨rfl, rfl⟩
    go_upto_region 21 with fail
    clear c7 f7
    replace HA := Lib.hid (HA.out.bar ((Bar.refl gx _).set 7 (.int .u64 n24)) (fun k hk => by have := (HA.out.block k hk).1; omega))
    replace HW := Lib.hid (HW.out.bar ((Bar.refl gx _).set 7 (.int .u64 n24)) (fun k hk => by have := (HW.out.block k hk).1; omega))
    replace K : Hid (KR B w0 [(gx, 26, entC tb 0 (.slice none 0 0) vA vW cl n16 n24 mt gt), (g0, 26, Z)] _) := Lib.hid (K.out.set0 7 (.int .u64 n24) hBg HNe.out)
    generalize w2.setCell ⟨gx, 7, none⟩ (.int .u64 n24) = w1 at *
    have K : Hid (KS B w0 [(gx, 26, entC tb 0 (.slice none 0 0) vA vW cl n16 n24 mt gt), (g0, 26, Z)] w1 w1) := Lib.hid (KS.start K.out)
    cases T
    · have HRn : Hid ((({ pA := pA, pW := pW, cl := cl, me := n16, ma := n24, mt := mt, gt := gt } : Part), (5 : Int), false) = R) := Lib.hid (by rw [← HRn0.out]; rfl)
      clear HRn0
      haveI : Nonempty (Keep (KS B w0 [(gx, 26, entC tb 0 (.slice none 0 0) vA vW cl n16 n24 mt gt), (g0, 26, Z)] w1)) := ⟨⟨_, K.out⟩⟩
      have kc0 := fun q : Keep (KS B w0 [(gx, 26, entC tb 0 (.slice none 0 0) vA vW cl n16 n24 mt gt), (g0, 26, Z)] w1) => (KS.at q.h 0 rfl).cell 7 _ rfl
      refine wp_region_keep2 (Cl := KS B w0 [(gx, 26, entC tb 0 (.slice none 0 0) vA vW cl n16 n24 mt gt), (g0, 26, Z)] w1) (by kernel_rfl) (by kernel_rfl) K.out.drew ?_
      intro y' hy'
      have g3_ := fun tmps => hy' tmps 3 96 rfl
      have gb_ := yl_bool
      clear hy' K
      repeat
        first
          | (refine wpQ2_step (fun K hK => ?_)
             go_simp
             first
               | (refine hK _ ?_; clear hK K)
               | (apply Exists.intro
                  refine ⟨fun _ => ?_, hK _ ?_⟩
                  (rw [if_neg (by omega)]; exact ⟨rfl, rfl⟩)
                  clear hK K))
      refine wpQ2_nil ?_
      clear kc0
      intro Wk Kk
      have K := Lib.hid Kk
      clear Kk
      clear gb_ g3_
      have HA2 := Lib.hid (HA.out.below K.out.2 (fun k hk => (HA.out.block k hk).2))
      have HW2 := Lib.hid (HW.out.below K.out.2 (fun k hk => (HW.out.block k hk).2))
      have K2 := Lib.hid K.out.1
      clear HA HW K
      go_wp2_with fail
      go_ret2
      rw [← HRn.out]
      exact ⟨_, _, rfl, HA2.out, HW2.out, K2.out⟩
    · have HRn : Hid ((({ pA := pA, pW := pW, cl := cl, me := n16, ma := n24, mt := mt, gt := gt } : Part), (5 : Int), (n24 != 0)) = R) := Lib.hid (by rw [← HRn0.out]; rfl)
      clear HRn0
      haveI : Nonempty (Keep (KS B w0 [(gx, 26, entC tb 0 (.slice none 0 0) vA vW cl n16 n24 mt gt), (g0, 26, Z)] w1)) := ⟨⟨_, K.out⟩⟩
      have kc0 := fun q : Keep (KS B w0 [(gx, 26, entC tb 0 (.slice none 0 0) vA vW cl n16 n24 mt gt), (g0, 26, Z)] w1) => (KS.at q.h 0 rfl).cell 7 _ rfl
      refine wp_region_keep2 (Cl := KS B w0 [(gx, 26, entC tb 0 (.slice none 0 0) vA vW cl n16 n24 mt gt), (g0, 26, Z)] w1) (by kernel_rfl) (by kernel_rfl) K.out.drew ?_
      intro y' hy'
      have g3_ := fun tmps => hy' tmps 3 96 rfl
      have gb_ := yl_bool
      clear hy' K
      repeat
        first
          | (refine wpQ2_step (fun K hK => ?_)
             go_simp
             first
               | (refine hK _ ?_; clear hK K)
               | (apply Exists.intro
                  refine ⟨fun _ => ?_, hK _ ?_⟩
                  (rw [if_neg (by omega)]; exact ⟨rfl, rfl⟩)
                  clear hK K))
      refine wpQ2_nil ?_
      clear kc0
      intro Wk Kk
      have K := Lib.hid Kk
      clear Kk
      clear gb_ g3_
      have HA2 := Lib.hid (HA.out.below K.out.2 (fun k hk => (HA.out.block k hk).2))
      have HW2 := Lib.hid (HW.out.below K.out.2 (fun k hk => (HW.out.block k hk).2))
      have K2 := Lib.hid K.out.1
      clear HA HW K
      go_wp2_with fail
      go_ret2
      rw [← HRn.out]
      exact ⟨_, _, rfl, HA2.out, HW2.out, K2.out⟩
  have t2 : (k == 2) = false := by simpa using h2
  by_cases h1 : k = 1
  · subst h1
    have i44 : (4 : Int) < s.size := by omega
    have i44' : 4 < s.size := by omega
    have b4 := byteA_get s 4 i44'
    have l4 := byteA_le s 4
    have q5 := ext_beq (s.extract 5 s.size) [0, 0, 0]
    generalize byteA s 4 = x4 at *
    have w4 : IntKind.i64.wrap (x4 : Int) = x4 := i64_wrap_in (by omega) (by omega)
    have HRn0 : Hid ((({ pA := pA, pW := pW, cl := cl, me := me, ma := ma, mt := mt, gt := x4 } : Part), (6 : Int), (decide (s.size = 8) && (decide (s.extract 5 s.size = str [0, 0, 0]) && ((x4 : Int) != 0)))) = R) := Lib.hid (by rw [← HR.out]; rfl)
    clear HR
    generalize decide (s.extract 5 s.size = str [0, 0, 0]) = T at *
    have c9 := (K.out.at 0 rfl).cell 9 _ rfl
    have f9 := (K.out.at 0 rfl).frozen 9
    go_upto_region 24 with fail
    clear c9 f9
    replace HA := Lib.hid (HA.out.bar ((Bar.refl gx _).set 9 (.int .i64 x4)) (fun k hk => by have := (HA.out.block k hk).1; omega))
    replace HW := Lib.hid (HW.out.bar ((Bar.refl gx _).set 9 (.int .i64 x4)) (fun k hk => by have := (HW.out.block k hk).1; omega))
    replace K : Hid (KR B w0 [(gx, 26, entC tb 0 (.slice none 0 0) vA vW cl me ma mt x4), (g0, 26, Z)] _) := Lib.hid (K.out.set0 9 (.int .i64 x4) hBg HNe.out)
    generalize w.setCell ⟨gx, 9, none⟩ (.int .i64 x4) = w1 at *
    have K : Hid (KS B w0 [(gx, 26, entC tb 0 (.slice none 0 0) vA vW cl me ma mt x4), (g0, 26, Z)] w1 w1) := Lib.hid (KS.start K.out)
    by_cases h8 : s.size = 8
    · have t8 : ((s.size : Int) == 8) = true := by rw [h8]; rfl
      have H8 := Lib.hid (decide_eq_true h8)
      clear h8
      cases T
      · have HRn : Hid ((({ pA := pA, pW := pW, cl := cl, me := me, ma := ma, mt := mt, gt := x4 } : Part), (6 : Int), false) = R) := Lib.hid (by rw [← HRn0.out]; simp)
        clear HRn0
        haveI : Nonempty (Keep (KS B w0 [(gx, 26, entC tb 0 (.slice none 0 0) vA vW cl me ma mt x4), (g0, 26, Z)] w1)) := ⟨⟨_, K.out⟩⟩
        have kc0 := fun q : Keep (KS B w0 [(gx, 26, entC tb 0 (.slice none 0 0) vA vW cl me ma mt x4), (g0, 26, Z)] w1) => (KS.at q.h 0 rfl).cell 9 _ rfl
        refine wp_region_keep2 (Cl := KS B w0 [(gx, 26, entC tb 0 (.slice none 0 0) vA vW cl me ma mt x4), (g0, 26, Z)] w1) (by kernel_rfl) (by kernel_rfl) K.out.drew ?_
        intro y' hy'
        have g3_ := fun tmps => hy' tmps 3 114 rfl
        have g8_ := fun tmps => hy' tmps 8 119 rfl
        have gb_ := yl_bool
        clear hy' K
        repeat
          first
            | (refine wpQ2_step (fun K hK => ?_)
               go_simp
               first
                 | (refine hK _ ?_; clear hK K)
                 | (apply Exists.intro
                    refine ⟨fun _ => ?_, hK _ ?_⟩
                    (rw [if_neg (by omega)]; exact ⟨rfl, rfl⟩)
                    clear hK K))
        refine wpQ2_nil ?_
        clear kc0
        intro Wk Kk
        have K := Lib.hid Kk
        clear Kk
        clear gb_ g3_ g8_
        have HA2 := Lib.hid (HA.out.below K.out.2 (fun k hk => (HA.out.block k hk).2))
        have HW2 := Lib.hid (HW.out.below K.out.2 (fun k hk => (HW.out.block k hk).2))
        have K2 := Lib.hid K.out.1
        clear HA HW K
        go_wp2_with fail
        go_ret2
        rw [← HRn.out]
        exact ⟨_, _, rfl, HA2.out, HW2.out, K2.out⟩
      · have HRn : Hid ((({ pA := pA, pW := pW, cl := cl, me := me, ma := ma, mt := mt, gt := x4 } : Part), (6 : Int), ((x4 : Int) != 0)) = R) := Lib.hid (by rw [← HRn0.out, H8.out]; rfl)
        clear HRn0
        haveI : Nonempty (Keep (KS B w0 [(gx, 26, entC tb 0 (.slice none 0 0) vA vW cl me ma mt x4), (g0, 26, Z)] w1)) := ⟨⟨_, K.out⟩⟩
        have kc0 := fun q : Keep (KS B w0 [(gx, 26, entC tb 0 (.slice none 0 0) vA vW cl me ma mt x4), (g0, 26, Z)] w1) => (KS.at q.h 0 rfl).cell 9 _ rfl
        refine wp_region_keep2 (Cl := KS B w0 [(gx, 26, entC tb 0 (.slice none 0 0) vA vW cl me ma mt x4), (g0, 26, Z)] w1) (by kernel_rfl) (by kernel_rfl) K.out.drew ?_
        intro y' hy'
        have g3_ := fun tmps => hy' tmps 3 114 rfl
        have g8_ := fun tmps => hy' tmps 8 119 rfl
        have gb_ := yl_bool
        clear hy' K
        repeat
          first
            | (refine wpQ2_step (fun K hK => ?_)
               go_simp
               first
                 | (refine hK _ ?_; clear hK K)
                 | (apply Exists.intro
                    refine ⟨fun _ => ?_, hK _ ?_⟩
                    (rw [if_neg (by omega)]; exact ⟨rfl, rfl⟩)
                    clear hK K))
        refine wpQ2_nil ?_
        clear kc0
        intro Wk Kk
        have K := Lib.hid Kk
        clear Kk
        clear gb_ g3_ g8_
        have HA2 := Lib.hid (HA.out.below K.out.2 (fun k hk => (HA.out.block k hk).2))
        have HW2 := Lib.hid (HW.out.below K.out.2 (fun k hk => (HW.out.block k hk).2))
        have K2 := Lib.hid K.out.1
        clear HA HW K
        go_wp2_with fail
        go_ret2
        rw [← HRn.out]
        exact ⟨_, _, rfl, HA2.out, HW2.out, K2.out⟩
    · have t8 : ((s.size : Int) == 8) = false := by simp; omega
      have HRn : Hid ((({ pA := pA, pW := pW, cl := cl, me := me, ma := ma, mt := mt, gt := x4 } : Part), (6 : Int), false) = R) := Lib.hid (by rw [← HRn0.out, decide_eq_false h8]; rfl)
      clear HRn0
      haveI : Nonempty (Keep (KS B w0 [(gx, 26, entC tb 0 (.slice none 0 0) vA vW cl me ma mt x4), (g0, 26, Z)] w1)) := ⟨⟨_, K.out⟩⟩
      have kc0 := fun q : Keep (KS B w0 [(gx, 26, entC tb 0 (.slice none 0 0) vA vW cl me ma mt x4), (g0, 26, Z)] w1) => (KS.at q.h 0 rfl).cell 9 _ rfl
      refine wp_region_keep2 (Cl := KS B w0 [(gx, 26, entC tb 0 (.slice none 0 0) vA vW cl me ma mt x4), (g0, 26, Z)] w1) (by kernel_rfl) (by kernel_rfl) K.out.drew ?_
      intro y' hy'
      have g3_ := fun tmps => hy' tmps 3 114 rfl
      have g8_ := fun tmps => hy' tmps 8 119 rfl
      have gb_ := yl_bool
      clear hy' K
      repeat
        first
          | (refine wpQ2_step (fun K hK => ?_)
             go_simp
             first
               | (refine hK _ ?_; clear hK K)
               | (apply Exists.intro
                  refine ⟨fun _ => ?_, hK _ ?_⟩
                  (rw [if_neg (by omega)]; exact ⟨rfl, rfl⟩)
                  clear hK K))
      refine wpQ2_nil ?_
      clear kc0
      intro Wk Kk
      have K := Lib.hid Kk
      clear Kk
      clear gb_ g3_ g8_
      have HA2 := Lib.hid (HA.out.below K.out.2 (fun k hk => (HA.out.block k hk).2))
      have HW2 := Lib.hid (HW.out.below K.out.2 (fun k hk => (HW.out.block k hk).2))
      have K2 := Lib.hid K.out.1
      clear HA HW K
      go_wp2_with fail
      go_ret2
      rw [← HRn.out]
      exact ⟨_, _, rfl, HA2.out, HW2.out, K2.out⟩
  have t1 : (k == 1) = false := by simpa using h1
  have HRn : Hid ((({ pA := pA, pW := pW, cl := cl, me := me, ma := ma, mt := mt, gt := gt } : Part), (0 : Int), false) = R) := Lib.hid (by rw [← HR.out, if_neg h6, if_neg h5, if_neg h4, if_neg h3, if_neg h2, if_neg h1])
  clear HR h6 h5 h4 h3 h2 h1
  go_wp2_with fail
  go_ret2
  rw [← HRn.out]
  exact ⟨_, _, rfl, HA.out, HW.out, K.out⟩
end
section
open Go.RowKit
set_option linter.unusedVariables false
set_option linter.unusedSimpArgs false

theorem be_num (x : List UInt8) : beL x.length (numN x) = x := by
  induction x using snoc_ind with
  | h0 => rfl
  | h1 l b ih =>
    rw [List.length_append, numN_snoc]
    show beL (l.length + 1) _ = _
    rw [beL_succ]
    have h1 : (numN l * 256 + b.toNat) / 256 = numN l := by have := b.toNat_lt; omega
    have h2 : UInt8.ofNat (numN l * 256 + b.toNat) = b := by
      apply UInt8.toNat_inj.1
      have := b.toNat_lt
      simp
    rw [h1, h2, ih]
theorem be_numI (x : List UInt8) (n : Nat) (h : x.length = n) : beL n ((numN x : Nat) : Int).toNat = x := by
  subst h
  simp only [Int.toNat_natCast]
  exact be_num x
theorem decAs_raw : ∀ (f : Nat) (d : ByteArray) (acc r : List Action), d.size < f → (∀ a ∈ acc, rightX a = true) → decAs f d acc = (r, 0) → encAs r = encAs acc ++ d.data.toList ∧ ∀ a ∈ r, rightX a = true
  | 0, d, acc, r, hf, _, _ => absurd hf (Nat.not_lt_zero _)
  | f + 1, d, acc, r, hf, hr, h => by
    unfold decAs at h
    split at h
    · rename_i h0
      obtain ⟨rfl, _⟩ := Prod.mk.inj h
      have : d.data.toList = [] := List.eq_nil_of_length_eq_zero (by rw [size_data]; exact h0)
      rw [this, List.append_nil]
      exact ⟨rfl, hr⟩
    · split at h
      · cases (Prod.mk.inj h).2
      · split at h
        · cases (Prod.mk.inj h).2
        · split at h
          · cases (Prod.mk.inj h).2
          · split at h
            · cases (Prod.mk.inj h).2
            · split at h
              · cases (Prod.mk.inj h).2
              · rename_i h0 h4 hn h8 hg h32
                have hg' : goodA d = true := by cases hq : goodA d <;> simp_all
                unfold goodA at hg'
                simp only [Bool.and_eq_true, decide_eq_true_eq] at hg'
                have ih := decAs_raw f _ _ r (by rw [ByteArray.size_extract]; omega) (fun a ha => by
                  rcases List.mem_append.1 ha with ha | ha
                  · exact hr a ha
                  · rw [List.mem_singleton.1 ha]; exact hg'.1) h
                refine ⟨?_, ih.2⟩
                have e : encAs (acc ++ [seemsA (chunkA d)]) = encAs acc ++ (d.extract 0 (lenD d)).data.toList := by
                  have e2 := congrArg (fun x : ByteArray => x.data.toList) hg'.2
                  rw [str_data] at e2
                  unfold encAs
                  rw [List.flatMap_append]
                  simp only [List.flatMap_cons, List.flatMap_nil, List.append_nil]
                  rw [e2]
                  rfl
                rw [ih.1, e, List.append_assoc, ← extract_two d (lenD d) (by omega)]
theorem restP_app (x y z : List UInt8) (hx : x.length = 4) (hy : y.length = 4) : restP (str (x ++ (y ++ z))) = str z := by
  unfold restP
  rw [b4 _ _ hx, b4 _ _ hy]
  show bytR (leftR (str z) 0) (str z, 0) = str z
  unfold bytR leftR
  rw [if_pos rfl, str_size]
  have := takeR_ok z z.length (Nat.le_refl _)
  have hd : decide (0 ≤ (z.length : Int)) = true := by simp
  rw [hd]
  simp only [this, List.take_length]
/-- A chunk: its kind, its length, four bytes and the rest. -/
theorem chunk_form (s : ByteArray) (h8 : 8 ≤ s.size) (hl : lenD s = s.size) : ∃ y z : List UInt8, s = str ((beL 2 (kindD s) ++ beL 2 s.size) ++ (y ++ z)) ∧ y.length = 4 ∧ s.size = 8 + z.length := by
  have hs := size_data s
  have e := str_of s
  match hL : s.data.toList with
  | [] => rw [hL] at hs; simp at hs; omega
  | [_] => rw [hL] at hs; simp at hs; omega
  | [_, _] => rw [hL] at hs; simp at hs; omega
  | [_, _, _] => rw [hL] at hs; simp at hs; omega
  | x0 :: x1 :: x2 :: x3 :: t =>
    rw [hL] at hs e
    have hk : kindD s = numN [x0, x1] := by rw [← e, kindD_head]; simp [numN]
    have hn : s.size = numN [x2, x3] := by rw [← hl, ← e, lenD_head]; simp [numN]
    refine ⟨t.take 4, t.drop 4, ?_, ?_, ?_⟩
    · rw [hk]
      have h1 : beL 2 (numN [x0, x1]) = [x0, x1] := be_num [x0, x1]
      have h2 : beL 2 s.size = [x2, x3] := by rw [hn]; exact be_num [x2, x3]
      rw [h1, h2, List.take_append_drop]
      exact e.symm
    · simp at hs ⊢; omega
    · simp at hs ⊢; omega
theorem str_ne {s : ByteArray} (h8 : 8 ≤ s.size) {l : List UInt8} (hl : l.length ≠ s.size) : ¬ str l = s := by
  rintro rfl
  rw [str_size] at hl
  exact hl rfl
def JoinOk (p q p' : Part) (k : Int) : Prop := ∀ b n : Int, EmptyP p b → b < placeF k → 0 ≤ b → PartIn n p → p' = joinP p q
theorem join_ok {p q p' : Part} {k : Int} (h : ∀ b n : Int, EmptyP p b → b < placeF k → PartIn n p → Go.bits .or .u64 p.me 0 = p.me → Go.bits .or .u64 p.ma 0 = p.ma → max p.mt 0 = p.mt → max p.gt 0 = p.gt → p' = joinP p q) : JoinOk p q p' k := by
  intro b n hE hb h0 hp
  exact h b n hE hb hp (or_u64_zero' p.me hp.me.1 hp.me.2) (or_u64_zero' p.ma hp.ma.1 hp.ma.2) (max0r hp.mt.1) (max0r hp.gt.1)
theorem take_acts {p : Part} {s : ByteArray} (h8 : 8 ≤ s.size) (y z : List UInt8) (k : Nat) (hs : s = str ((beL 2 k ++ beL 2 s.size) ++ (y ++ z))) (hy : y.length = 4) (hn : s.size = 8 + z.length) :
    actsP s = actsR s ∧ ((((actsR s).2 == 0) && (decide (0 < (actsR s).1.length) && decide (s.extract 4 8 = ⟨#[0, 0, 0, 0]⟩))) = decide (str (listB k (if (actsR s).2 = 0 then (actsR s).1 else [])) = s)) := by
  have hx : (beL 2 k ++ beL 2 s.size).length = 4 := by simp [beL_length]
  have er : restP s = str z := by
    generalize s.size = n at *
    subst hs
    exact restP_app _ _ _ hx hy
  have e8 : s.extract 8 s.size = str z := by
    have : s.extract 8 s.size = (str ((beL 2 k ++ beL 2 s.size ++ y) ++ (z ++ []))).extract 8 (8 + z.length) := by
      rw [← hn]
      conv => lhs; arg 1; rw [hs]
      rw [List.append_nil, List.append_assoc (beL 2 k ++ beL 2 s.size)]
    rw [this]
    have h2 := ex_at (beL 2 k ++ beL 2 s.size ++ y) z []
    have h3 : (beL 2 k ++ beL 2 s.size ++ y).length = 8 := by simp [beL_length, hy]
    rw [h3] at h2
    rw [← str_of (ByteArray.extract _ _ _), h2]
  have e4 : s.extract 4 8 = str y := by
    have h2 := ex_at (beL 2 k ++ beL 2 s.size) y z
    rw [hx, hy, ← hs] at h2
    rw [← str_of (s.extract 4 8), h2]
  have eA : actsP s = actsR s := by
    unfold actsP actsR
    rw [er, e8]
  refine ⟨eA, ?_⟩
  rw [e4]
  have hok := actsP_ok s
  rw [eA] at hok
  have hraw := fun hr => decAs_raw _ (s.extract 8 s.size) [] (actsR s).1 (Nat.lt_succ_self _) (by simp) hr
  have hdef : decAs ((s.extract 8 s.size).size + 1) (s.extract 8 s.size) [] = actsR s := rfl
  rw [hdef] at hraw
  by_cases h0 : (actsR s).2 = 0
  · rw [if_pos h0]
    obtain ⟨hE, hR⟩ := hraw (Prod.ext rfl h0)
    rw [e8, str_data] at hE
    have hE' : encAs (actsR s).1 = z := by rw [hE]; rfl
    generalize (actsR s).1 = l at *
    by_cases hl : l = []
    · subst hl
      have : ¬ str (listB k []) = s := str_ne h8 (by rw [listB0]; simp; omega)
      rw [decide_eq_false this]
      simp
    · have hpos : 0 < l.length := List.length_pos_iff.2 hl
      have hea : actEnc l = (z, 0) := by
        rw [actEnc_ok, hE']
        · rw [List.any_eq_false]
          intro x hx
          simp [hR x hx]
        · have := hok.2; omega
      have eB : listB k l = beL 2 k ++ (beL 2 s.size ++ ([0, 0, 0, 0] ++ z)) := by
        unfold listB partB
        rw [if_neg hl, hea]
        have : 4 + ([0, 0, 0, 0] ++ z).length = s.size := by simp; omega
        simp only
        rw [this]
      rw [eB]
      have hiff : (str (beL 2 k ++ (beL 2 s.size ++ ([0, 0, 0, 0] ++ z))) = s) ↔ (str y = (⟨#[0, 0, 0, 0]⟩ : ByteArray)) := by
        constructor
        · intro h
          have h1 := h.trans hs
          have h2 := str_inj h1
          rw [List.append_assoc, List.append_cancel_left_eq, List.append_cancel_left_eq] at h2
          have h3 := List.append_cancel_right h2
          rw [← h3]; rfl
        · intro h
          have : y = [0, 0, 0, 0] := str_inj h
          rw [this, List.append_assoc] at hs
          exact hs.symm
      rw [h0, decide_eq_true hpos]
      exact decide_eq_decide.2 hiff.symm
  · rw [if_neg h0, listB0]
    have : ¬ str [] = s := str_ne h8 (by simp; omega)
    rw [decide_eq_false this]
    have : ((actsR s).2 == 0) = false := by simpa using h0
    rw [this]
    rfl
set_option maxHeartbeats 2000000 in
theorem take_seems (p : Part) (s : ByteArray) (h8 : 8 ≤ s.size) (hl : lenD s = s.size) :
    (takeP p s).2.2 = decide (str (rawF (kindD s) (seemsP (kindD s) s)) = s) ∧ ((takeP p s).2.2 = true → (takeP p s).2.1 = placeF (kindD s) ∧ JoinOk p (seemsP (kindD s) s) (takeP p s).1 (kindD s)) := by
  obtain ⟨y, z, hs, hy, hn⟩ := chunk_form s h8 hl
  have hx : (beL 2 (kindD s) ++ beL 2 s.size).length = 4 := by simp [beL_length]
  have hkn : exN s 0 2 = kindD s := exN_kind s (by omega)
  have e4 : s.extract 4 8 = str y := by
    have h2 := ex_at (beL 2 (kindD s) ++ beL 2 s.size) y z
    rw [hx, hy, ← hs] at h2
    rw [← str_of (s.extract 4 8), h2]
  have q4 : exN s 4 8 = numN y := by
    have := exN_at (beL 2 (kindD s) ++ beL 2 s.size) y z 4 8 hx (by rw [hy]) (by omega)
    rw [← hs] at this
    exact this
  have hac := fun k => take_acts (p := p) h8 y z k
  have hnil : ¬ str [] = s := str_ne h8 (by simp; omega)
  have hr4 : bytS 4 (s, 0) = (str (y ++ z), 0) := by
    have := b4 (beL 2 (kindD s) ++ beL 2 s.size) (y ++ z) hx
    rw [← hs] at this
    exact this
  unfold takeP
  rw [hkn]
  generalize hkk : kindD s = k at *
  by_cases k6 : k = 6
  · subst k6
    have hsm : seemsP ((6 : Nat) : Int) s = { noPart with mt := ((numN y : Nat) : Int) } := by
      show seemsP 6 _ = _
      unfold seemsP
      rw [if_pos rfl, hr4, (n4 y z hy).1]
    rw [if_pos (show ((6 : Nat) : Int) = 6 from rfl), hsm, q4]
    constructor
    · show _ = decide (str (encM (numN y : Int)) = s)
      simp only
      by_cases hm : ((numN y : Nat) : Int) = 0
      · rw [hm, encM0, decide_eq_false hnil]; simp
      · have e : encM ((numN y : Nat) : Int) = beL 2 6 ++ (beL 2 8 ++ y) := by
          unfold encM partB
          rw [if_neg hm, be_numI y 4 hy, hy]
        rw [e]
        have hb : (((numN y : Nat) : Int) != 0) = true := by simpa using hm
        rw [hb, Bool.and_true]
        by_cases hz : s.size = 8
        · have hz0 : z = [] := List.eq_nil_of_length_eq_zero (by omega)
          have : str (beL 2 6 ++ (beL 2 8 ++ y)) = s := by
            conv => rhs; rw [hs]
            rw [hz, hz0, List.append_nil, List.append_assoc]
          rw [decide_eq_true this, decide_eq_true hz]
        · have : ¬ str (beL 2 6 ++ (beL 2 8 ++ y)) = s := str_ne h8 (by simp [beL_length]; omega)
          rw [decide_eq_false this, decide_eq_false hz]
    · intro _
      refine ⟨rfl, join_ok fun b n hE hb hp o1 o2 m1 m2 => ?_⟩
      have hpl : placeF ((6 : Nat) : Int) = 1 := by decide
      rw [hpl] at hb
      have := hE.1 (by omega)
      obtain ⟨pA, pW, cl, me, ma, mt, gt⟩ := p
      simp only at *
      subst this
      have : max (0 : Int) (numN y : Int) = (numN y : Int) := by omega
      simp [joinP, noPart, o1, o2, m2, this]
  rw [if_neg (by omega)]
  by_cases k5 : k = 5
  · subst k5
    have hsm : seemsP ((5 : Nat) : Int) s = { noPart with cl := true } := by
      show seemsP 5 _ = _
      unfold seemsP
      rw [if_neg (by decide), if_pos rfl]
    rw [if_pos (show ((5 : Nat) : Int) = 5 from rfl), hsm]
    constructor
    · show decide (s.extract 2 s.size = (⟨#[0, 8, 0, 0, 0, 0]⟩ : ByteArray)) = decide (str (partB 5 [0, 0, 0, 0]) = s)
      have e2 : s.extract 2 s.size = str (beL 2 s.size ++ (y ++ z)) := by
        have h2 := ex_at (beL 2 5) (beL 2 s.size ++ (y ++ z)) []
        have h3 : (beL 2 5).length = 2 := rfl
        have h4 : 2 + (beL 2 s.size ++ (y ++ z)).length = s.size := by simp [beL_length, hy]; omega
        rw [h3, h4, List.append_nil, ← List.append_assoc, ← hs] at h2
        rw [← str_of (s.extract 2 s.size), h2]
      have hiff : (s.extract 2 s.size = (⟨#[0, 8, 0, 0, 0, 0]⟩ : ByteArray)) ↔ (str (partB 5 [0, 0, 0, 0]) = s) := by
        rw [e2]
        constructor
        · intro h
          have h1 : beL 2 s.size ++ (y ++ z) = [0, 8, 0, 0, 0, 0] := str_inj h
          conv => rhs; rw [hs]
          rw [List.append_assoc, h1]
          rfl
        · intro h
          have h1 := str_inj (h.trans hs)
          rw [List.append_assoc] at h1
          have h2 : partB 5 [0, 0, 0, 0] = beL 2 5 ++ [0, 8, 0, 0, 0, 0] := rfl
          rw [h2, List.append_cancel_left_eq] at h1
          rw [← h1]; rfl
      exact decide_eq_decide.2 hiff
    · intro _
      refine ⟨rfl, join_ok fun b n hE hb hp o1 o2 m1 m2 => ?_⟩
      obtain ⟨pA, pW, cl, me, ma, mt, gt⟩ := p
      simp only at *
      simp [joinP, noPart, o1, o2, m1, m2]
  rw [if_neg (by omega)]
  by_cases k4 : k = 4
  · subst k4
    obtain ⟨eA, hI⟩ := hac 4 hs hy hn
    have hsm : seemsP ((4 : Nat) : Int) s = { noPart with pA := if (actsR s).2 = 0 then (actsR s).1 else [] } := by
      show seemsP 4 _ = _
      unfold seemsP
      rw [if_neg (by decide), if_neg (by decide), if_pos rfl, eA]
      split <;> rfl
    rw [if_pos (show ((4 : Nat) : Int) = 4 from rfl), hsm]
    refine ⟨hI, fun hi => ?_⟩
    change (((actsR s).2 == 0) && (decide (0 < (actsR s).1.length) && decide (s.extract 4 8 = (⟨#[0, 0, 0, 0]⟩ : ByteArray)))) = true at hi
    have h0 : (actsR s).2 = 0 := by
      cases hq : ((actsR s).2 == 0)
      · rw [hq] at hi; cases hi
      · simpa using hq
    rw [if_pos h0]
    refine ⟨rfl, join_ok fun b n hE hb hp o1 o2 m1 m2 => ?_⟩
    have hpl : placeF ((4 : Nat) : Int) = 2 := by decide
    rw [hpl] at hb
    have := hE.2.1 (by omega)
    obtain ⟨pA, pW, cl, me, ma, mt, gt⟩ := p
    simp only at *
    subst this
    simp [joinP, noPart, o1, o2, m1, m2]
  rw [if_neg (by omega)]
  by_cases k3 : k = 3
  · subst k3
    obtain ⟨eA, hI⟩ := hac 3 hs hy hn
    have hsm : seemsP ((3 : Nat) : Int) s = { noPart with pW := if (actsR s).2 = 0 then (actsR s).1 else [] } := by
      show seemsP 3 _ = _
      unfold seemsP
      rw [if_neg (by decide), if_neg (by decide), if_neg (by decide), if_pos rfl, eA]
      split <;> rfl
    rw [if_pos (show ((3 : Nat) : Int) = 3 from rfl), hsm]
    refine ⟨hI, fun hi => ?_⟩
    change (((actsR s).2 == 0) && (decide (0 < (actsR s).1.length) && decide (s.extract 4 8 = (⟨#[0, 0, 0, 0]⟩ : ByteArray)))) = true at hi
    have h0 : (actsR s).2 = 0 := by
      cases hq : ((actsR s).2 == 0)
      · rw [hq] at hi; cases hi
      · simpa using hq
    rw [if_pos h0]
    refine ⟨rfl, join_ok fun b n hE hb hp o1 o2 m1 m2 => ?_⟩
    have hpl : placeF ((3 : Nat) : Int) = 4 := by decide
    rw [hpl] at hb
    have := hE.2.2.2.1 (by omega)
    obtain ⟨pA, pW, cl, me, ma, mt, gt⟩ := p
    simp only at *
    subst this
    simp [joinP, noPart, o1, o2, m1, m2]
  rw [if_neg (by omega)]
  by_cases k2 : k = 2
  · subst k2
    have hr8 : bytS 4 (bytS 4 (s, 0)) = (str z, 0) := by rw [hr4]; exact b4 y z hy
    have hraw : rawF ((2 : Nat) : Int) (seemsP ((2 : Nat) : Int) s) = encMe (numR 8 (str z, 0)) (numR 8 (numS 8 (str z, 0))) := by
      show rawF 2 (seemsP 2 s) = _
      unfold seemsP
      rw [if_neg (by decide), if_neg (by decide), if_neg (by decide), if_neg (by decide), if_pos rfl, hr8]
      rfl
    rw [if_pos (show ((2 : Nat) : Int) = 2 from rfl), hraw]
    by_cases h24 : s.size = 24
    · rw [if_neg (by omega)]
      have hzz : z = z.take 8 ++ (z.drop 8 ++ []) := by rw [List.append_nil, List.take_append_drop]
      have hu : (z.take 8).length = 8 := by simp; omega
      have hv : (z.drop 8).length = 8 := by simp; omega
      generalize z.take 8 = u at *
      generalize z.drop 8 = v at *
      subst hzz
      have r1 := n8 u (v ++ []) hu
      have r2 := n8 v [] hv
      have hsm : seemsP ((2 : Nat) : Int) s = { noPart with me := ((numN u : Nat) : Int), ma := ((numN v : Nat) : Int) } := by
        show seemsP 2 _ = _
        unfold seemsP
        rw [if_neg (by decide), if_neg (by decide), if_neg (by decide), if_neg (by decide), if_pos rfl, hr8, r1.1, r1.2, r2.1]
      have q16 : exN s 8 16 = numN u := by
        have := exN_at ((beL 2 2 ++ beL 2 s.size) ++ y) u (v ++ []) 8 16 (by simp [beL_length, hy]) (by rw [hu]) (by omega)
        rw [List.append_assoc _ y, ← hs] at this
        exact this
      have q24 : exN s 16 24 = numN v := by
        have := exN_at (((beL 2 2 ++ beL 2 s.size) ++ y) ++ u) v [] 16 24 (by simp [beL_length, hy, hu]) (by rw [hv]) (by omega)
        rw [List.append_assoc _ u, List.append_assoc _ y, ← hs] at this
        exact this
      rw [hsm, r1.1, r1.2, r2.1, q16, q24, e4]
      constructor
      · show (decide (str y = (⟨#[0, 0, 0, 0]⟩ : ByteArray)) && (((numN v : Nat) : Int) != 0)) = _
        by_cases hm : ((numN v : Nat) : Int) = 0
        · have : encMe ((numN u : Nat) : Int) ((numN v : Nat) : Int) = [] := by unfold encMe; rw [if_pos hm]
          rw [this, decide_eq_false hnil]
          have : (((numN v : Nat) : Int) != 0) = false := by simpa using hm
          rw [this, Bool.and_false]
        · have e : encMe ((numN u : Nat) : Int) ((numN v : Nat) : Int) = beL 2 2 ++ (beL 2 24 ++ ([0, 0, 0, 0] ++ (u ++ v))) := by
            unfold encMe partB
            rw [if_neg hm, be_numI u 8 hu, be_numI v 8 hv]
            have : 4 + ([0, 0, 0, 0] ++ (u ++ v)).length = 24 := by simp [hu, hv]
            rw [this]
          rw [e]
          have hb : (((numN v : Nat) : Int) != 0) = true := by simpa using hm
          rw [hb, Bool.and_true]
          have hiff : (str y = (⟨#[0, 0, 0, 0]⟩ : ByteArray)) ↔ (str (beL 2 2 ++ (beL 2 24 ++ ([0, 0, 0, 0] ++ (u ++ v)))) = s) := by
            rw [h24, List.append_nil] at hs
            constructor
            · intro h
              have : y = [0, 0, 0, 0] := str_inj h
              rw [this, List.append_assoc] at hs
              exact hs.symm
            · intro h
              have h2 := str_inj (h.trans hs)
              rw [List.append_assoc, List.append_cancel_left_eq, List.append_cancel_left_eq] at h2
              have h3 := List.append_cancel_right h2
              rw [← h3]; rfl
          exact decide_eq_decide.2 hiff
      · intro _
        refine ⟨rfl, join_ok fun b n hE hb hp o1 o2 m1 m2 => ?_⟩
        have hpl : placeF ((2 : Nat) : Int) = 5 := by decide
        rw [hpl] at hb
        obtain ⟨E1, E2⟩ := hE.2.2.2.2.1 (by omega)
        have hq := seemsP_in ((2 : Nat) : Int) s
        rw [hsm] at hq
        have o3 := or_u64_zero _ hq.me.1 hq.me.2
        have o4 := or_u64_zero _ hq.ma.1 hq.ma.2
        obtain ⟨pA, pW, cl, me, ma, mt, gt⟩ := p
        simp only at *
        subst E1 E2
        simp [joinP, noPart, o3, o4, m1, m2]
    · rw [if_pos h24]
      refine ⟨?_, fun h => by cases h⟩
      have : ¬ str (encMe (numR 8 (str z, 0)) (numR 8 (numS 8 (str z, 0)))) = s := by
        unfold encMe
        split
        · exact hnil
        · refine str_ne h8 ?_
          rw [partB_len]
          simp [beL_length]
          omega
      rw [decide_eq_false this]
  rw [if_neg (by omega)]
  by_cases k1 : k = 1
  · subst k1
    obtain ⟨y0, y1, y2, y3, rfl⟩ : ∃ y0 y1 y2 y3, y = [y0, y1, y2, y3] := by
      match y, hy with
      | [a, b, c, d], _ => exact ⟨a, b, c, d, rfl⟩
    have hbt : byteA s 4 = y0.toNat := by
      have hd : s.data.toList = (beL 2 1 ++ beL 2 s.size) ++ ([y0, y1, y2, y3] ++ z) := by
        conv => lhs; rw [hs]
        exact str_data _
      unfold byteA
      rw [hd, List.getD_eq_getElem?_getD, List.getElem?_append_right (by omega)]
      rw [hx]
      rfl
    have r1 := n1 [y0] ([y1, y2, y3] ++ z) rfl
    have hsm : seemsP ((1 : Nat) : Int) s = { noPart with gt := (y0.toNat : Int) } := by
      show seemsP 1 _ = _
      unfold seemsP
      have : ([y0, y1, y2, y3] ++ z) = [y0] ++ ([y1, y2, y3] ++ z) := rfl
      rw [if_neg (by decide), if_neg (by decide), if_neg (by decide), if_neg (by decide), if_neg (by decide), if_pos rfl, hr4, this, r1.1]
      simp [numN]
    rw [if_pos (show ((1 : Nat) : Int) = 1 from rfl), hsm, hbt]
    constructor
    · show _ = decide (str (encG (y0.toNat : Int)) = s)
      simp only
      by_cases hm : ((y0.toNat : Nat) : Int) = 0
      · rw [hm, encG0, decide_eq_false hnil]; simp
      · have hb : (((y0.toNat : Nat) : Int) != 0) = true := by simpa using hm
        rw [hb, Bool.and_true]
        have e : encG ((y0.toNat : Nat) : Int) = beL 2 1 ++ (beL 2 8 ++ ([y0] ++ [0, 0, 0])) := by
          unfold encG partB
          have : beL 1 ((y0.toNat : Nat) : Int).toNat = [y0] := by
            have h := be_num [y0]
            have h2 : numN [y0] = y0.toNat := by simp [numN]
            rw [h2] at h
            exact h
          rw [if_neg hm, this]
          rfl
        rw [e]
        by_cases hz : s.size = 8
        · have hz0 : z = [] := List.eq_nil_of_length_eq_zero (by omega)
          subst hz0
          have e5 : s.extract 5 s.size = str [y1, y2, y3] := by
            have h2 := ex_at ((beL 2 1 ++ beL 2 s.size) ++ [y0]) [y1, y2, y3] []
            have h3 : ((beL 2 1 ++ beL 2 s.size) ++ [y0]).length = 5 := by simp [beL_length]
            rw [h3, List.append_assoc _ [y0]] at h2
            have h4 : ([y0] ++ ([y1, y2, y3] ++ []) : List UInt8) = [y0, y1, y2, y3] ++ [] := rfl
            rw [h4, ← hs] at h2
            have h5 : 5 + [y1, y2, y3].length = s.size := by rw [hz]; rfl
            rw [h5] at h2
            rw [← str_of (s.extract 5 s.size), h2]
          rw [decide_eq_true hz, Bool.true_and, e5]
          have hiff : (str [y1, y2, y3] = (⟨#[0, 0, 0]⟩ : ByteArray)) ↔ (str (beL 2 1 ++ (beL 2 8 ++ ([y0] ++ [0, 0, 0]))) = s) := by
            rw [hz] at hs
            constructor
            · intro h
              have h1 : [y1, y2, y3] = [0, 0, 0] := str_inj h
              have h4 : ([y0, y1, y2, y3] ++ [] : List UInt8) = [y0] ++ [y1, y2, y3] := rfl
              rw [h4, h1, List.append_assoc] at hs
              exact hs.symm
            · intro h
              have h2 := str_inj (h.trans hs)
              rw [List.append_assoc, List.append_cancel_left_eq, List.append_cancel_left_eq] at h2
              have h3 : [0, 0, 0] = [y1, y2, y3] := by simpa using h2
              rw [← h3]; rfl
          exact decide_eq_decide.2 hiff
        · have : ¬ str (beL 2 1 ++ (beL 2 8 ++ ([y0] ++ [0, 0, 0]))) = s := str_ne h8 (by simp [beL_length]; omega)
          rw [decide_eq_false this, decide_eq_false hz, Bool.false_and]
    · intro _
      refine ⟨rfl, join_ok fun b n hE hb hp o1 o2 m1 m2 => ?_⟩
      have hpl : placeF ((1 : Nat) : Int) = 6 := by decide
      rw [hpl] at hb
      have := hE.2.2.2.2.2 (by omega)
      obtain ⟨pA, pW, cl, me, ma, mt, gt⟩ := p
      simp only at *
      subst this
      have : max (0 : Int) (y0.toNat : Int) = (y0.toNat : Int) := by omega
      simp [joinP, noPart, o1, o2, m1, this]
  · rw [if_neg (by omega)]
    refine ⟨?_, fun h => by cases h⟩
    have : rawF (k : Int) (seemsP (k : Int) s) = [] := by
      unfold rawF
      rw [if_neg (by omega), if_neg (by omega), if_neg (by omega), if_neg (by omega), if_neg (by omega), if_neg (by omega)]
    rw [this, decide_eq_false hnil]
end
section
open Go.RowKit
set_option linter.unusedVariables false
set_option linter.unusedSimpArgs false

theorem idec_err {w w' : World} {tb e : Int} (h : e ≠ 0) (hb : Below w.heap.size w w') : IDecPost w tb (noPart, e) (.returned (.tuple #[.agg (entC 0 0 (.slice none 0 0) (.slice none 0 0) (.slice none 0 0) false 0 0 0 0), .int .i64 e])) w' :=
  ⟨_, _, by simp only [if_neg h]; rfl, OwnL.nil _ _ _ _ _, OwnL.nil _ _ _ _ _, hb⟩
theorem byteA_ext (d : ByteArray) (n i : Nat) (h : i < n) : byteA (d.extract 0 n) i = byteA d i := by
  unfold byteA
  conv => lhs; rw [← str_of d]
  rw [str_extract, str_data, List.drop_zero, Nat.sub_zero, List.getD_eq_getElem?_getD, List.getD_eq_getElem?_getD, List.getElem?_take_of_lt h]
theorem lenD_ext (d : ByteArray) (n : Nat) (h : 4 ≤ n) : lenD (d.extract 0 n) = lenD d := by
  unfold lenD
  rw [byteA_ext d n 2 (by omega), byteA_ext d n 3 (by omega)]
theorem kindD_ext (d : ByteArray) (n : Nat) (h : 4 ≤ n) : kindD (d.extract 0 n) = kindD d := by
  unfold kindD
  rw [byteA_ext d n 0 (by omega), byteA_ext d n 1 (by omega)]
set_option maxRecDepth 100000 in
set_option maxHeartbeats 16000000 in
theorem r7Decode_any (w : World) (tb : Int) (d : ByteArray) (hd : d.size ≤ 100000) (R : Part × Int) (hR : decT tb d = R) :
    Calls Try.prog 15 #[.int .i64 tb, .string d] w (IDecPost w tb R) := by
  unfold decT at hR
  by_cases ht : tb < 0 ∨ 7 < tb
  · have HRn : Hid ((noPart, 26) = R) := Lib.hid (by rw [← hR, if_pos (by simpa using ht)])
    have HNz : Hid ((26 : Int) ≠ 0) := Lib.hid (by decide)
    clear hR
    have main : ∀ t : Bool, decide (tb < 0) = t → (t = false → decide (7 < tb) = true) → Calls Try.prog 15 #[.int .i64 tb, .string d] w (IDecPost w tb R) := by
      intro t ht7 h7
      clear ht
      cases t
      · replace h7 := h7 rfl
        go_enter Try.func15, Try.ntmps15
        go_upto_region 1 with fail
        refine one_box_wp ?_
        intro W hb1 hbel hsz
        have K : Hid (KR w.heap.size w [(w.heap.size, 26, entC 0 0 (.slice none 0 0) (.slice none 0 0) (.slice none 0 0) false 0 0 0 0)] W) := Lib.hid ((KR.start hbel hbel.size).add hb1)
        clear hb1 hbel hsz
        go_wp2_with (first
          | (refine wpList_store_row rfl 26 _ _ rfl _ rfl (entC 0 0 (.slice none 0 0) (.slice none 0 0) (.slice none 0 0) false 0 0 0 0) rfl _ _ (K.out.at 0 rfl) rfl (by kernel_rfl) (by simp [Value.oneCell']) ?_)
          | fail)
        intro Wj hbj hbarj
        have HBj := Lib.hid (hbarj.below K.out.below (Nat.le_refl _) K.out.size)
        clear hbarj
        go_wp2_with fail
        rw [← HRn.out]
        exact bodyPost_ret (v := .tuple #[.agg (entC 0 0 (.slice none 0 0) (.slice none 0 0) (.slice none 0 0) false 0 0 0 0), .int .i64 26]) (results_row_tmp (p := 4) (u := 5) rfl _ _ w.heap.size _ _ _ rfl hbj Try.underlying26 rfl (by kernel_rfl)) rfl (idec_err HNz.out HBj.out)
      · clear h7
        go_enter Try.func15, Try.ntmps15
        go_upto_region 1 with fail
        refine one_box_wp ?_
        intro W hb1 hbel hsz
        have K : Hid (KR w.heap.size w [(w.heap.size, 26, entC 0 0 (.slice none 0 0) (.slice none 0 0) (.slice none 0 0) false 0 0 0 0)] W) := Lib.hid ((KR.start hbel hbel.size).add hb1)
        clear hb1 hbel hsz
        go_wp2_with (first
          | (refine wpList_store_row rfl 26 _ _ rfl _ rfl (entC 0 0 (.slice none 0 0) (.slice none 0 0) (.slice none 0 0) false 0 0 0 0) rfl _ _ (K.out.at 0 rfl) rfl (by kernel_rfl) (by simp [Value.oneCell']) ?_)
          | fail)
        intro Wj hbj hbarj
        have HBj := Lib.hid (hbarj.below K.out.below (Nat.le_refl _) K.out.size)
        clear hbarj
        go_wp2_with fail
        rw [← HRn.out]
        exact bodyPost_ret (v := .tuple #[.agg (entC 0 0 (.slice none 0 0) (.slice none 0 0) (.slice none 0 0) false 0 0 0 0), .int .i64 26]) (results_row_tmp (p := 4) (u := 5) rfl _ _ w.heap.size _ _ _ rfl hbj Try.underlying26 rfl (by kernel_rfl)) rfl (idec_err HNz.out HBj.out)
    exact main _ rfl (fun h0 => decide_eq_true (ht.resolve_left (of_decide_eq_false h0)))
  have t1 : decide (tb < 0) = false := decide_eq_false (by omega)
  have t2 : decide (7 < tb) = false := decide_eq_false (by omega)
  rw [if_neg (by simp; omega)] at hR
  have HRR : Hid (decI tb (d.size + 1) d noPart 0 = R) := Lib.hid hR
  have HTb : Hid (0 ≤ tb ∧ tb ≤ 7) := Lib.hid (by omega)
  have HDs := Lib.hid hd
  clear hR ht hd
  go_enter Try.func15, Try.ntmps15
  go_upto_region 1 with fail
  refine one_box_wp ?_
  intro W hb1 hbel hsz
  have K : Hid (KR w.heap.size w [(w.heap.size, 26, entC 0 0 (.slice none 0 0) (.slice none 0 0) (.slice none 0 0) false 0 0 0 0)] W) := Lib.hid ((KR.start hbel hbel.size).add hb1)
  have HGx : Hid (w.heap.size + 1 ≤ W.heap.size) := Lib.hid hb1.lt
  clear hb1 hbel hsz
  go_wp2_with (first
    | (refine wpList_store_row rfl 26 _ _ rfl _ rfl (entC tb 0 (.slice none 0 0) (.slice none 0 0) (.slice none 0 0) false 0 0 0 0) rfl _ _ (BlkAt.new W 26 _) rfl (by kernel_rfl) (by simp [Value.oneCell']) ?_)
    | fail)
  intro Wi hbi hbari
  have K2 : Hid (KR w.heap.size w [(W.heap.size, 26, entC tb 0 (.slice none 0 0) (.slice none 0 0) (.slice none 0 0) false 0 0 0 0), (w.heap.size, 26, entC 0 0 (.slice none 0 0) (.slice none 0 0) (.slice none 0 0) false 0 0 0 0)] Wi) := Lib.hid (K.out.into hbari hbi)
  clear hbi hbari K
  generalize W.heap.size = gx at *
  go_wp2_with fail
  go_loopg [1, 7] (d.size + 1) (fun gg dv bv wr => ∃ (d : ByteArray) (b : Int) (p : Part) (vA vW : Value), dv = .string d ∧ bv = .int .i64 b ∧ Hid (d.size ≤ 100000) ∧ Hid (d.size < gg) ∧ Hid (0 ≤ b ∧ b ≤ 6) ∧ Hid (EmptyP p b) ∧ Hid (PartIn b p) ∧ Hid (decI tb gg d p b = R) ∧ Hid (OwnL wr (gx + 1) 67 3 encAction vA p.pA) ∧ Hid (OwnL wr (gx + 1) 67 3 encAction vW p.pW) ∧ Hid (KR w.heap.size w [(gx, 26, entC tb 0 (.slice none 0 0) vA vW p.cl p.me p.ma p.mt p.gt), (w.heap.size, 26, entC 0 0 (.slice none 0 0) (.slice none 0 0) (.slice none 0 0) false 0 0 0 0)] wr))
  case atStart => exact ⟨d, 0, noPart, _, _, rfl, rfl, HDs, Lib.hid (Nat.lt_succ_self _), Lib.hid (by omega), Lib.hid emptyP0, Lib.hid noPart_in, HRR, Lib.hid (OwnL.nil _ _ _ _ _), Lib.hid (OwnL.nil _ _ _ _ _), K2⟩
  case round =>
    clear HRR HDs K2
    obtain ⟨d1, b, p, vA, vW, rfl, rfl, HD, HG, HBd, HEm, HPi, HF, HoA, HoW, K⟩ := hrel
    obtain ⟨n0, rfl⟩ : ∃ n, gk = n + 1 := ⟨gk - 1, by have := HG.out; omega⟩
    have hF1 := HF.out
    unfold decI at hF1
    by_cases h0 : d1.size = 0
    · rw [if_pos h0] at hF1
      have e0 : d1 = ⟨#[]⟩ := by
        apply ByteArray.ext
        exact Array.eq_empty_of_size_eq_zero h0
      subst e0
      have HF2 := Lib.hid hF1
      clear hF1 HF h0
      have oA : vA.oneCell' = true := by obtain ⟨aa, ac, hva, _, _⟩ := HoA.out.slice; rw [hva]; rfl
      have oW : vW.oneCell' = true := by obtain ⟨aa, ac, hva, _, _⟩ := HoW.out.slice; rw [hva]; rfl
      have HO := Lib.hid (And.intro oA oW)
      clear oA oW
      have HRt : Hid (Calls Try.prog 10 #[.agg (entC tb 0 (.slice none 0 0) vA vW p.cl p.me p.ma p.mt p.gt)] wr fun e w' => e = .returned (.int .i64 (rightE (entP tb p))) ∧ Below wr.heap.size wr w') := Lib.hid (r7Right_any wr ⟨tb, 0, .slice none 0 0, [], vA, p.pA, vW, p.pW, p.cl, p.me, p.ma, p.mt, p.gt⟩ (entOk_part (HPi.out.mono HBd.out.2) (ReadL.of_own HoA.out (fun _ => rfl)) (ReadL.of_own HoW.out (fun _ => rfl))))
      generalize rightE (entP tb p) = RX at *
      go_wp2_with (first
        | (refine wpList_load_row rfl 26 _ rfl _ rfl _ _ _ _ (K.out.at 0 rfl) Try.underlying26 rfl (by kernel_rfl) ?_)
        | fail)
      refine HRt.out.mono ?_
      rintro e w1 ⟨rfl, hb⟩
      replace K := Lib.hid (K.out.call hb)
      replace HoA := Lib.hid (HoA.out.below hb (fun k hk => (HoA.out.block k hk).2))
      replace HoW := Lib.hid (HoW.out.below hb (fun k hk => (HoW.out.block k hk).2))
      clear hb HRt
      cases hr : (RX != 0)
      case true =>
        have hne : RX ≠ 0 := by simpa using hr
        have HNz := Lib.hid hne
        have hF2 := HF2.out
        rw [if_neg hne] at hF2
        have HRn := Lib.hid hF2
        clear hF2 HF2 hne
        go_wp2_with (first
          | (refine wpList_store_row rfl 26 _ _ rfl _ rfl (entC 0 0 (.slice none 0 0) (.slice none 0 0) (.slice none 0 0) false 0 0 0 0) rfl _ _ (K.out.at 1 rfl) rfl (by kernel_rfl) (by simp [Value.oneCell']) ?_)
          | fail)
        intro Wj hbj hbarj
        have HBj := Lib.hid (hbarj.below K.out.below (Nat.le_refl _) K.out.size)
        clear hbarj
        go_wp2_with fail
        rw [← HRn.out]
        exact bodyPost_ret (v := .tuple #[.agg (entC 0 0 (.slice none 0 0) (.slice none 0 0) (.slice none 0 0) false 0 0 0 0), .int .i64 RX]) (results_row_tmp (p := 4) (u := 5) rfl _ _ w.heap.size _ _ _ rfl hbj Try.underlying26 rfl (by kernel_rfl)) rfl (idec_err HNz.out HBj.out)
      case false =>
        have hz : RX = 0 := by simpa using hr
        have hF2 := HF2.out
        rw [if_pos hz] at hF2
        have HRn := Lib.hid hF2
        clear hF2 HF2 hz
        have hgg := HGx.out
        have HGe : Hid (w.heap.size ≤ gx) := Lib.hid (by omega)
        clear hgg
        go_wp2_with (first
          | (refine wpList_load_row rfl 26 _ rfl _ rfl _ _ _ _ (K.out.at 0 rfl) Try.underlying26 rfl (by kernel_rfl) ?_)
          | (refine wpList_store_row rfl 26 _ _ rfl _ rfl (entC tb 0 (.slice none 0 0) vA vW p.cl p.me p.ma p.mt p.gt) rfl _ _ (K.out.at 1 rfl) rfl (by kernel_rfl) (by simp [Value.oneCell']; exact ⟨HO.out.1, HO.out.2⟩) ?_)
          | fail)
        intro Wj hbj hbarj
        have HBj := Lib.hid (hbarj.below K.out.below (Nat.le_refl _) K.out.size)
        have HA2 := Lib.hid ((HoA.out.bar hbarj (fun k hk => by have := (HoA.out.block k hk).1; have := HGe.out; omega)).down (C := w.heap.size) (by have := HGe.out; omega))
        have HW2 := Lib.hid ((HoW.out.bar hbarj (fun k hk => by have := (HoW.out.block k hk).1; have := HGe.out; omega)).down (C := w.heap.size) (by have := HGe.out; omega))
        clear hbarj
        go_wp2_with fail
        rw [← HRn.out]
        exact bodyPost_ret (v := .tuple #[.agg (entC tb 0 (.slice none 0 0) vA vW p.cl p.me p.ma p.mt p.gt), .int .i64 0]) (results_row_tmp (p := 4) (u := 5) rfl _ _ w.heap.size _ _ _ rfl hbj Try.underlying26 rfl (by kernel_rfl)) rfl ⟨vA, vW, rfl, HA2.out, HW2.out, HBj.out⟩
    rw [if_neg h0] at hF1
    have t0 : d1.toList.isEmpty = false := by
      rw [ByteArray.toList_eq]
      cases h : d1.data.toList with
      | nil => exact absurd (by have := congrArg List.length h; simpa using this) h0
      | cons a l => rfl
    by_cases h4 : d1.size < 4
    · rw [if_pos h4] at hF1
      have t3 : decide ((d1.size : Int) < 4) = true := by simp; omega
      have HRn := Lib.hid hF1
      clear hF1 HF h4 h0
      have HNz : Hid ((10 : Int) ≠ 0) := Lib.hid (by decide)
      go_wp2_with (first
        | (refine wpList_store_row rfl 26 _ _ rfl _ rfl (entC 0 0 (.slice none 0 0) (.slice none 0 0) (.slice none 0 0) false 0 0 0 0) rfl _ _ (K.out.at 1 rfl) rfl (by kernel_rfl) (by simp [Value.oneCell']) ?_)
        | fail)
      intro Wj hbj hbarj
      have HBj := Lib.hid (hbarj.below K.out.below (Nat.le_refl _) K.out.size)
      clear hbarj
      go_wp2_with fail
      rw [← HRn.out]
      exact bodyPost_ret (v := .tuple #[.agg (entC 0 0 (.slice none 0 0) (.slice none 0 0) (.slice none 0 0) false 0 0 0 0), .int .i64 10]) (results_row_tmp (p := 4) (u := 5) rfl _ _ w.heap.size _ _ _ rfl hbj Try.underlying26 rfl (by kernel_rfl)) rfl (idec_err HNz.out HBj.out)
    rw [if_neg h4] at hF1
    have t3 : decide ((d1.size : Int) < 4) = false := by simp; omega
    have i4 : (4 : Int) ≤ d1.size := by omega
    have HFn := Lib.hid hF1
    have HNm : Hid (∀ W : World, Calls Try.prog 30 #[.string (d1.extract 2 4)] W fun x w' => x = .returned (.int .u64 (lenD d1 : Int)) ∧ W = w') := Lib.hid (fun W => by
      have := exNum W d1 2 4 (by decide)
      rw [exN_len d1 (by omega)] at this
      exact this)
    have hn : lenD d1 ≤ 65535 := by have h2 := byteA_le d1 2; have h3 := byteA_le d1 3; unfold lenD; omega
    have HN : Hid (chunkA d1 = d1.extract 0 (lenD d1)) := Lib.hid rfl
    have w2 : IntKind.i64.wrap ((lenD d1 : Nat) : Int) = lenD d1 := i64_wrap_in (by omega) (by omega)
    have HTk : Hid (8 ≤ lenD d1 → lenD d1 ≤ d1.size → (takeP p (chunkA d1)).2.2 = decide (str (rawF (kindD d1) (seemsP (kindD d1) (chunkA d1))) = chunkA d1) ∧ ((takeP p (chunkA d1)).2.2 = true → (takeP p (chunkA d1)).2.1 = placeF (kindD d1) ∧ JoinOk p (seemsP (kindD d1) (chunkA d1)) (takeP p (chunkA d1)).1 (kindD d1))) := Lib.hid (fun h8 hls => by
      have hk : kindD (chunkA d1) = kindD d1 := kindD_ext d1 _ (by omega)
      have := take_seems p (chunkA d1) (by unfold chunkA; rw [ByteArray.size_extract]; omega) (by unfold chunkA; rw [lenD_ext d1 _ (by omega), ByteArray.size_extract]; omega)
      rw [hk] at this
      exact this)
    have hsi := seemsP_in (kindD d1) (chunkA d1)
    have hss := seemsP_shape (kindD d1) (chunkA d1)
    have hpi := placeF_in (kindD d1)
    have HSi := Lib.hid (And.intro hsi hss)
    clear hF1 HF h0 hsi hss
    generalize kindD d1 = kd at *
    generalize lenD d1 = n at *
    go_wp2_with fail
    refine (HNm.out _).mono ?_
    rintro x w' ⟨rfl, rfl⟩
    clear HNm
    have e0 : (0 : Int) ≤ n := by omega
    have hF2 := HFn.out
    clear HFn
    by_cases h5 : d1.size < n
    · have d2 : decide (d1.size < n) = true := by simp; omega
      rw [if_pos h5] at hF2
      have HRn := Lib.hid hF2
      clear hF2 h5 HTk
      have HNz : Hid ((10 : Int) ≠ 0) := Lib.hid (by decide)
      go_wp2_with (first
        | (refine wpList_store_row rfl 26 _ _ rfl _ rfl (entC 0 0 (.slice none 0 0) (.slice none 0 0) (.slice none 0 0) false 0 0 0 0) rfl _ _ (K.out.at 1 rfl) rfl (by kernel_rfl) (by simp [Value.oneCell']) ?_)
        | fail)
      intro Wj hbj hbarj
      have HBj := Lib.hid (hbarj.below K.out.below (Nat.le_refl _) K.out.size)
      clear hbarj
      go_wp2_with fail
      rw [← HRn.out]
      exact bodyPost_ret (v := .tuple #[.agg (entC 0 0 (.slice none 0 0) (.slice none 0 0) (.slice none 0 0) false 0 0 0 0), .int .i64 10]) (results_row_tmp (p := 4) (u := 5) rfl _ _ w.heap.size _ _ _ rfl hbj Try.underlying26 rfl (by kernel_rfl)) rfl (idec_err HNz.out HBj.out)
    rw [if_neg h5] at hF2
    have d2 : decide (d1.size < n) = false := by simp; omega
    by_cases h6 : n < 8
    · have d3 : decide ((n : Int) < 8) = true := by simp; omega
      rw [if_pos h6] at hF2
      have HRn := Lib.hid hF2
      clear hF2 h5 h6 HTk
      have HNz : Hid ((11 : Int) ≠ 0) := Lib.hid (by decide)
      go_wp2_with (first
        | (refine wpList_store_row rfl 26 _ _ rfl _ rfl (entC 0 0 (.slice none 0 0) (.slice none 0 0) (.slice none 0 0) false 0 0 0 0) rfl _ _ (K.out.at 1 rfl) rfl (by kernel_rfl) (by simp [Value.oneCell']) ?_)
        | fail)
      intro Wj hbj hbarj
      have HBj := Lib.hid (hbarj.below K.out.below (Nat.le_refl _) K.out.size)
      clear hbarj
      go_wp2_with fail
      rw [← HRn.out]
      exact bodyPost_ret (v := .tuple #[.agg (entC 0 0 (.slice none 0 0) (.slice none 0 0) (.slice none 0 0) false 0 0 0 0), .int .i64 11]) (results_row_tmp (p := 4) (u := 5) rfl _ _ w.heap.size _ _ _ rfl hbj Try.underlying26 rfl (by kernel_rfl)) rfl (idec_err HNz.out HBj.out)
    rw [if_neg h6] at hF2
    have d3 : decide ((n : Int) < 8) = false := by simp; omega
    have e1 : n ≤ d1.size := by omega
    have e3 : (n : Int) ≤ d1.size := by omega
    obtain ⟨hT1, hT2⟩ := HTk.out (by omega) (by omega)
    have HF3 := Lib.hid hF2
    have HT1 := Lib.hid hT1
    have HT2 := Lib.hid hT2
    clear hF2 h5 HTk hT1 hT2
    have HS := Lib.hid (r7take_any wr w w.heap.size gx w.heap.size (entC 0 0 (.slice none 0 0) (.slice none 0 0) (.slice none 0 0) false 0 0 0 0) tb vA vW p.pA p.pW p.cl p.me p.ma p.mt p.gt (d1.extract 0 n) (by rw [ByteArray.size_extract]; omega) (by have := HD.out; rw [ByteArray.size_extract]; omega) (by have := HGx.out; omega) (by have := HGx.out; omega) HoA.out HoW.out K.out (takeP p (chunkA d1)) (by rw [← HN.out]))
    clear HoA HoW K
    rw [← HN.out] at HS
    generalize hch : chunkA d1 = ch at *
    clear hch
    generalize takeP p ch = T at *
    obtain ⟨p', at', is⟩ := T
    simp only at HT1 HT2
    generalize seemsP kd ch = q at *
    go_wp2_with fail
    rw [← HN.out]
    refine HS.out.mono ?_
    rintro e w2 ⟨vA2, vW2, rfl, hoA, hoW, hk2⟩
    have K := Lib.hid hk2
    have HoA := Lib.hid hoA
    have HoW := Lib.hid hoW
    clear hoA hoW hk2 HS
    cases is
    case false =>
      have hF4 := HF3.out
      rw [if_pos (of_decide_eq_false HT1.out.symm)] at hF4
      have HRn := Lib.hid hF4
      clear hF4 HF3 HT1 HT2
      have HNz : Hid ((11 : Int) ≠ 0) := Lib.hid (by decide)
      go_wp2_with (first
        | (refine wpList_store_row rfl 26 _ _ rfl _ rfl (entC 0 0 (.slice none 0 0) (.slice none 0 0) (.slice none 0 0) false 0 0 0 0) rfl _ _ (K.out.at 1 rfl) rfl (by kernel_rfl) (by simp [Value.oneCell']) ?_)
        | fail)
      intro Wj hbj hbarj
      have HBj := Lib.hid (hbarj.below K.out.below (Nat.le_refl _) K.out.size)
      clear hbarj
      go_wp2_with fail
      rw [← HRn.out]
      exact bodyPost_ret (v := .tuple #[.agg (entC 0 0 (.slice none 0 0) (.slice none 0 0) (.slice none 0 0) false 0 0 0 0), .int .i64 11]) (results_row_tmp (p := 4) (u := 5) rfl _ _ w.heap.size _ _ _ rfl hbj Try.underlying26 rfl (by kernel_rfl)) rfl (idec_err HNz.out HBj.out)
    case true =>
      have hF4 := HF3.out
      rw [if_neg (Decidable.not_not.2 (of_decide_eq_true HT1.out.symm))] at hF4
      obtain ⟨hat, hjo⟩ := HT2.out rfl
      subst hat
      have HJ := Lib.hid hjo
      clear HT1 HT2 HF3 hjo
      generalize hpk : placeF kd = pk at *
      by_cases hb : pk ≤ b
      · have d4 : decide (pk ≤ b) = true := decide_eq_true hb
        rw [if_pos hb] at hF4
        have HRn := Lib.hid hF4
        clear hF4 hb HJ hpk
        have HNz : Hid ((23 : Int) ≠ 0) := Lib.hid (by decide)
        go_wp2_with (first
          | (refine wpList_store_row rfl 26 _ _ rfl _ rfl (entC 0 0 (.slice none 0 0) (.slice none 0 0) (.slice none 0 0) false 0 0 0 0) rfl _ _ (K.out.at 1 rfl) rfl (by kernel_rfl) (by simp [Value.oneCell']) ?_)
          | fail)
        intro Wj hbj hbarj
        have HBj := Lib.hid (hbarj.below K.out.below (Nat.le_refl _) K.out.size)
        clear hbarj
        go_wp2_with fail
        rw [← HRn.out]
        exact bodyPost_ret (v := .tuple #[.agg (entC 0 0 (.slice none 0 0) (.slice none 0 0) (.slice none 0 0) false 0 0 0 0), .int .i64 23]) (results_row_tmp (p := 4) (u := 5) rfl _ _ w.heap.size _ _ _ rfl hbj Try.underlying26 rfl (by kernel_rfl)) rfl (idec_err HNz.out HBj.out)
      · have d4 : decide (pk ≤ b) = false := decide_eq_false hb
        rw [if_neg hb] at hF4
        have hj := HJ.out b b HEm.out (by rw [hpk]; omega) HBd.out.1 HPi.out
        subst hj
        have HFn := Lib.hid hF4
        have HE2 : Hid (EmptyP (joinP p q) pk) := Lib.hid (by
          have := (enc_join (tb := tb) HEm.out (by rw [hpk]; omega) HBd.out.1 HPi.out HSi.out.1 HSi.out.2).2
          rw [hpk] at this
          exact this)
        have HP2 : Hid (PartIn pk (joinP p q)) := Lib.hid (joinP_in HPi.out HSi.out.1 (by omega))
        have HB2 : Hid (0 ≤ pk ∧ pk ≤ 6) := Lib.hid hpi
        clear hF4 HJ hpk hpi hb HEm HPi HBd HSi
        go_wp2_with fail
        go_roundg n0
        case measure => omega
        case rel => exact ⟨_, pk, joinP p q, vA2, vW2, rfl, rfl, Lib.hid (by have := HD.out; rw [ByteArray.size_extract]; omega), Lib.hid (by have := HG.out; rw [ByteArray.size_extract]; omega), HB2, HE2, HP2, HFn, HoA, HoW, K⟩
end
section
open Go.RowKit
set_option linter.unusedVariables false
set_option linter.unusedSimpArgs false

set_option maxRecDepth 100000 in
set_option maxHeartbeats 8000000 in
theorem InstrDecodes_walk (w : World) (table : Int) (wt : (Lit.int .i64 table).wf = true) (data : ByteArray) (hds : data.size ≤ 140737488351232) :
    Calls Try.prog 5 #[.int .i64 table, .string data] w fun e w' => e = .returned (.bool true) ∧ Below w.heap.size w w' := by
  clear wt
  have HA := Lib.hid awake07
  have K0 : Hid (KR w.heap.size w [] w) := Lib.hid (KR.start (Below.refl _ _) (Nat.le_refl _))
  by_cases h2 : 2000 < data.size
  · have t1 : decide ((2000 : Int) < (data.size : Int)) = true := by simp; omega
    clear h2
    go_enter Try.func5, Try.ntmps5
    go_wp2_with fail
    refine (HA.out _).mono ?_
    rintro e w2 ⟨rfl, hb⟩
    have K := Lib.hid (K0.out.call hb)
    clear hb
    go_wp2_with fail
    go_ret
    exact ⟨rfl, K.out.below⟩
  have t1 : decide ((2000 : Int) < (data.size : Int)) = false := by simp; omega
  have HD1 := Lib.hid (fun W : World => IDecode_any W table data (by omega) (decT table data) rfl)
  have HD2 := Lib.hid (fun W : World => r7Decode_any W table data (by omega) (decT table data) rfl)
  clear h2 hds
  generalize decT table data = R at *
  obtain ⟨rp, re⟩ := R
  have HRR : Hid ((re == re) = true) := Lib.hid (by simp)
  go_enter Try.func5, Try.ntmps5
  go_wp2_with fail
  refine (HD1.out _).mono ?_
  rintro e w3 ⟨vA, vW, rfl, hoA, hoW, hb⟩
  have K := Lib.hid (K0.out.call hb)
  have HA1 := Lib.hid (ReadL.of_own hoA (fun _ => rfl))
  have HW1 := Lib.hid (ReadL.of_own hoW (fun _ => rfl))
  have oA : vA.oneCell' = true := by obtain ⟨aa, ac, hva, _, _⟩ := hoA.slice; rw [hva]; rfl
  have oW : vW.oneCell' = true := by obtain ⟨aa, ac, hva, _, _⟩ := hoW.slice; rw [hva]; rfl
  have HO := Lib.hid (And.intro oA oW)
  clear hb HD1 hoA hoW oA oW K0
  simp only
  generalize hTT : (if re = 0 then table else 0) = TT
  have HTT := Lib.hid hTT
  clear hTT
  go_wp2_with (first
    | (refine wpList_store_row rfl 26 _ _ rfl _ rfl (entC TT 0 (.slice none 0 0) vA vW rp.cl rp.me rp.ma rp.mt rp.gt) rfl _ _ ((K.out.box _ _).at 0 rfl) rfl (by kernel_rfl) (by simp [Value.oneCell']; exact ⟨HO.out.1, HO.out.2⟩) ?_)
    | fail)
  intro Wi hbi hbari
  have HB3 : Hid (Below w3.heap.size w3 Wi) := Lib.hid (hbari.below ((Below.refl _ _).alloc (Nat.le_refl _) _) (Nat.le_refl _) (by simp))
  replace K := Lib.hid (K.out.into hbari hbi)
  replace HA1 := Lib.hid (HA1.out.below HB3.out (Nat.le_refl _))
  replace HW1 := Lib.hid (HW1.out.below HB3.out (Nat.le_refl _))
  clear hbi hbari HB3 HO
  generalize w3.heap.size = g1 at *
  go_wp2_with fail
  refine (HD2.out _).mono ?_
  rintro e w4 ⟨vA2, vW2, rfl, hoA, hoW, hb⟩
  replace K := Lib.hid (K.out.call hb)
  replace HA1 := Lib.hid (HA1.out.below hb (Nat.le_refl _))
  replace HW1 := Lib.hid (HW1.out.below hb (Nat.le_refl _))
  have HA2 := Lib.hid (ReadL.of_own hoA (fun _ => rfl))
  have HW2 := Lib.hid (ReadL.of_own hoW (fun _ => rfl))
  have oA : vA2.oneCell' = true := by obtain ⟨aa, ac, hva, _, _⟩ := hoA.slice; rw [hva]; rfl
  have oW : vW2.oneCell' = true := by obtain ⟨aa, ac, hva, _, _⟩ := hoW.slice; rw [hva]; rfl
  have HO := Lib.hid (And.intro oA oW)
  clear hb HD2 hoA hoW oA oW
  simp only
  rw [HTT.out]
  clear HTT
  go_wp2_with (first
    | (refine wpList_store_row rfl 26 _ _ rfl _ rfl (entC TT 0 (.slice none 0 0) vA2 vW2 rp.cl rp.me rp.ma rp.mt rp.gt) rfl _ _ ((K.out.box _ _).at 0 rfl) rfl (by kernel_rfl) (by simp [Value.oneCell']; exact ⟨HO.out.1, HO.out.2⟩) ?_)
    | fail)
  intro Wi2 hbi hbari
  have HB3 : Hid (Below w4.heap.size w4 Wi2) := Lib.hid (hbari.below ((Below.refl _ _).alloc (Nat.le_refl _) _) (Nat.le_refl _) (by simp))
  replace K := Lib.hid (K.out.into hbari hbi)
  have HSm := Lib.hid (ESame_eq Wi2 TT 0 0 (.slice none 0 0) (.slice none 0 0) vA vA2 vW vW2 rp.pA rp.pW rp.cl rp.me rp.ma rp.mt rp.gt (HA1.out.below HB3.out (Nat.le_refl _)) (HA2.out.below HB3.out (Nat.le_refl _)) (HW1.out.below HB3.out (Nat.le_refl _)) (HW2.out.below HB3.out (Nat.le_refl _)))
  clear hbi hbari HB3 HA1 HA2 HW1 HW2 HO
  generalize w4.heap.size = g2 at *
  go_wp2_with (first
    | (refine wpList_load_row rfl 26 _ rfl _ rfl _ _ _ _ (K.out.at 0 rfl) Try.underlying26 rfl (by kernel_rfl) ?_)
    | (refine wpList_load_row rfl 26 _ rfl _ rfl _ _ _ _ (K.out.at 1 rfl) Try.underlying26 rfl (by kernel_rfl) ?_)
    | fail)
  refine HSm.out.mono ?_
  rintro e w5 ⟨rfl, hb⟩
  replace K := Lib.hid (K.out.call hb)
  clear hb HSm
  have c2 := (K.out.at 1 rfl).cell 2 _ rfl
  have c1 := (K.out.at 1 rfl).cell 1 _ rfl
  have hrr := HRR.out
  go_wp2_with fail
  refine (HA.out _).mono ?_
  rintro e w6 ⟨rfl, hb⟩
  replace K := Lib.hid (K.out.call hb)
  clear hb c1 c2
  go_wp2_with fail
  go_ret
  exact ⟨rfl, K.out.below⟩
end
end Go.Proofs.Ytdjhbahiiabimaa
