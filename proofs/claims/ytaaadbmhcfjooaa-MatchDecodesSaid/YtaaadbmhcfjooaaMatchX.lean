/- The reference's Decode. -/
import Derived.Test.YtaaadbmhcfjooaaMatchW
import Derived.Test.YtaaadbmhcfjooaaMatchE
import Derived.Deep.LoopGhost
namespace Go.Proofs.Ytaaadbmhcfjooaa
open Go.RowKit
set_option linter.unusedVariables false
set_option linter.unusedSimpArgs false

/-- One test, as the reference reads it. -/
def stepP (s : List UInt8) : Option (Test × List UInt8) :=
  let c := (s.getD 2 0).toNat
  let f := namedF ((c / 2 : Nat) : Int)
  let k := sizeF f
  let long := if c % 2 = 1 then 2 * k else k
  if f = 0 ∨ (s.getD 3 0).toNat ≠ long ∨ s.length < 4 + long then none else
    some (⟨f, numG ((s.drop 4).take k), if c % 2 = 1 then numG ((s.drop (4 + k)).take k) else greatF f⟩, s.drop (4 + long))
/-- The tests, as the reference reads them; none: bytes that are wrong. -/
def refF : Nat → List UInt8 → List Test → Option (List Test)
  | 0, _, acc => some acc
  | n + 1, s, acc => if 4 ≤ s.length then (match stepP s with
    | none => none
    | some (t, s') => refF n s' (acc ++ [t])) else some acc
/-- What the reference says of the tests. -/
def refT (d : List UInt8) (en : Nat) (r : Option (List Test)) : List Test × Int × Int := match r with
  | none => ([], 0, 11)
  | some l => if rightF l ≠ 0 then ([], 0, 11) else if str (encB l) = (str d).extract 0 en then (l, (en : Int), 0) else ([], 0, 11)
/-- What the reference's Decode says. -/
def refD (d : List UInt8) : List Test × Int × Int :=
  if d.length < 4 then ([], 0, 10) else if d.length < endD (str d) then ([], 0, 10) else if lenD (str d) < 4 then ([], 0, 11) else
    refT d (endD (str d)) (refF 10 ((d.drop 4).take (lenD (str d) - 4)) [])

/-- The list so far, and what is below. -/
def OB (B : Nat) (w : World) (v : Value) (acc : List Test) (W : World) : Prop := OwnL W B 48 3 encTest v acc ∧ Below B w W ∧ B ≤ W.heap.size
section
variable {B : Nat} {w W W' : World} {v : Value} {acc : List Test}
theorem OB.start (h1 : OwnL W B 48 3 encTest v acc) (h2 : Below B w W) (h3 : B ≤ W.heap.size) : OB B w v acc W := ⟨h1, h2, h3⟩
theorem OB.call (h : OB B w v acc W) (hb : Below W.heap.size W W') : OB B w v acc W' := ⟨h.1.belowAll hb, h.2.1.trans (hb.mono h.2.2), Nat.le_trans h.2.2 hb.size⟩
theorem OB.set (h : OB B w v acc W) {g2 : Nat} {cs : Array Value} (hb : BlkAt W g2 48 cs) (h2 : B ≤ g2) (hn : v.ownBlock ≠ some g2) (j : Nat) (x : Value) : OB B w v acc (W.setCell ⟨g2, j, none⟩ x) := by
  have hbar : Bar g2 W (W.setCell ⟨g2, j, none⟩ x) := ⟨rfl, rfl, rfl, by simp, fun k _ hk => by
    simp [World.setCell, Array.getElem?_modify]
    intro h; exact absurd h.symm hk⟩
  exact ⟨h.1.bar hbar (fun k hk e => hn (by rw [hk, e])), h.2.1.setCell h2 x, by simpa using h.2.2⟩
theorem OB.append {v' : Value} {t : Test} (h : OB B w v acc W) (ho : OwnL W' B 48 3 encTest v' (acc ++ [t])) (hg : W.grownBy W' v.ownBlock) : OB B w v' (acc ++ [t]) W' :=
  ⟨ho, below_grown h.2.1 hg h.2.2 h.1, Nat.le_trans h.2.2 hg.size⟩
end

set_option maxRecDepth 100000 in
set_option maxHeartbeats 8000000 in
theorem rDecode_any (w : World) (d : List UInt8) (hd : d.length ≤ 1000000) :
    Calls Try.prog 25 #[.string (str d)] w (DecPost w (refD d)) := by
  by_cases h4 : d.length < 4
  · have d1 : decide ((d.length : Int) < 4) = true := by simp; omega
    have hF : refD d = ([], 0, 10) := by unfold refD; rw [if_pos h4]
    rw [hF]
    clear hF h4
    go_enter Try.func25, Try.ntmps25
    go_wp2_with fail
    go_ret3
    exact ⟨_, rfl, OwnL.nil _ _ _ _ _, Below.refl _ _⟩
  have d1 : decide ((d.length : Int) < 4) = false := by simp; omega
  have q1 : 4 ≤ d.length := by omega
  have hx : (str d).extract 2 4 = str ((d.drop 2).take 2) := by rw [str_extract]
  have HNm := Lib.hid (fun W => rNum_any W ((d.drop 2).take 2) (by rw [List.length_take]; omega))
  have hnum : numG ((d.drop 2).take 2) = (lenD (str d) : Int) := by
    rw [numG_eq _ (by rw [List.length_take]; omega)]
    have e : (d.drop 2).take 2 = [d.getD 2 0, d.getD 3 0] := by
      rcases d with _ | ⟨a, _ | ⟨b, _ | ⟨c, _ | ⟨e, d⟩⟩⟩⟩
      case cons.cons.cons.cons => rfl
      all_goals simp at q1
    rw [e]
    unfold lenD byteA
    rw [str_data]
    simp [numN]
  rw [hnum, ← hx] at HNm
  have HF : Hid (refD d = if d.length < endD (str d) then ([], 0, 10) else if lenD (str d) < 4 then ([], 0, 11) else
    refT d (endD (str d)) (refF 10 ((d.drop 4).take (lenD (str d) - 4)) [])) := Lib.hid (by
      unfold refD; rw [if_neg h4])
  have hn : lenD (str d) ≤ 65535 := by
    have h2 := byteA_le (str d) 2
    have h3 := byteA_le (str d) 3
    unfold lenD; omega
  have HE : Hid (endD (str d) = (lenD (str d) + 7) / 8 * 8) := Lib.hid rfl
  clear h4 hnum hx
  generalize lenD (str d) = n at *
  generalize endD (str d) = en at *
  generalize refD d = R at *
  have hen : ((n : Int) + 7) / 8 * 8 = (en : Int) := by have := HE.out; omega
  go_enter Try.func25, Try.ntmps25
  go_wp2_with fail
  refine (HNm.out _).mono ?_
  rintro x w1 ⟨rfl, rfl⟩
  clear HNm
  by_cases h5 : d.length < en
  · have d2 : decide (d.length < en) = true := by simp; omega
    have hR : Hid (R = ([], 0, 10)) := Lib.hid (by rw [HF.out, if_pos h5])
    clear HF h5 HE
    go_wp2_with fail
    go_ret3
    rw [hR.out]
    exact ⟨_, rfl, OwnL.nil _ _ _ _ _, Below.refl _ _⟩
  have d2 : decide (d.length < en) = false := by simp; omega
  by_cases h6 : n < 4
  · have d3 : decide ((n : Int) < 4) = true := by simp; omega
    have hR : Hid (R = ([], 0, 11)) := Lib.hid (by rw [HF.out, if_neg h5, if_pos h6])
    clear HF h5 HE h6
    go_wp2_with fail
    go_ret3
    rw [hR.out]
    exact ⟨_, rfl, OwnL.nil _ _ _ _ _, Below.refl _ _⟩
  have d3 : decide ((n : Int) < 4) = false := by simp; omega
  have HF2 := HF.out
  rw [if_neg h5, if_neg h6] at HF2
  have HF3 := Lib.hid HF2
  have e1 : n ≤ d.length := by have := HE.out; omega
  have e2 : (4 : Int) ≤ n := by omega
  have e3 : (n : Int) ≤ d.length := by omega
  have e4 : (en : Int) ≤ d.length := by omega
  have e5 : (0 : Int) ≤ en := by omega
  clear HF HF2 h5 h6 HE
  have hX4 : (str d).extract 4 n = str ((d.drop 4).take (n - 4)) := str_extract d 4 n
  have hs0 : Hid (((d.drop 4).take (n - 4)).length ≤ 1000000) := Lib.hid (by rw [List.length_take, List.length_drop]; omega)
  generalize (d.drop 4).take (n - 4) = s0 at *
  generalize hXn : (str d).extract 4 n = X at *
  subst hX4
  have HXn := Lib.hid hXn
  clear hXn
  generalize hB : w.heap.size = B at *
  have HBq := Lib.hid hB
  have HBS : Hid (∀ W, Below B w W → B ≤ W.heap.size) := Lib.hid (fun W h => by rw [← hB]; exact h.size)
  have HB0 := Lib.hid (hB ▸ Below.refl w.heap.size w : Below B w w)
  clear hB
  go_wp2_with fail
  clear d1 q1 hn hen d2 d3 e1 e2 e3 hd
  go_loopg [7, 8] 10 (fun gg v sv wr => ∃ (s : List UInt8) (acc : List Test), sv = .string (str s) ∧ Hid (OwnL wr B 48 3 encTest v acc) ∧ Hid (Below B w wr) ∧ Hid (R = refT d en (refF gg s acc)) ∧ acc.length + gg = 10 ∧ s.length ≤ 1000000 ∧ Hid (∀ t ∈ acc, okT t))
  case atStart => exact ⟨s0, [], by rw [HXn.out], Lib.hid (OwnL.nil _ _ _ _ _), HB0, HF3, rfl, hs0.out, Lib.hid (fun t ht => absurd ht List.not_mem_nil)⟩
  case round =>
    obtain ⟨s, acc, rfl, hO, hB, hF, hlen, hsl, hk⟩ := hrel
    clear HF3 HB0
    obtain ⟨va, vc, hv⟩ : ∃ va vc, u7 = .slice va acc.length vc := by
      obtain ⟨va, vc, hv, _⟩ := ReadL.of_own hO.out encTest_len
      exact ⟨va, vc, hv⟩
    subst hv
    by_cases hgo : 4 ≤ s.length ∧ acc.length < 10
    · obtain ⟨h4, h10⟩ := hgo
      obtain ⟨m, rfl⟩ : ∃ m, gk = m + 1 := ⟨gk - 1, by omega⟩
      have d1 : decide ((4 : Int) ≤ s.length) = true := by simp; omega
      have d4 : decide ((acc.length : Int) < 10) = true := by simp; omega
      have i2 : (2 : Int) < s.length := by omega
      have i3 : (3 : Int) < s.length := by omega
      obtain ⟨c, hc⟩ : ∃ c, c = (s[2]'(by omega)).toNat := ⟨_, rfl⟩
      obtain ⟨c3, hc3⟩ : ∃ c, c = (s[3]'(by omega)).toNat := ⟨_, rfl⟩
      have g2 : (s.getD 2 0).toNat = c := by rw [List.getD_eq_getElem?_getD, List.getElem?_eq_getElem (by omega)]; exact hc.symm
      have g3 : (s.getD 3 0).toNat = c3 := by rw [List.getD_eq_getElem?_getD, List.getElem?_eq_getElem (by omega)]; exact hc3.symm
      have hcl : c ≤ 255 := by have := (s[2]'(by omega)).toNat_lt; omega
      have hcl3 : c3 ≤ 255 := by have := (s[3]'(by omega)).toNat_lt; omega
      have hc2' := hc.symm
      have hc3' := hc3.symm
      clear hc hc3
      obtain ⟨f, hf⟩ : ∃ f, f = namedF ((c / 2 : Nat) : Int) := ⟨_, rfl⟩
      obtain ⟨k, hkk⟩ : ∃ k, k = sizeF f := ⟨_, rfl⟩
      have HNm : Hid (∀ W, Calls Try.prog 49 #[.int .i64 ((c : Int) / 2)] W fun x w' => x = .returned (.int .i64 (f : Int)) ∧ Below W.heap.size W w') := Lib.hid (fun W => by
        have := rNamed_any W ((c / 2 : Nat) : Int) (by omega) (by omega)
        rw [← hf] at this
        rw [show ((c : Int) / 2) = ((c / 2 : Nat) : Int) by omega]
        exact this)
      have HSz := Lib.hid (fun W => rSize_any W (f : Int))
      rw [← hkk] at HSz
      have HST : Hid (stepP s = if f = 0 ∨ c3 ≠ (if c % 2 = 1 then 2 * k else k) ∨ s.length < 4 + (if c % 2 = 1 then 2 * k else k) then none else
          some (⟨f, numG ((s.drop 4).take k), if c % 2 = 1 then numG ((s.drop (4 + k)).take k) else greatF f⟩, s.drop (4 + (if c % 2 = 1 then 2 * k else k)))) := Lib.hid (by
        unfold stepP
        simp only [g2, g3, ← hf, ← hkk])
      have hf9 : f ≤ 9 := by rw [hf]; exact namedF_le _
      have hk8 : k ≤ 8 := by
        by_cases h0 : f = 0
        · subst h0; subst hkk; decide
        · have := (sizeF_val (f := (f : Int)) (by omega)).2.1; omega
      have HF1 : Hid (R = refT d en (match stepP s with | none => none | some (t, s') => refF m s' (acc ++ [t]))) := Lib.hid (by
        have := hF.out
        unfold refF at this
        rw [if_pos h4] at this
        exact this)
      clear g2 g3 hf hkk hF
      have S1 := Lib.hid (OB.start hO.out hB.out (HBS.out _ hB.out))
      clear hB hO
      go_wp2_with fail
      refine (HNm.out _).mono ?_
      rintro x w2 ⟨rfl, b2⟩
      have S2 := Lib.hid (S1.out.call b2)
      clear b2 HNm S1
      go_wp2_with fail
      refine (HSz.out _).mono ?_
      rintro x w3 ⟨rfl, b3⟩
      have S3 := Lib.hid (S2.out.call b3)
      clear b3 HSz S2
      have hm2 : (c : Int).tmod 2 = (c : Int) % 2 := Int.tmod_eq_emod_of_nonneg (by omega)
      by_cases hodd : c % 2 = 1
      · have t2 : ((c : Int) % 2 == 1) = true := by rw [beq_iff_eq]; omega
        have HS2 := HST.out
        simp only [hodd, if_true, if_false] at HS2
        by_cases hf0 : f = 0
        · have hR : Hid (R = ([], 0, 11)) := Lib.hid (by rw [HF1.out, HS2, if_pos (.inl hf0)]; rfl)
          have tf : ((f : Int) == 0) = true := by rw [beq_iff_eq]; omega
          have HS3 := S3
          clear HS2 HST HF1 hf9 hodd S3
          go_wp2_with fail
          go_ret3
          rw [hR.out]
          exact ⟨_, rfl, OwnL.nil _ _ _ _ _, by rw [HBq.out]; exact HS3.out.2.1⟩
        have tf : ((f : Int) == 0) = false := beq_eq_false_iff_ne.mpr (by omega)
        by_cases hcc : c3 = 2 * k
        case neg =>
          have hR : Hid (R = ([], 0, 11)) := Lib.hid (by rw [HF1.out, HS2, if_pos (.inr (.inl hcc))]; rfl)
          have tc : ¬ (c3 : Int) = 2 * (k : Int) := by omega
          clear HS2 HST HF1 hf9 hodd hcc
          go_wp2_with fail
          go_ret3
          rw [hR.out]
          exact ⟨_, rfl, OwnL.nil _ _ _ _ _, by rw [HBq.out]; exact S3.out.2.1⟩
        have tc : (c3 : Int) = 2 * (k : Int) := by omega
        by_cases hln : s.length < 4 + 2 * k
        · have hR : Hid (R = ([], 0, 11)) := Lib.hid (by rw [HF1.out, HS2, if_pos (.inr (.inr hln))]; rfl)
          have tl : (s.length : Int) < 4 + 2 * (k : Int) := by omega
          clear HS2 HST HF1 hf9 hodd hcc hln
          go_wp2_with fail
          go_ret3
          rw [hR.out]
          exact ⟨_, rfl, OwnL.nil _ _ _ _ _, by rw [HBq.out]; exact S3.out.2.1⟩
        have tl : 4 + 2 * (k : Int) ≤ (s.length : Int) := by omega
        have HF2 : Hid (R = refT d en (refF m (s.drop (4 + 2 * k)) (acc ++ [⟨f, numG ((s.drop 4).take k), numG ((s.drop (4 + k)).take k)⟩]))) := Lib.hid (by
          rw [HF1.out, HS2, if_neg (by omega)])
        have HV : Hid (∀ W, Calls Try.prog 48 #[.string ((str s).extract 4 (4 + k))] W fun x w' => x = .returned (.int .u64 (numG ((s.drop 4).take k))) ∧ W = w') := Lib.hid (fun W => by
          rw [str_extract, Nat.add_sub_cancel_left]
          exact rNum_any W _ (by rw [List.length_take, List.length_drop]; omega))
        have HXs : Hid ((str s).extract (4 + 2 * k) s.length = str (s.drop (4 + 2 * k))) := Lib.hid (by
          rw [str_extract, List.take_of_length_le (by rw [List.length_drop]; omega)])
        have HU1 := Lib.hid (numG_U64 ((s.drop 4).take k))
        have HUg := Lib.hid (greatF_U64 (f : Int))
        have hsl2 : (s.drop (4 + 2 * k)).length ≤ 1000000 := by rw [List.length_drop]; omega
        have HSl2 := Lib.hid hsl2
        have HAl := Lib.hid (fun W => rAll_any W (f : Int))
        have HV2 : Hid (∀ W, Calls Try.prog 48 #[.string ((str s).extract (4 + k) (4 + 2 * k))] W fun x w' => x = .returned (.int .u64 (numG ((s.drop (4 + k)).take k))) ∧ W = w') := Lib.hid (fun W => by
          rw [str_extract, show 4 + 2 * k - (4 + k) = k by omega]
          exact rNum_any W _ (by rw [List.length_take, List.length_drop]; omega))
        have HU2 := Lib.hid (numG_U64 ((s.drop (4 + k)).take k))
        generalize numG ((s.drop (4 + k)).take k) = nm at *
        clear HS2 HST HF1 hodd hcc hln hsl2
        generalize s.drop (4 + 2 * k) = s9 at *
        generalize numG ((s.drop 4).take k) = nv at *
        have tk1 : 4 + (k : Int) ≤ s.length := by omega
        go_wp2_with fail
        refine (HV.out _).mono ?_
        rintro x w4 ⟨rfl, rfl⟩
        go_wp2_with fail
        refine (HAl.out _).mono ?_
        rintro x w4 ⟨rfl, b4⟩
        have S4 := Lib.hid (S3.out.call b4)
        clear b4 S3 HAl HV
        generalize greatF (f : Int) = gm at *
        go_upto_region 20 with fail
        refine one_box_wp ?_
        intro W hb1 hbel hsz
        have S9 := Lib.hid (S4.out.call hbel)
        have hT9 := Lib.hid hb1
        have hBg : B ≤ w4.heap.size := S4.out.2.2
        have hvn : Hid ((Value.slice va acc.length vc).ownBlock ≠ some w4.heap.size) := Lib.hid (fun h => by
          have := (S4.out.1.block _ h).2
          omega)
        generalize w4.heap.size = g2 at *
        clear hb1 hbel hsz S4
        go_wp2_with fail
        refine (HV2.out _).mono ?_
        rintro x w5 ⟨rfl, rfl⟩
        have hfz := hT9.out.frozen 2
        have q2 := hT9.out.cell 2 _ rfl
        go_upto_region 22 with fail
        have S12 := Lib.hid (S9.out.set hT9.out hBg hvn.out 2 (.int .u64 nm))
        have hT12 := Lib.hid (BlkAt.set hT9.out 2 (.int .u64 nm))
        clear hfz q2 S9 hT9 HV2
        generalize hW12 : W.setCell ⟨g2, 2, none⟩ (.int .u64 nm) = w12 at *
        clear hW12
        have hT13 : Hid (BlkAt w12 g2 48 #[.int .i64 f, .int .u64 nv, .int .u64 nm]) := Lib.hid hT12.out
        have k0 := hT13.out.cell 0 _ rfl
        have k1 := hT13.out.cell 1 _ rfl
        have k2 := hT13.out.cell 2 _ rfl
        clear hT12 hT13
        go_wp2_with (at_builtin; go_must (refine app_one S12.out.1 (⟨f, nv, nm⟩ : Test) Try.underlying22 testInfo rfl (by decide) encTest_len encTest_one' rfl rfl rfl rfl ?c1 ?c2 ?c3 ?_))
        case c1 => omega
        case c2 => omega
        case c3 => exact S12.out.2.2
        intro v' w13 hown hgrow _
        have S13 := Lib.hid (S12.out.append hown hgrow)
        clear hown hgrow S12 k0 k1 k2
        go_wp2_with fail
        go_roundg m
        case measure => omega
        case rel => exact ⟨s9, _, by first | rfl | (rw [HXs.out]), Lib.hid S13.out.1, Lib.hid S13.out.2.1, HF2, by simp; omega, HSl2.out, Lib.hid (fun t ht => (List.mem_append.1 ht).elim (fun h => hk.out t h) (fun h => by rw [List.mem_singleton.1 h]; exact ⟨HU1.out, HU2.out⟩))⟩
      · have t2 : ((c : Int) % 2 == 1) = false := by exact beq_eq_false_iff_ne.mpr (by omega)
        have HS2 := HST.out
        simp only [hodd, if_true, if_false] at HS2
        by_cases hf0 : f = 0
        · have hR : Hid (R = ([], 0, 11)) := Lib.hid (by rw [HF1.out, HS2, if_pos (.inl hf0)]; rfl)
          have tf : ((f : Int) == 0) = true := by rw [beq_iff_eq]; omega
          have HS3 := S3
          clear HS2 HST HF1 hf9 hodd S3
          go_wp2_with fail
          go_ret3
          rw [hR.out]
          exact ⟨_, rfl, OwnL.nil _ _ _ _ _, by rw [HBq.out]; exact HS3.out.2.1⟩
        have tf : ((f : Int) == 0) = false := beq_eq_false_iff_ne.mpr (by omega)
        by_cases hcc : c3 = k
        case neg =>
          have hR : Hid (R = ([], 0, 11)) := Lib.hid (by rw [HF1.out, HS2, if_pos (.inr (.inl hcc))]; rfl)
          have tc : ¬ (c3 : Int) = (k : Int) := by omega
          clear HS2 HST HF1 hf9 hodd hcc
          go_wp2_with fail
          go_ret3
          rw [hR.out]
          exact ⟨_, rfl, OwnL.nil _ _ _ _ _, by rw [HBq.out]; exact S3.out.2.1⟩
        have tc : (c3 : Int) = (k : Int) := by omega
        by_cases hln : s.length < 4 + k
        · have hR : Hid (R = ([], 0, 11)) := Lib.hid (by rw [HF1.out, HS2, if_pos (.inr (.inr hln))]; rfl)
          have tl : (s.length : Int) < 4 + (k : Int) := by omega
          clear HS2 HST HF1 hf9 hodd hcc hln
          go_wp2_with fail
          go_ret3
          rw [hR.out]
          exact ⟨_, rfl, OwnL.nil _ _ _ _ _, by rw [HBq.out]; exact S3.out.2.1⟩
        have tl : 4 + (k : Int) ≤ (s.length : Int) := by omega
        have HF2 : Hid (R = refT d en (refF m (s.drop (4 + k)) (acc ++ [⟨f, numG ((s.drop 4).take k), greatF (f : Int)⟩]))) := Lib.hid (by
          rw [HF1.out, HS2, if_neg (by omega)])
        have HV : Hid (∀ W, Calls Try.prog 48 #[.string ((str s).extract 4 (4 + k))] W fun x w' => x = .returned (.int .u64 (numG ((s.drop 4).take k))) ∧ W = w') := Lib.hid (fun W => by
          rw [str_extract, Nat.add_sub_cancel_left]
          exact rNum_any W _ (by rw [List.length_take, List.length_drop]; omega))
        have HXs : Hid ((str s).extract (4 + k) s.length = str (s.drop (4 + k))) := Lib.hid (by
          rw [str_extract, List.take_of_length_le (by rw [List.length_drop]; omega)])
        have HU1 := Lib.hid (numG_U64 ((s.drop 4).take k))
        have HUg := Lib.hid (greatF_U64 (f : Int))
        have hsl2 : (s.drop (4 + k)).length ≤ 1000000 := by rw [List.length_drop]; omega
        have HSl2 := Lib.hid hsl2
        have HAl := Lib.hid (fun W => rAll_any W (f : Int))
        clear HS2 HST HF1 hodd hcc hln hsl2
        generalize s.drop (4 + k) = s9 at *
        generalize numG ((s.drop 4).take k) = nv at *
        have tk1 : 4 + (k : Int) ≤ s.length := by omega
        go_wp2_with fail
        refine (HV.out _).mono ?_
        rintro x w4 ⟨rfl, rfl⟩
        go_wp2_with fail
        refine (HAl.out _).mono ?_
        rintro x w4 ⟨rfl, b4⟩
        have S4 := Lib.hid (S3.out.call b4)
        clear b4 S3 HAl HV
        generalize greatF (f : Int) = gm at *
        go_upto_region 20 with fail
        refine one_box_wp ?_
        intro W hb1 hbel hsz
        have S9 := Lib.hid (S4.out.call hbel)
        have hT9 := Lib.hid hb1
        have hBg : B ≤ w4.heap.size := S4.out.2.2
        have hvn : Hid ((Value.slice va acc.length vc).ownBlock ≠ some w4.heap.size) := Lib.hid (fun h => by
          have := (S4.out.1.block _ h).2
          omega)
        generalize w4.heap.size = g2 at *
        clear hb1 hbel hsz S4
        have k0 := hT9.out.cell 0 _ rfl
        have k1 := hT9.out.cell 1 _ rfl
        have k2 := hT9.out.cell 2 _ rfl
        clear hT9
        go_wp2_with (at_builtin; go_must (refine app_one S9.out.1 (⟨f, nv, gm⟩ : Test) Try.underlying22 testInfo rfl (by decide) encTest_len encTest_one' rfl rfl rfl rfl ?c1 ?c2 ?c3 ?_))
        case c1 => omega
        case c2 => omega
        case c3 => exact S9.out.2.2
        intro v' w13 hown hgrow _
        have S13 := Lib.hid (S9.out.append hown hgrow)
        clear hown hgrow S9 k0 k1 k2
        go_wp2_with fail
        go_roundg m
        case measure => omega
        case rel => exact ⟨s9, _, by first | rfl | (rw [HXs.out]), Lib.hid S13.out.1, Lib.hid S13.out.2.1, HF2, by simp; omega, HSl2.out, Lib.hid (fun t ht => (List.mem_append.1 ht).elim (fun h => hk.out t h) (fun h => by rw [List.mem_singleton.1 h]; exact ⟨HU1.out, HUg.out⟩))⟩
    · have hok : Hid (∀ t ∈ acc, okT t) := Lib.hid hk.out
      have HX : Hid (R = refT d en (some acc)) := Lib.hid (by
        rw [hF.out]
        cases gk with
        | zero => rfl
        | succ m =>
          unfold refF
          rw [if_neg (by omega)])
      clear hF
      have hd : (∃ x : Unit, decide ((4 : Int) ≤ s.length) = false) ∨ (∃ x : Unit, decide ((4 : Int) ≤ s.length) = true ∧ decide ((acc.length : Int) < 10) = false) := by
        by_cases h : 4 ≤ s.length
        · exact .inr ⟨(), by simp; omega, by simp; omega⟩
        · exact .inl ⟨(), by simp; omega⟩
      rcases hd with ⟨_, d1⟩ | ⟨_, d1, d4⟩
      all_goals
        go_wp2_with fail
        have HRi := Lib.hid (fun W (hW : Below wr.heap.size wr W) => rRight_any W _ acc (ReadL.of_own (hO.out.belowAll hW) encTest_len) hok.out)
        have hK := Lib.hid (KR.start (Below.refl wr.heap.size wr) (Nat.le_refl _))
        haveI : Nonempty (Keep (KR wr.heap.size wr [])) := ⟨⟨_, hK.out⟩⟩
        by_cases hr : rightF acc = 0
        · have HBy := Lib.hid (fun W (hW : Below wr.heap.size wr W) => rBytes_any W _ acc (ReadL.of_own (hO.out.belowAll hW) encTest_len) (right_fit hok.out hr).1 (right_fit hok.out hr).2)
          rw [hr] at HRi
          have HX2 : Hid (R = if str (encB acc) = (str d).extract 0 en then (acc, (en : Int), 0) else ([], 0, 11)) := Lib.hid (by
            rw [HX.out]; unfold refT; simp only; rw [if_neg (by simp [hr])])
          clear HX hr hok
          generalize str (encB acc) = Y at *
          generalize hX2 : (str d).extract 0 en = X2 at *
          by_cases hq : Y = X2
          · subst hq
            have hR : Hid (R = (acc, (en : Int), 0)) := Lib.hid (by rw [HX2.out, if_pos rfl])
            clear HX2
            refine wp_region_keep2 (Cl := KR wr.heap.size wr []) (by kernel_rfl) (by kernel_rfl) hK.out.drew ?_
            intro y' hy
            have g3 := fun tmps => hy tmps 3 104 rfl
            have gb := yl_bool
            clear hy hK
            repeat (refine wpQ2_step (fun K hK => ?_)
                    go_simp
                    first
                      | (refine hK _ ?_; clear hK K)
                      | (apply Exists.intro
                         refine ⟨fun _ => ?_, hK _ ?_⟩
                         (first
                           | (exact Calls.keep (HRi.out _ (KR.below (Keep.h _))) (fun w' hb => KR.call (Keep.h _) hb))
                           | (exact Calls.keep (HBy.out _ (KR.below (Keep.h _))) (fun w' hb => KR.call (Keep.h _) hb)))
                         clear hK K))
            refine wpQ2_nil ?_
            intro w9 K9
            have HB9 := Lib.hid (hB.out.trans (K9.below.mono (HBS.out _ hB.out)))
            have HO9 := Lib.hid (hO.out.belowAll K9.below)
            clear K9 g3 gb HRi HBy hO hB
            go_wp2_with fail
            go_ret3
            rw [hR.out]
            exact ⟨_, rfl, by rw [HBq.out]; exact HO9.out, by rw [HBq.out]; exact HB9.out⟩
          have t1 : (Y.toList == X2.toList) = false := list_ne hq
          have hR : Hid (R = ([], 0, 11)) := Lib.hid (by rw [HX2.out, if_neg hq])
          clear HX2
          refine wp_region_keep2 (Cl := KR wr.heap.size wr []) (by kernel_rfl) (by kernel_rfl) hK.out.drew ?_
          intro y' hy
          have g3 := fun tmps => hy tmps 3 104 rfl
          have gb := yl_bool
          clear hy hK
          repeat (refine wpQ2_step (fun K hK => ?_)
                  go_simp
                  first
                    | (refine hK _ ?_; clear hK K)
                    | (apply Exists.intro
                       refine ⟨fun _ => ?_, hK _ ?_⟩
                       (first
                         | (exact Calls.keep (HRi.out _ (KR.below (Keep.h _))) (fun w' hb => KR.call (Keep.h _) hb))
                         | (exact Calls.keep (HBy.out _ (KR.below (Keep.h _))) (fun w' hb => KR.call (Keep.h _) hb)))
                       clear hK K))
          refine wpQ2_nil ?_
          intro w9 K9
          have HB9 := Lib.hid (hB.out.trans (K9.below.mono (HBS.out _ hB.out)))
          have HO9 := Lib.hid (hO.out.belowAll K9.below)
          clear K9 g3 gb HRi HBy hO hB
          go_wp2_with fail
          go_ret3
          rw [hR.out]
          exact ⟨_, rfl, OwnL.nil _ _ _ _ _, by rw [HBq.out]; exact HB9.out⟩
        have tn : (rightF acc != 0) = true := by simp [hr]
        have hR : Hid (R = ([], 0, 11)) := Lib.hid (by rw [HX.out]; unfold refT; simp only; rw [if_pos hr])
        clear HX hr hok hO
        generalize rightF acc = r at *
        refine wp_region_keep2 (Cl := KR wr.heap.size wr []) (by kernel_rfl) (by kernel_rfl) hK.out.drew ?_
        intro y' hy
        have g3 := fun tmps => hy tmps 3 104 rfl
        have gb := yl_bool
        clear hy hK
        repeat (refine wpQ2_step (fun K hK => ?_)
                go_simp
                first
                  | (refine hK _ ?_; clear hK K)
                  | (apply Exists.intro
                     refine ⟨fun _ => ?_, hK _ ?_⟩
                     (exact Calls.keep (HRi.out _ (KR.below (Keep.h _))) (fun w' hb => KR.call (Keep.h _) hb))
                     clear hK K))
        refine wpQ2_nil ?_
        intro w9 K9
        have HB9 := Lib.hid (hB.out.trans (K9.below.mono (HBS.out _ hB.out)))
        clear K9 g3 gb HRi hB
        go_wp2_with fail
        go_ret3
        rw [hR.out]
        exact ⟨_, rfl, OwnL.nil _ _ _ _ _, by rw [HBq.out]; exact HB9.out⟩
end Go.Proofs.Ytaaadbmhcfjooaa
