/- The reference of topologies: New (printed by gen/topon.py). -/
import Derived.Test.YtggcmhjeflofmaaTopoM
namespace Go.Proofs.Ytggcmhjeflofmaa
open Go.RowKit Go.Maps
set_option linter.unusedVariables false
set_option linter.unusedSimpArgs false

/-- The reference's topology in memory. -/
def RefW (w : World) (rb : Nat) (lv : Value) (n : Int) (l : List Link) : Prop := BlkAt w rb 48 #[.int .i64 n, lv] ∧ ReadL w 5 encLink lv l
theorem RefW.below {w w' : World} {rb : Nat} {lv : Value} {n : Int} {l : List Link} (h : RefW w rb lv n l) {C : Nat} (hb : Below C w w') (hC : w.heap.size ≤ C) : RefW w' rb lv n l :=
  ⟨h.1.below hb (Nat.lt_of_lt_of_le h.1.lt hC), h.2.below hb hC⟩
def RNewPost (w : World) (o : Bool) (n : Int) (l : List Link) (e : Ending) (w' : World) : Prop := Below w.heap.size w w' ∧ ((o = false ∧ e = .returned (.tuple #[.pointer none, .int .i64 42])) ∨ (o = true ∧ ∃ rb lv, e = .returned (.tuple #[ptr rb, .int .i64 0]) ∧ RefW w' rb lv n l))
theorem flat_len : ∀ (l : List Link), (l.flatMap encLink).length = l.length * 5
  | [] => rfl
  | x :: l => by rw [List.flatMap_cons, List.length_append, flat_len l, encLink_len, List.length_cons]; omega
theorem rAll_step (size : Int) (l : List Link) (i : Nat) (h : i < l.length) : rAll size (l.take i) (l.drop i) = (rightL l[i] size && (!(l.take i).any (clashL l[i]) && rAll size (l.take (i + 1)) (l.drop (i + 1)))) := by
  rw [List.drop_eq_getElem_cons h]
  simp only [rAll]
  rw [List.take_succ_eq_append_getElem h]
theorem any_take_step {f : Link → Bool} (l : List Link) (k : Nat) (h : k < l.length) (h0 : (l.take k).any f = false) : (l.take (k + 1)).any f = f l[k] := by
  rw [List.take_succ_eq_append_getElem h, List.any_append, h0]
  simp
theorem any_take_true {f : Link → Bool} (l : List Link) (k i : Nat) (h : k < i) (hi : i ≤ l.length) (hf : f (l[k]'(by omega)) = true) : (l.take i).any f = true := by
  rw [List.any_eq_true]
  exact ⟨l[k]'(by omega), by rw [List.mem_take_iff_getElem]; exact ⟨k, by omega, rfl⟩, hf⟩

set_option maxRecDepth 100000 in
set_option maxHeartbeats 16000000 in
theorem rNew_any (w : World) (size : Int) (v : Value) (l : List Link) (h : ReadL w 5 encLink v l) :
    Calls Try.prog 12 #[.int .i64 size, v] w (RNewPost w (rNewF size l) size l) := by
  have HR : Hid (rNewF size l = (!badNew size l.length && rAll size [] l)) := Lib.hid rfl
  generalize rNewF size l = R at *
  have HV := Lib.hid h
  obtain ⟨a, cap, rfl, hcap, hmax⟩ := h.slice
  unfold maxLen at hmax
  clear h
  have K0 : Hid (Below w.heap.size w w) := Lib.hid (Below.refl _ _)
  have HBd : Hid (badNew size l.length = (!inF size 1 32 || decide ((64 : Int) < l.length))) := Lib.hid (by
    unfold badNew inF
    rw [Bool.eq_iff_iff]
    simp
    omega)
  go_enter Try.func12, Try.ntmps12
  go_wp2_with fail
  refine (in_any w size 1 32).mono ?_
  rintro e w' ⟨rfl, hw⟩
  subst hw
  cases h1 : inF size 1 32
  · have HRn : Hid (R = false) := Lib.hid (by rw [HR.out, HBd.out, h1]; rfl)
    clear h1 HR HBd
    go_wp2_with fail
    go_ret2
    exact ⟨K0.out, .inl ⟨HRn.out, rfl⟩⟩
  by_cases h2 : (64 : Int) < l.length
  · have t2 : decide ((64 : Int) < (l.length : Int)) = true := decide_eq_true h2
    have HRn : Hid (R = false) := Lib.hid (by rw [HR.out, HBd.out, t2]; simp)
    clear h1 HR HBd
    go_wp2_with fail
    go_ret2
    exact ⟨K0.out, .inl ⟨HRn.out, rfl⟩⟩
  have t2 : decide ((64 : Int) < (l.length : Int)) = false := decide_eq_false h2
  have HR2 : Hid (R = rAll size (l.take 0) (l.drop 0)) := Lib.hid (by rw [HR.out, HBd.out, h1, t2]; simp)
  have HSz : Hid (1 ≤ size ∧ size ≤ 32) := Lib.hid (by unfold inF at h1; simpa using h1)
  clear h1 HR HBd
  go_wp2_with fail
  clear t2
  go_loopw [6] (fun iv wr => ∃ i : Nat, i ≤ l.length ∧ iv = .int .i64 i ∧ Hid (R = rAll size (l.take i) (l.drop i)) ∧ Hid (Below w.heap.size w wr)) (fun iv _ => l.length - (intOf iv).toNat)
  case atStart => exact ⟨0, Nat.zero_le _, rfl, HR2, K0⟩
  case round =>
    obtain ⟨i, hi, rfl, HRi, HB⟩ := hrel
    clear HR2 K0
    by_cases hlt : i < l.length
    · have d2 : decide (i < l.length) = true := by simpa using hlt
      obtain ⟨a0, cap0, hv0, hc1, hc2, hc3⟩ := HV.out
      obtain ⟨rfl, rfl⟩ : a = a0 ∧ cap = cap0 := by simpa using hv0
      rcases hc3 with hnil | ⟨b, off, rfl, hblt, hcell⟩
      · rw [hnil] at hlt; simp at hlt
      have HCell := Lib.hid hcell
      have r1 := range_of hcell HB.out hblt i hlt
      have HRx : Hid (R = (rightL l[i] size && (!(l.take i).any (clashL l[i]) && rAll size (l.take (i + 1)) (l.drop (i + 1))))) := Lib.hid (by rw [HRi.out, rAll_step size l i hlt])
      have HCl : Hid (∀ k (hk : k < i), clashL l[i] (l[k]'(by omega)) = true → R = false) := Lib.hid (fun k hk hc => by
        rw [HRx.out, any_take_true l k i hk (by omega) hc]; simp)
      have HOkR : Hid (rightL l[i] size = true → (l.take i).any (clashL l[i]) = false → R = rAll size (l.take (i + 1)) (l.drop (i + 1))) := Lib.hid (fun h1 h2 => by rw [HRx.out, h1, h2]; rfl)
      have HBad : Hid (rightR l[i] size = false → R = false) := Lib.hid (fun h => by rw [HRx.out, rightR_eq, h]; rfl)
      have HGood : Hid (rightR l[i] size = true → rightL l[i] size = true) := Lib.hid (fun h => by rw [rightR_eq, h])
      clear hcell HRi HRx hv0 hc1 hc2
      generalize l[i] = x at *
      have K : Hid (KR w.heap.size w [] wr) := Lib.hid (KR.start HB.out HB.out.size)
      have HRR : Hid (rightR x size = _) := Lib.hid (by unfold rightR; rfl)
      generalize rightR x size = RR at *
      obtain ⟨x1, x2, x3, x4, x5⟩ := x
      simp only [encLink] at r1
      simp only at HRR
      go_wp2_with (first
        | (refine wpList_load_mid rfl 52 _ rfl _ _ rfl _ _ r1 Try.underlying52 rfl (by kernel_rfl) ?_)
        | (refine wpList_store_row rfl 52 _ _ rfl _ rfl #[.int .i64 x1, .int .i64 x2, .int .i64 x3, .int .i64 x4, .float .f64 x5] rfl _ _ ((K.out.box _ _).at 0 rfl) rfl (by kernel_rfl) (by simp [Value.oneCell']) ?_)
        | fail)
      intro Wi hbi hbari
      replace K := Lib.hid (K.out.into hbari hbi)
      clear hbi hbari r1 HB
      generalize wr.heap.size = g1 at *
      have c0 := (K.out.at 0 rfl).cell 0 _ rfl
      have c1 := (K.out.at 0 rfl).cell 1 _ rfl
      have c2 := (K.out.at 0 rfl).cell 2 _ rfl
      have c3 := (K.out.at 0 rfl).cell 3 _ rfl
      have c4 := (K.out.at 0 rfl).cell 4 _ rfl
      go_wp2_with fail
      refine (in_any _ x1 1 size).mono ?_
      rintro e w' ⟨rfl, hw⟩
      subst hw
      cases h1 : inF x1 1 size
      · have HRn : Hid (R = false) := Lib.hid (HBad.out (by rw [HRR.out, h1]; simp))
        clear HRR HBad HGood HOkR HCl
        go_wp2_with fail
        go_ret2
        exact ⟨K.out.below, .inl ⟨HRn.out, rfl⟩⟩
      go_wp2_with fail
      refine (in_any _ x2 1 16).mono ?_
      rintro e w' ⟨rfl, hw⟩
      subst hw
      cases h2 : inF x2 1 16
      · have HRn : Hid (R = false) := Lib.hid (HBad.out (by rw [HRR.out, h1, h2]; simp))
        clear HRR HBad HGood HOkR HCl
        go_wp2_with fail
        go_ret2
        exact ⟨K.out.below, .inl ⟨HRn.out, rfl⟩⟩
      cases h3 : (x3 == x1)
      case true =>
        have HRn : Hid (R = false) := Lib.hid (HBad.out (by rw [HRR.out, h1, h2, h3]; simp))
        clear HRR HBad HGood HOkR HCl
        go_wp2_with fail
        go_ret2
        exact ⟨K.out.below, .inl ⟨HRn.out, rfl⟩⟩
      cases h4 : (x3 == 0)
      case true =>
        have HRn : Hid (R = false) := Lib.hid (HBad.out (by rw [HRR.out, h1, h2, h3, h4]; simp))
        clear HRR HBad HGood HOkR HCl
        go_wp2_with fail
        go_ret2
        exact ⟨K.out.below, .inl ⟨HRn.out, rfl⟩⟩
      go_wp2_with fail
      refine (in_any _ x3 (-64) size).mono ?_
      rintro e w' ⟨rfl, hw⟩
      subst hw
      cases h5 : inF x3 (-64) size
      · have HRn : Hid (R = false) := Lib.hid (HBad.out (by rw [HRR.out, h1, h2, h3, h4, h5]; simp))
        clear HRR HBad HGood HOkR HCl
        go_wp2_with fail
        go_ret2
        exact ⟨K.out.below, .inl ⟨HRn.out, rfl⟩⟩
      go_upto_region 9 with fail
      go_cut [87] from 58 to 132 (fun p87 wx => p87 = .bool (!((!(decide (0 < x3) && !inF x4 1 16)) && ((!(decide (x3 < 0) && (x4 != 0))) && costOk x5))) ∧ Hid (KR w.heap.size w [(g1, 52, #[.int .i64 x1, .int .i64 x2, .int .i64 x3, .int .i64 x4, .float .f64 x5])] wx))
      case first =>
        clear HRR HBad HGood HOkR HCl
        by_cases hp : 0 < x3
        · have tp : decide (0 < x3) = true := decide_eq_true hp
          have tn : decide (x3 < 0) = false := decide_eq_false (by omega)
          clear hp
          go_wp2_with fail
          refine (in_any _ x4 1 16).mono ?_
          rintro e w' ⟨rfl, hw⟩
          subst hw
          cases h6 : inF x4 1 16
          · go_wp2_with fail
            go_meet
            case rel => exact ⟨by simp [tp, h6], K⟩
          · by_cases hG : FloatKind.f64.format.order x5 0 = some .gt ∨ FloatKind.f64.format.order x5 0 = some .eq
            · by_cases hL : FloatKind.f64.format.order x5 4741671816366391296 = some .lt ∨ FloatKind.f64.format.order x5 4741671816366391296 = some .eq
              · rcases hG with hG | hG
                all_goals
                  rcases hL with hL | hL
                  all_goals
                    go_wp2_with fail
                    go_meet
                    case rel => exact ⟨by simp [tp, tn, h6, costOk, geF, leF, ordF, hG, hL], K⟩
              · simp only [not_or] at hL
                have g1 : (FloatKind.f64.format.order x5 4741671816366391296 == some Ordering.lt) = false := by simpa using hL.1
                have g2 : (FloatKind.f64.format.order x5 4741671816366391296 == some Ordering.eq) = false := by simpa using hL.2
                clear hL
                rcases hG with hG | hG
                all_goals
                  go_wp2_with fail
                  go_meet
                  case rel => exact ⟨by simp [tp, tn, h6, costOk, geF, leF, ordF, hG, g1, g2], K⟩
            · simp only [not_or] at hG
              have g1 : (FloatKind.f64.format.order x5 0 == some Ordering.gt) = false := by simpa using hG.1
              have g2 : (FloatKind.f64.format.order x5 0 == some Ordering.eq) = false := by simpa using hG.2
              clear hG
              go_wp2_with fail
              go_meet
              case rel => exact ⟨by simp [tp, tn, h6, costOk, geF, ordF, g1, g2], K⟩
        · have tp : decide (0 < x3) = false := decide_eq_false hp
          have hz : x3 ≠ 0 := by simpa using h4
          have tn : decide (x3 < 0) = true := decide_eq_true (by omega)
          clear hp hz
          cases h6 : (x4 != 0)
          · by_cases hG : FloatKind.f64.format.order x5 0 = some .gt ∨ FloatKind.f64.format.order x5 0 = some .eq
            · by_cases hL : FloatKind.f64.format.order x5 4741671816366391296 = some .lt ∨ FloatKind.f64.format.order x5 4741671816366391296 = some .eq
              · rcases hG with hG | hG
                all_goals
                  rcases hL with hL | hL
                  all_goals
                    go_wp2_with fail
                    go_meet
                    case rel => exact ⟨by simp [tp, tn, h6, costOk, geF, leF, ordF, hG, hL], K⟩
              · simp only [not_or] at hL
                have g1 : (FloatKind.f64.format.order x5 4741671816366391296 == some Ordering.lt) = false := by simpa using hL.1
                have g2 : (FloatKind.f64.format.order x5 4741671816366391296 == some Ordering.eq) = false := by simpa using hL.2
                clear hL
                rcases hG with hG | hG
                all_goals
                  go_wp2_with fail
                  go_meet
                  case rel => exact ⟨by simp [tp, tn, h6, costOk, geF, leF, ordF, hG, g1, g2], K⟩
            · simp only [not_or] at hG
              have g1 : (FloatKind.f64.format.order x5 0 == some Ordering.gt) = false := by simpa using hG.1
              have g2 : (FloatKind.f64.format.order x5 0 == some Ordering.eq) = false := by simpa using hG.2
              clear hG
              go_wp2_with fail
              go_meet
              case rel => exact ⟨by simp [tp, tn, h6, costOk, geF, ordF, g1, g2], K⟩
          · go_wp2_with fail
            go_meet
            case rel => exact ⟨by simp [tp, tn, h6], K⟩
      case rest =>
        obtain ⟨rfl, K2⟩ := hcut
        clear K c0 c1 c2 c3 c4
        have K := K2
        clear K2
        have HRR2 : Hid (RR = ((!(decide (0 < x3) && !inF x4 1 16)) && ((!(decide (x3 < 0) && (x4 != 0))) && costOk x5))) := Lib.hid (by rw [HRR.out, h1, h2, h3, h4, h5]; rfl)
        clear HRR h1 h2 h3 h5
        generalize ((!(decide (0 < x3) && !inF x4 1 16)) && ((!(decide (x3 < 0) && (x4 != 0))) && costOk x5)) = F at *
        obtain ⟨G, hG⟩ : ∃ G, G = !F := ⟨_, rfl⟩
        rw [← hG]
        cases F
        · obtain rfl : G = true := by rw [hG]; rfl
          clear hG
          have HRn : Hid (R = false) := Lib.hid (HBad.out HRR2.out)
          clear HRR2 HBad HGood HOkR HCl h4
          go_wp2_with fail
          go_ret2
          exact ⟨K.out.below, .inl ⟨HRn.out, rfl⟩⟩
        obtain rfl : G = false := by rw [hG]; rfl
        clear hG
        have HOk2 := Lib.hid (HOkR.out (HGood.out HRR2.out))
        have hz : x3 ≠ 0 := by simpa using h4
        have HZ := Lib.hid hz
        have HLi := Lib.hid hlt
        clear HRR2 HBad HGood HOkR h4 hz
        go_wp2_with fail
        go_loopw [8] (fun kv wr => ∃ k : Nat, k ≤ i ∧ kv = .int .i64 k ∧ Hid ((l.take k).any (clashL ⟨x1, x2, x3, x4, x5⟩) = false) ∧ Hid (KR w.heap.size w [(g1, 52, #[.int .i64 x1, .int .i64 x2, .int .i64 x3, .int .i64 x4, .float .f64 x5])] wr)) (fun kv _ => i - (intOf kv).toNat)
        case atStart => exact ⟨0, Nat.zero_le _, rfl, Lib.hid rfl, K⟩
        case round =>
          obtain ⟨k, hk, rfl, HAny, K2⟩ := hrel
          clear K
          have K := K2
          clear K2
          by_cases hki : k < i
          · have d3 : decide (k < i) = true := by simpa using hki
            have hkl : k < l.length := by omega
            have HCk := Lib.hid (HCl.out k hki)
            have HSt := Lib.hid (any_take_step (f := clashL ⟨x1, x2, x3, x4, x5⟩) l k hkl HAny.out)
            have R1 : Hid (∀ W : World, KR w.heap.size w [(g1, 52, #[.int .i64 x1, .int .i64 x2, .int .i64 x3, .int .i64 x4, .float .f64 x5])] W → W.rangeAt b (off + k * 5) (encLink l[k])) := Lib.hid (fun W h => range_of HCell.out h.below hblt k hkl)
            generalize l[k] = y at *
            have HU1 : Hid (∀ W : World, _) := Lib.hid (fun W => uses_any W y x1 x2)
            have HU2 : Hid (∀ W : World, _) := Lib.hid (fun W => uses_any W y x3 x4)
            have HClu : Hid (clashL ⟨x1, x2, x3, x4, x5⟩ y = ((usesL y x1 x2 || (decide (0 < x3) && usesL y x3 x4)) || (decide (x3 < 0) && decide (y.fB = x3)))) := Lib.hid rfl
            generalize clashL ⟨x1, x2, x3, x4, x5⟩ y = CL at *
            generalize usesL y x1 x2 = u1 at *
            generalize usesL y x3 x4 = u2 at *
            obtain ⟨y1, y2, y3, y4, y5⟩ := y
            simp only [encLink] at R1
            simp only at HU1 HU2 HClu
            have kcb := fun q : Keep (KR w.heap.size w [(g1, 52, #[.int .i64 x1, .int .i64 x2, .int .i64 x3, .int .i64 x4, .float .f64 x5])]) => (R1.out q.w q.h) 2 (.int .i64 y3) rfl
            cases u1
            case true =>
              have HRn : Hid (R = false) := Lib.hid (HCk.out (by rw [HClu.out]; rfl))
              clear HSt HOk2 HCl HCk HClu HU2 kcb
              haveI : Nonempty (Keep (KR w.heap.size w [(g1, 52, #[.int .i64 x1, .int .i64 x2, .int .i64 x3, .int .i64 x4, .float .f64 x5])])) := ⟨⟨_, K.out⟩⟩
              have kc0 := fun q : Keep (KR w.heap.size w [(g1, 52, #[.int .i64 x1, .int .i64 x2, .int .i64 x3, .int .i64 x4, .float .f64 x5])]) => (KR.at q.h 0 rfl).cell 0 _ rfl
              have kc1 := fun q : Keep (KR w.heap.size w [(g1, 52, #[.int .i64 x1, .int .i64 x2, .int .i64 x3, .int .i64 x4, .float .f64 x5])]) => (KR.at q.h 0 rfl).cell 1 _ rfl
              have kc2 := fun q : Keep (KR w.heap.size w [(g1, 52, #[.int .i64 x1, .int .i64 x2, .int .i64 x3, .int .i64 x4, .float .f64 x5])]) => (KR.at q.h 0 rfl).cell 2 _ rfl
              have kc3 := fun q : Keep (KR w.heap.size w [(g1, 52, #[.int .i64 x1, .int .i64 x2, .int .i64 x3, .int .i64 x4, .float .f64 x5])]) => (KR.at q.h 0 rfl).cell 3 _ rfl
              go_upto_region 14 with fail
              refine wp_region_keep2 (Cl := KR w.heap.size w [(g1, 52, #[.int .i64 x1, .int .i64 x2, .int .i64 x3, .int .i64 x4, .float .f64 x5])]) (by kernel_rfl) (by kernel_rfl) K.out.drew ?_
              intro y' hy'
              have g9_ := fun tmps => hy' tmps 9 102 rfl
              have g13_ := fun tmps => hy' tmps 13 106 rfl
              have g25_ := fun tmps => hy' tmps 25 118 rfl
              have g29_ := fun tmps => hy' tmps 29 122 rfl
              have gb_ := yl_bool
              clear hy' K
              repeat
                first
                  | (refine wpQ2_rowk _ _ rfl _ (fun W h => run_loadVar_mid W _ _ 52 _ _ (R1.out W h) Try.underlying52 rfl (by kernel_rfl)) ?_ ?_
                     · (go_simp; done))
                  | (refine wpQ2_step (fun K hK => ?_)
                     go_simp
                     first
                       | (refine hK _ ?_; clear hK K)
                       | (apply Exists.intro
                          refine ⟨fun _ => ?_, hK _ ?_⟩
                          (rw [if_neg (by omega)]; exact ⟨rfl, rfl⟩)
                          clear hK K)
                       | (apply Exists.intro
                          refine ⟨fun _ => ?_, hK _ ?_⟩
                          ((with_reducible refine Calls.keep (HU1.out _) ?_); exact (fun w' hb => KR.call (Keep.h _) hb))
                          clear hK K))
              refine wpQ2_nil ?_
              clear kc0 kc1 kc2 kc3
              intro Wk Kk
              have K := Lib.hid Kk
              clear Kk
              clear gb_ g9_ g13_ g25_ g29_
              go_wp2_with fail
              go_ret2
              exact ⟨K.out.below, .inl ⟨HRn.out, rfl⟩⟩
            by_cases hp : 0 < x3
            · have tp : decide (0 < x3) = true := decide_eq_true hp
              have tn : decide (x3 < 0) = false := decide_eq_false (by omega)
              cases u2
              case true =>
                have HRn : Hid (R = false) := Lib.hid (HCk.out (by rw [HClu.out, tp]; rfl))
                clear HSt HOk2 HCl HCk HClu kcb hp
                haveI : Nonempty (Keep (KR w.heap.size w [(g1, 52, #[.int .i64 x1, .int .i64 x2, .int .i64 x3, .int .i64 x4, .float .f64 x5])])) := ⟨⟨_, K.out⟩⟩
                have kc0 := fun q : Keep (KR w.heap.size w [(g1, 52, #[.int .i64 x1, .int .i64 x2, .int .i64 x3, .int .i64 x4, .float .f64 x5])]) => (KR.at q.h 0 rfl).cell 0 _ rfl
                have kc1 := fun q : Keep (KR w.heap.size w [(g1, 52, #[.int .i64 x1, .int .i64 x2, .int .i64 x3, .int .i64 x4, .float .f64 x5])]) => (KR.at q.h 0 rfl).cell 1 _ rfl
                have kc2 := fun q : Keep (KR w.heap.size w [(g1, 52, #[.int .i64 x1, .int .i64 x2, .int .i64 x3, .int .i64 x4, .float .f64 x5])]) => (KR.at q.h 0 rfl).cell 2 _ rfl
                have kc3 := fun q : Keep (KR w.heap.size w [(g1, 52, #[.int .i64 x1, .int .i64 x2, .int .i64 x3, .int .i64 x4, .float .f64 x5])]) => (KR.at q.h 0 rfl).cell 3 _ rfl
                go_upto_region 14 with fail
                refine wp_region_keep2 (Cl := KR w.heap.size w [(g1, 52, #[.int .i64 x1, .int .i64 x2, .int .i64 x3, .int .i64 x4, .float .f64 x5])]) (by kernel_rfl) (by kernel_rfl) K.out.drew ?_
                intro y' hy'
                have g9_ := fun tmps => hy' tmps 9 102 rfl
                have g13_ := fun tmps => hy' tmps 13 106 rfl
                have g25_ := fun tmps => hy' tmps 25 118 rfl
                have g29_ := fun tmps => hy' tmps 29 122 rfl
                have gb_ := yl_bool
                clear hy' K
                repeat
                  first
                    | (refine wpQ2_rowk _ _ rfl _ (fun W h => run_loadVar_mid W _ _ 52 _ _ (R1.out W h) Try.underlying52 rfl (by kernel_rfl)) ?_ ?_
                       · (go_simp; done))
                    | (refine wpQ2_step (fun K hK => ?_)
                       go_simp
                       first
                         | (refine hK _ ?_; clear hK K)
                         | (apply Exists.intro
                            refine ⟨fun _ => ?_, hK _ ?_⟩
                            (rw [if_neg (by omega)]; exact ⟨rfl, rfl⟩)
                            clear hK K)
                         | (apply Exists.intro
                            refine ⟨fun _ => ?_, hK _ ?_⟩
                            ((with_reducible refine Calls.keep (HU1.out _) ?_); exact (fun w' hb => KR.call (Keep.h _) hb))
                            clear hK K)
                         | (apply Exists.intro
                            refine ⟨fun _ => ?_, hK _ ?_⟩
                            ((with_reducible refine Calls.keep (HU2.out _) ?_); exact (fun w' hb => KR.call (Keep.h _) hb))
                            clear hK K))
                refine wpQ2_nil ?_
                clear kc0 kc1 kc2 kc3
                intro Wk Kk
                have K := Lib.hid Kk
                clear Kk
                clear gb_ g9_ g13_ g25_ g29_
                go_wp2_with fail
                go_ret2
                exact ⟨K.out.below, .inl ⟨HRn.out, rfl⟩⟩
              case false =>
                have HA2 : Hid ((l.take (k + 1)).any (clashL ⟨x1, x2, x3, x4, x5⟩) = false) := Lib.hid (by rw [HSt.out, HClu.out, tp, tn]; rfl)
                clear HSt HCk HClu kcb hp
                haveI : Nonempty (Keep (KR w.heap.size w [(g1, 52, #[.int .i64 x1, .int .i64 x2, .int .i64 x3, .int .i64 x4, .float .f64 x5])])) := ⟨⟨_, K.out⟩⟩
                have kc0 := fun q : Keep (KR w.heap.size w [(g1, 52, #[.int .i64 x1, .int .i64 x2, .int .i64 x3, .int .i64 x4, .float .f64 x5])]) => (KR.at q.h 0 rfl).cell 0 _ rfl
                have kc1 := fun q : Keep (KR w.heap.size w [(g1, 52, #[.int .i64 x1, .int .i64 x2, .int .i64 x3, .int .i64 x4, .float .f64 x5])]) => (KR.at q.h 0 rfl).cell 1 _ rfl
                have kc2 := fun q : Keep (KR w.heap.size w [(g1, 52, #[.int .i64 x1, .int .i64 x2, .int .i64 x3, .int .i64 x4, .float .f64 x5])]) => (KR.at q.h 0 rfl).cell 2 _ rfl
                have kc3 := fun q : Keep (KR w.heap.size w [(g1, 52, #[.int .i64 x1, .int .i64 x2, .int .i64 x3, .int .i64 x4, .float .f64 x5])]) => (KR.at q.h 0 rfl).cell 3 _ rfl
                go_upto_region 14 with fail
                refine wp_region_keep2 (Cl := KR w.heap.size w [(g1, 52, #[.int .i64 x1, .int .i64 x2, .int .i64 x3, .int .i64 x4, .float .f64 x5])]) (by kernel_rfl) (by kernel_rfl) K.out.drew ?_
                intro y' hy'
                have g9_ := fun tmps => hy' tmps 9 102 rfl
                have g13_ := fun tmps => hy' tmps 13 106 rfl
                have g25_ := fun tmps => hy' tmps 25 118 rfl
                have g29_ := fun tmps => hy' tmps 29 122 rfl
                have gb_ := yl_bool
                clear hy' K
                repeat
                  first
                    | (refine wpQ2_rowk _ _ rfl _ (fun W h => run_loadVar_mid W _ _ 52 _ _ (R1.out W h) Try.underlying52 rfl (by kernel_rfl)) ?_ ?_
                       · (go_simp; done))
                    | (refine wpQ2_step (fun K hK => ?_)
                       go_simp
                       first
                         | (refine hK _ ?_; clear hK K)
                         | (apply Exists.intro
                            refine ⟨fun _ => ?_, hK _ ?_⟩
                            (rw [if_neg (by omega)]; exact ⟨rfl, rfl⟩)
                            clear hK K)
                         | (apply Exists.intro
                            refine ⟨fun _ => ?_, hK _ ?_⟩
                            ((with_reducible refine Calls.keep (HU1.out _) ?_); exact (fun w' hb => KR.call (Keep.h _) hb))
                            clear hK K)
                         | (apply Exists.intro
                            refine ⟨fun _ => ?_, hK _ ?_⟩
                            ((with_reducible refine Calls.keep (HU2.out _) ?_); exact (fun w' hb => KR.call (Keep.h _) hb))
                            clear hK K))
                refine wpQ2_nil ?_
                clear kc0 kc1 kc2 kc3
                intro Wk Kk
                have K := Lib.hid Kk
                clear Kk
                clear gb_ g9_ g13_ g25_ g29_
                go_wp2_with fail
                go_roundw
                case rel => exact ⟨k + 1, by omega, by go_num, HA2, K⟩
                case measure => simp [intOf]; omega
            · have tp : decide (0 < x3) = false := decide_eq_false hp
              have tn : decide (x3 < 0) = true := decide_eq_true (by have := HZ.out; omega)
              cases he : (y3 == x3)
              case true =>
                have HRn : Hid (R = false) := Lib.hid (HCk.out (by rw [HClu.out, tp, tn]; simpa using he))
                clear HSt HOk2 HCl HCk HClu hp HU2
                haveI : Nonempty (Keep (KR w.heap.size w [(g1, 52, #[.int .i64 x1, .int .i64 x2, .int .i64 x3, .int .i64 x4, .float .f64 x5])])) := ⟨⟨_, K.out⟩⟩
                have kc0 := fun q : Keep (KR w.heap.size w [(g1, 52, #[.int .i64 x1, .int .i64 x2, .int .i64 x3, .int .i64 x4, .float .f64 x5])]) => (KR.at q.h 0 rfl).cell 0 _ rfl
                have kc1 := fun q : Keep (KR w.heap.size w [(g1, 52, #[.int .i64 x1, .int .i64 x2, .int .i64 x3, .int .i64 x4, .float .f64 x5])]) => (KR.at q.h 0 rfl).cell 1 _ rfl
                have kc2 := fun q : Keep (KR w.heap.size w [(g1, 52, #[.int .i64 x1, .int .i64 x2, .int .i64 x3, .int .i64 x4, .float .f64 x5])]) => (KR.at q.h 0 rfl).cell 2 _ rfl
                have kc3 := fun q : Keep (KR w.heap.size w [(g1, 52, #[.int .i64 x1, .int .i64 x2, .int .i64 x3, .int .i64 x4, .float .f64 x5])]) => (KR.at q.h 0 rfl).cell 3 _ rfl
                go_upto_region 14 with fail
                refine wp_region_keep2 (Cl := KR w.heap.size w [(g1, 52, #[.int .i64 x1, .int .i64 x2, .int .i64 x3, .int .i64 x4, .float .f64 x5])]) (by kernel_rfl) (by kernel_rfl) K.out.drew ?_
                intro y' hy'
                have g9_ := fun tmps => hy' tmps 9 102 rfl
                have g13_ := fun tmps => hy' tmps 13 106 rfl
                have g25_ := fun tmps => hy' tmps 25 118 rfl
                have g29_ := fun tmps => hy' tmps 29 122 rfl
                have gb_ := yl_bool
                clear hy' K
                repeat
                  first
                    | (refine wpQ2_rowk _ _ rfl _ (fun W h => run_loadVar_mid W _ _ 52 _ _ (R1.out W h) Try.underlying52 rfl (by kernel_rfl)) ?_ ?_
                       · (go_simp; done))
                    | (refine wpQ2_step (fun K hK => ?_)
                       go_simp
                       first
                         | (refine hK _ ?_; clear hK K)
                         | (apply Exists.intro
                            refine ⟨fun _ => ?_, hK _ ?_⟩
                            (rw [if_neg (by omega)]; exact ⟨rfl, rfl⟩)
                            clear hK K)
                         | (apply Exists.intro
                            refine ⟨fun _ => ?_, hK _ ?_⟩
                            ((with_reducible refine Calls.keep (HU1.out _) ?_); exact (fun w' hb => KR.call (Keep.h _) hb))
                            clear hK K))
                refine wpQ2_nil ?_
                clear kc0 kc1 kc2 kc3
                intro Wk Kk
                have K := Lib.hid Kk
                clear Kk
                clear gb_ g9_ g13_ g25_ g29_
                go_wp2_with fail
                go_ret2
                exact ⟨K.out.below, .inl ⟨HRn.out, rfl⟩⟩
              case false =>
                have HA2 : Hid ((l.take (k + 1)).any (clashL ⟨x1, x2, x3, x4, x5⟩) = false) := Lib.hid (by rw [HSt.out, HClu.out, tp, tn]; simpa using he)
                clear HSt HCk HClu hp HU2
                haveI : Nonempty (Keep (KR w.heap.size w [(g1, 52, #[.int .i64 x1, .int .i64 x2, .int .i64 x3, .int .i64 x4, .float .f64 x5])])) := ⟨⟨_, K.out⟩⟩
                have kc0 := fun q : Keep (KR w.heap.size w [(g1, 52, #[.int .i64 x1, .int .i64 x2, .int .i64 x3, .int .i64 x4, .float .f64 x5])]) => (KR.at q.h 0 rfl).cell 0 _ rfl
                have kc1 := fun q : Keep (KR w.heap.size w [(g1, 52, #[.int .i64 x1, .int .i64 x2, .int .i64 x3, .int .i64 x4, .float .f64 x5])]) => (KR.at q.h 0 rfl).cell 1 _ rfl
                have kc2 := fun q : Keep (KR w.heap.size w [(g1, 52, #[.int .i64 x1, .int .i64 x2, .int .i64 x3, .int .i64 x4, .float .f64 x5])]) => (KR.at q.h 0 rfl).cell 2 _ rfl
                have kc3 := fun q : Keep (KR w.heap.size w [(g1, 52, #[.int .i64 x1, .int .i64 x2, .int .i64 x3, .int .i64 x4, .float .f64 x5])]) => (KR.at q.h 0 rfl).cell 3 _ rfl
                go_upto_region 14 with fail
                refine wp_region_keep2 (Cl := KR w.heap.size w [(g1, 52, #[.int .i64 x1, .int .i64 x2, .int .i64 x3, .int .i64 x4, .float .f64 x5])]) (by kernel_rfl) (by kernel_rfl) K.out.drew ?_
                intro y' hy'
                have g9_ := fun tmps => hy' tmps 9 102 rfl
                have g13_ := fun tmps => hy' tmps 13 106 rfl
                have g25_ := fun tmps => hy' tmps 25 118 rfl
                have g29_ := fun tmps => hy' tmps 29 122 rfl
                have gb_ := yl_bool
                clear hy' K
                repeat
                  first
                    | (refine wpQ2_rowk _ _ rfl _ (fun W h => run_loadVar_mid W _ _ 52 _ _ (R1.out W h) Try.underlying52 rfl (by kernel_rfl)) ?_ ?_
                       · (go_simp; done))
                    | (refine wpQ2_step (fun K hK => ?_)
                       go_simp
                       first
                         | (refine hK _ ?_; clear hK K)
                         | (apply Exists.intro
                            refine ⟨fun _ => ?_, hK _ ?_⟩
                            (rw [if_neg (by omega)]; exact ⟨rfl, rfl⟩)
                            clear hK K)
                         | (apply Exists.intro
                            refine ⟨fun _ => ?_, hK _ ?_⟩
                            ((with_reducible refine Calls.keep (HU1.out _) ?_); exact (fun w' hb => KR.call (Keep.h _) hb))
                            clear hK K))
                refine wpQ2_nil ?_
                clear kc0 kc1 kc2 kc3
                intro Wk Kk
                have K := Lib.hid Kk
                clear Kk
                clear gb_ g9_ g13_ g25_ g29_
                go_wp2_with fail
                go_roundw
                case rel => exact ⟨k + 1, by omega, by go_num, HA2, K⟩
                case measure => simp [intOf]; omega
          · have d3 : decide (k < i) = false := by simpa using hki
            obtain rfl : k = i := by omega
            have HR3 := Lib.hid (HOk2.out HAny.out)
            clear HOk2 HAny HCl
            go_wp2_with fail
            go_roundw
            case rel => exact ⟨k + 1, by omega, by go_num, HR3, Lib.hid K.out.below⟩
            case measure => simp [intOf]; omega
    · have d2 : decide (i < l.length) = false := by simpa using hlt
      obtain rfl : i = l.length := by omega
      have HRt : Hid (R = true) := Lib.hid (by rw [HRi.out, List.drop_length]; rfl)
      clear HRi
      obtain ⟨a0, cap0, hv0, _, _, hc3⟩ := HV.out
      obtain ⟨rfl, rfl⟩ : a = a0 ∧ cap = cap0 := by simpa using hv0
      cases a with
      | none =>
        have hl : l = [] := by
          rcases hc3 with h | ⟨_, _, h, _⟩
          · exact h
          · cases h
        subst hl
        clear hc3 hv0
        go_wp2_with fail
        go_ret2
        exact ⟨HB.out.alloc HB.out.size _, .inr ⟨HRt.out, _, _, rfl, BlkAt.new wr _ _, ReadL.nil _ _ _⟩⟩
      | some ad =>
        have hflat := flat_len l
        have A : Hid (∀ j u, (l.flatMap encLink)[j]? = some u → w.cell? (ad.add j) = some u) := Lib.hid (fun j u hu => by
          rcases hc3 with h | ⟨b, off, h, _, hcell⟩
          · subst h; simp at hu
          · cases h
            have hj : j < l.length * 5 := by
              rw [← hflat]; exact (List.getElem?_eq_some_iff.1 hu).1
            have hi : j / 5 < l.length := by omega
            have e := flat_get l encLink 5 encLink_len (j / 5) (j % 5) hi (by omega)
            rw [show j / 5 * 5 + j % 5 = j by omega, hu] at e
            have := hcell (j / 5) (j % 5) u hi e.symm
            rw [show j / 5 * 5 + j % 5 = j by omega] at this
            rw [Addr.add_lit]
            exact this)
        have HONE : Hid (∀ u ∈ l.flatMap encLink, u.oneCell' = true) := Lib.hid (fun u hu => by
          obtain ⟨x, _, hx⟩ := List.mem_flatMap.1 hu
          exact encLink_one x trivial u hx)
        have HFar : Hid (∀ j u, (l.flatMap encLink)[j]? = some u → wr.cell? (ad.add j) = some u) := Lib.hid (fun j u hu => by
          rcases hc3 with h | ⟨b, off, h, hb, _⟩
          · subst h; simp at hu
          · have := A.out j u hu
            cases h
            rw [Addr.add_lit] at this ⊢
            rw [HB.out.cell (p := ⟨b, off + j, none⟩) hb]
            exact this)
        obtain ⟨i0, hi, hz0, hz1, hz2⟩ := info_parts (P := Try.prog) (e := 52) (z := .agg #[.int .i64 0, .int .i64 0, .int .i64 0, .int .i64 0, .float .f64 0]) (size := 5) (bytes := 40) (by kernel_rfl)
        have hsz : (.agg #[.int .i64 0, .int .i64 0, .int .i64 0, .int .i64 0, .float .f64 0] : Value).cells.size = 5 := rfl
        obtain ⟨news, hnews⟩ : ∃ news, news = l.flatMap encLink := ⟨_, rfl⟩
        rw [← hnews] at HFar HONE hflat
        have HF := Lib.hid hnews
        clear hnews hc3 A hv0
        go_wp2_with (at_builtin; refine wpList_append_own _ rfl _ _ 22 rfl w.heap.size 52 i0 _ 5 40 Try.underlying22 hi hz0 hz1 hz2 hsz (by decide) _ _ _ rfl (World.ownsRow_nil _ _ _ _) ad l.length cap news rfl ?qc1 ?qc2 ?qc3 ?qc4 ?qc5 ?qc6 ?_)
        case qc1 => exact hflat
        case qc2 => exact HFar.out
        case qc3 => exact HONE.out
        case qc4 => unfold maxLen; omega
        case qc5 => omega
        case qc6 => exact HB.out.size
        intro v' w1 hown hgrow hnil
        have hown2 : OwnL w1 w.heap.size 52 5 encLink v' l := by
          unfold OwnL
          rw [← HF.out]
          simpa using hown
        obtain ⟨va, vc, rfl, _, _⟩ := hown2.slice
        have HOw := Lib.hid hown2
        have HB1 : Hid (Below w.heap.size w w1) := Lib.hid (HB.out.grown hgrow HB.out.size (fun k hk => by cases hk))
        clear hown hgrow hnil hown2 HFar HONE hflat HF HB
        go_wp2_with fail
        go_ret2
        exact ⟨HB1.out.alloc HB1.out.size _, .inr ⟨HRt.out, _, _, rfl, BlkAt.new w1 _ _, ReadL.of_own (HOw.out.alloc _) encLink_len⟩⟩
end Go.Proofs.Ytggcmhjeflofmaa
