/- match.Encode. -/
import Derived.Test.YtaaadbmhcfjooaaMatchF
namespace Go.Proofs.Ytaaadbmhcfjooaa
open Go.RowKit
set_option linter.unusedVariables false

theorem bld_below {T e : TypeId} {B b : Nat} {p : Value} {bs : List Value} {w w' : World} (h : Lib.BuilderAt T e B b p bs w) (hb : Below w.heap.size w w') : Lib.BuilderAt T e B b p bs w' := by
  have hlt := h.lt
  obtain ⟨hB, v, hbk, hown, hne⟩ := h
  refine ⟨hB, v, by rw [hb.block b hlt]; exact hbk, ⟨hown.1, ?_⟩, hne⟩
  rcases hown.2 with hn | ⟨g, cap, cur, hv, hbg, hg, r⟩
  · exact .inl hn
  · refine .inr ⟨g, cap, cur, hv, hbg, ?_, r⟩
    have hlg : g < w.heap.size := by
      rcases Nat.lt_or_ge g w.heap.size with h' | h'
      · exact h'
      · simp [Array.getElem?_eq_none h'] at hg
    rw [hb.block g hlg]; exact hg
theorem isb_below {T e : TypeId} {B b : Nat} {bs : List Value} {w w' : World} (h : Lib.IsBuilder T e B b bs w) (hb : Below w.heap.size w w') : Lib.IsBuilder T e B b bs w' :=
  h.elim (fun h => .inl (bld_below h hb)) (fun h => .inr (bld_below h hb))
theorem isb_new {T e : TypeId} {B b : Nat} {W : World} (hB : B ≤ b) (h : BlkAt W b T #[.pointer none, .slice none 0 0]) : Lib.IsBuilder T e B b (Lib.byteCells []) W :=
  .inl ⟨hB, .slice none 0 0, h, World.ownsRow_nil _ _ _ _, by simp [Value.ownBlock]⟩
theorem cells_add (a b : List UInt8) : Lib.byteCells a ++ Lib.strCells (str b) = Lib.byteCells (a ++ b) := by
  unfold Lib.byteCells Lib.strCells str
  simp
theorem innerB_succ (p : Int) (l : List Test) (k : Nat) (hk : k < l.length) : innerB p (l.take k) ++ testB p l[k] = innerB p (l.take (k + 1)) := by
  unfold innerB
  rw [List.take_succ_eq_append_getElem hk, List.flatMap_append]
  simp

theorem str_le (a : List UInt8) (n : Nat) (h : a.length ≤ n) : (str a).size ≤ n := by rw [str_size]; exact h

/-- What holds between two rounds of Encode's loop. -/
def EncR (w : World) (g : Nat) (bs : List UInt8) (W : World) : Prop := Below w.heap.size w W ∧ Lib.IsBuilder 58 5 w.heap.size g (Lib.byteCells bs) W
theorem EncR.call {w : World} {g : Nat} {bs : List UInt8} {W W' : World} (h : EncR w g bs W) (hb : Below W.heap.size W W') : EncR w g bs W' := ⟨h.1.trans (hb.mono h.1.size), isb_below h.2 hb⟩
theorem EncR.write {w : World} {g : Nat} {bs : List UInt8} {W : World} (h : EncR w g bs W) (s : List UInt8) (hl : bs.length + s.length ≤ 140737488355328) :
    Calls Try.prog 36 #[.pointer (some ⟨g, 0, none⟩), .string (str s)] W fun e w' => e = .returned (.tuple #[.int .i64 s.length, .nilIface]) ∧ EncR w g (bs ++ s) w' := by
  refine (bWrite w.heap.size g (Lib.byteCells bs) (str s) W h.2 (by rw [Lib.byteCells_length, str_size]; exact hl) h.1.size).mono ?_
  rintro e w' ⟨rfl, h1, h2⟩
  rw [cells_add] at h1
  exact ⟨by rw [str_size], h.1.trans (h2.mono (Nat.le_refl _)), .inr h1⟩
theorem EncR.len {w : World} {g : Nat} {bs : List UInt8} {W : World} (h : EncR w g bs W) :
    Calls Try.prog 37 #[.pointer (some ⟨g, 0, none⟩)] W fun e w' => e = .returned (.int .i64 bs.length) ∧ W = w' := by
  refine (bLen w.heap.size g (Lib.byteCells bs) W h.2).mono ?_
  rintro e w' ⟨rfl, rfl⟩
  rw [Lib.byteCells_length]
  exact ⟨rfl, rfl⟩
theorem EncR.string {w : World} {g : Nat} {bs : List UInt8} {W : World} (h : EncR w g bs W) :
    Calls Try.prog 38 #[.pointer (some ⟨g, 0, none⟩)] W fun e w' => e = .returned (.string (str bs)) ∧ Below w.heap.size w w' := by
  refine (bString w.heap.size g bs W h.2 h.1.size).mono ?_
  rintro e w' ⟨rfl, hb⟩
  exact ⟨rfl, h.1.trans (hb.mono (Nat.le_refl _))⟩
theorem zeros_str (c : Nat) (W : World) : (convert 56 9 (.slice (some ⟨W.heap.size, 0, none⟩) c c)).run Try.prog (W.alloc (.cells (zerosA c) 5)) = .ok (.string (str (List.replicate c 0))) (W.alloc (.cells (zerosA c) 5)) := by
  have e : str (List.replicate c 0) = strOfNums (List.replicate c 0) := by
    unfold str strOfNums
    simp
  rw [e]
  refine run_convert_bytes_arg (P := Try.prog) _ 56 5 Try.underlying56 Try.underlying5 W.heap.size 0 c c (List.replicate c 0) (by simp) (fun i hi => ?_) 9 Try.underlying9
  rw [Nat.zero_add]
  have hb := BlkAt.new W 5 (zerosA c)
  refine hb.cell i _ ?_
  unfold zerosA
  simp [hi, List.getD]

set_option maxRecDepth 100000 in
set_option maxHeartbeats 16000000 in
theorem Encode_any (w : World) (v : Value) (l : List Test) (h : ReadL w 3 encTest v l) (hok : ∀ t ∈ l, okT t) :
    Calls Try.prog 13 #[v] w fun e w' => e = .returned (.tuple #[.string (if rightF l = 0 then str (encB l) else ⟨#[]⟩), .int .i64 (rightF l)]) ∧ Below w.heap.size w w' := by
  have HRi := Lib.hid (Right_any w v l h)
  by_cases hr : rightF l = 0
  case neg =>
    have tr : (rightF l == 0) = false := beq_eq_false_iff_ne.mpr hr
    have tn : (rightF l != 0) = true := by simp [hr]
    rw [if_neg hr]
    clear h hok hr
    generalize rightF l = r at *
    go_enter Try.func13, Try.ntmps13
    go_wp2_with fail
    refine HRi.out.mono ?_
    rintro e w' ⟨rfl, hb⟩
    go_wp2
    go_ret2
    exact ⟨rfl, hb⟩
  rw [if_pos hr]
  obtain ⟨hfit, hlen⟩ := right_fit hok hr
  rw [hr] at HRi ⊢
  have HWh := Lib.hid (fun W hW => whole_any W v l 7 (ReadL.below h hW (Nat.le_refl _)))
  have HF := Lib.hid hfit
  obtain ⟨a, cap, rfl, hcap, hmax, hcells⟩ := h
  unfold maxLen at hmax
  have HC := Lib.hid hcells
  have HE : Hid (encB l = headB (innerB (wholeF l 7).1 l) ++ List.replicate ((8 - (headB (innerB (wholeF l 7).1 l)).length % 8) % 8) 0) := Lib.hid rfl
  clear hcells hok hr hfit
  generalize wholeF l 7 = q at *
  obtain ⟨p, pb⟩ := q
  go_enter Try.func13, Try.ntmps13
  go_wp2_with fail
  refine HRi.out.mono ?_
  rintro e w1 ⟨rfl, b1⟩
  have HB1 := Lib.hid b1
  clear b1 HRi
  go_wp2_with fail
  refine (HWh.out _ HB1.out).mono ?_
  rintro e w2 ⟨rfl, b2⟩
  have HB2 := Lib.hid (HB1.out.trans (b2.mono HB1.out.size))
  clear b2 HB1 HWh
  go_upto_region 6 with fail
  refine one_box_wp ?_
  intro W hb1 hbel hsz
  have HR0 : Hid (EncR w w2.heap.size [] W) := Lib.hid ⟨HB2.out.trans (hbel.mono HB2.out.size), isb_new HB2.out.size hb1⟩
  clear hb1 hbel hsz
  generalize w2.heap.size = g at *
  clear HB2
  go_wp2_with fail
  go_loopw [26] (fun iv wr => ∃ k : Nat, k ≤ l.length ∧ iv = .int .i64 k ∧ Hid (EncR w g (innerB p (l.take k)) wr)) (fun iv _ => l.length - (intOf iv).toNat)
  case atStart => exact ⟨0, Nat.zero_le _, rfl, by rw [List.take_zero]; exact HR0⟩
  case round =>
    obtain ⟨k, hk, rfl, hR⟩ := hrel
    clear HR0
    by_cases hlt : k < l.length
    · have d1 : decide (k < l.length) = true := by simpa using hlt
      rcases HC.out with hnil | ⟨b, off, rfl, hblt, hcell⟩
      · rw [hnil] at hlt; simp at hlt
      have c0 := (hR.out.1.cell (p := ⟨b, off + (k * 3 + 0), none⟩) hblt).trans (hcell k 0 _ hlt rfl)
      have c1 := (hR.out.1.cell (p := ⟨b, off + (k * 3 + 1), none⟩) hblt).trans (hcell k 1 _ hlt rfl)
      have c2 := (hR.out.1.cell (p := ⟨b, off + (k * 3 + 2), none⟩) hblt).trans (hcell k 2 _ hlt rfl)
      simp only [Nat.add_zero, ← Nat.add_assoc] at c0 c1 c2
      have hft := HF.out _ (List.getElem_mem hlt)
      have HS := Lib.hid (innerB_succ p l k hlt)
      have HL : Hid ((innerB p (l.take k)).length ≤ 180) := Lib.hid (by
        have := innerB_len (p := p) (l.take k) (fun t ht => HF.out t (List.mem_of_mem_take ht))
        rw [List.length_take] at this
        omega)
      clear hcell HC
      generalize hy : l[k] = y at c0 c1 c2 hft HS
      clear hy
      generalize innerB p (l.take k) = done at *
      have HTL := Lib.hid (bodyB_len hft)
      have HCL := Lib.hid (codeF_le y.fField p)
      have HSZ := Lib.hid (sizeF_val hft.1)
      have HFt := Lib.hid hft
      clear hft
      obtain ⟨tf, tv, tm⟩ := y
      have HSi := Lib.hid (fun W => size_any W tf)
      have HCo := Lib.hid (fun W => code_any W tf p)
      have HAl := Lib.hid (fun W => all_any W tf)
      have HPv := Lib.hid (fun W => put_any W tv (sizeF tf) HFt.out.2.1.1 HSZ.out.1 HSZ.out.2.1 (by have h1 : tv ≤ greatF tf := HFt.out.2.1.2; have h2 : greatF tf < 256 ^ sizeF tf := HSZ.out.2.2; omega))
      have HPm := Lib.hid (fun W => put_any W tm (sizeF tf) HFt.out.2.2.1 HSZ.out.1 HSZ.out.2.1 (by have h1 : tm ≤ greatF tf := HFt.out.2.2.2; have h2 : greatF tf < 256 ^ sizeF tf := HSZ.out.2.2; omega))
      have HPc := Lib.hid (fun W => (put_any W 32768 2 (by decide) (by decide) (by decide) (by decide) : Calls _ _ _ _ fun x w' => x = .returned (.string (str (beL 2 32768))) ∧ _))
      go_upto_region 9 with fail
      refine one_box_wp ?_
      intro W hb1 hbel hsz
      have hK := Lib.hid ((KR.start hbel hbel.size).add hb1)
      clear hb1 hbel hsz c0 c1 c2
      haveI : Nonempty (Keep (KR wr.heap.size wr [(wr.heap.size, 48, #[.int .i64 tf, .int .u64 tv, .int .u64 tm])])) := ⟨⟨_, hK.out⟩⟩
      have k0 : ∀ p : Keep (KR wr.heap.size wr [(wr.heap.size, 48, #[.int .i64 tf, .int .u64 tv, .int .u64 tm])]), p.w.cell? ⟨wr.heap.size, 0, none⟩ = some (.int .i64 tf) := fun p => p.h.cell 0 0 rfl rfl
      have k2 : ∀ p : Keep (KR wr.heap.size wr [(wr.heap.size, 48, #[.int .i64 tf, .int .u64 tv, .int .u64 tm])]), p.w.cell? ⟨wr.heap.size, 2, none⟩ = some (.int .u64 tm) := fun p => p.h.cell 0 2 rfl rfl
      by_cases hm : tm = greatF tf
      · have eb : bodyB ⟨tf, tv, tm⟩ = beL (sizeF tf) tv.toNat := by unfold bodyB; rw [if_pos hm]
        have ec : codeB p ⟨tf, tv, tm⟩ = 2 * codeF tf p := by unfold codeB; rw [if_pos hm]
        have HT : Hid (testB p ⟨tf, tv, tm⟩ = beL 2 32768 ++ beL 1 (2 * codeF tf p) ++ beL 1 (beL (sizeF tf) tv.toNat).length ++ beL (sizeF tf) tv.toNat) := Lib.hid (by unfold testB; rw [eb, ec])
        rw [eb] at HTL
        clear eb ec
        obtain ⟨c2, hc2⟩ : ∃ m, m = 2 * codeF tf p := ⟨_, rfl⟩
        rw [← hc2] at HT
        have HC2 : Hid (c2 ≤ 33) := Lib.hid (by have : codeF tf p ≤ 16 := HCL.out; omega)
        have hw2 : IntKind.u64.wrap (2 * (codeF tf p : Int)) = (c2 : Int) := by
          have : codeF tf p ≤ 16 := HCL.out
          simp [IntKind.wrap, IntKind.bits, IntKind.signed]
          omega
        clear hc2
        generalize greatF tf = gm at *
        generalize sizeF tf = n at *
        generalize codeF tf p = cf at *
        subst hm
        refine wp_region_keep2 (Cl := (KR wr.heap.size wr [(wr.heap.size, 48, #[.int .i64 tf, .int .u64 tv, .int .u64 tm])])) (by kernel_rfl) (by kernel_rfl) hK.out.drew ?_
        intro y hy
        clear hy
        repeat
          refine wpQ2_step (fun K hK => ?_)
          go_simp
          first
            | (refine hK _ ?_; clear hK K)
            | (apply Exists.intro
               refine ⟨fun _ => ?_, hK _ ?_⟩
               (first | (exact Calls.keepS (HSi.out _)) | (exact Calls.keepS (HCo.out _)))
               clear hK K)
        refine wpQ2_nil ?_
        intro WK9 K9
        have hK9 := Lib.hid K9
        have t1 := K9.cell 0 1 rfl rfl
        clear K9
        go_wp2_with fail
        refine (HPv.out _).mono ?_
        rintro e w3 ⟨rfl, b'⟩
        have hK3 := Lib.hid (hK9.out.call b')
        clear b' hK9 t1
        generalize beL n tv.toNat = bv at *
        go_upto_region 11 with fail
        refine wp_region_keep2 (Cl := (KR wr.heap.size wr [(wr.heap.size, 48, #[.int .i64 tf, .int .u64 tv, .int .u64 tm])])) (by kernel_rfl) (by kernel_rfl) hK3.out.drew ?_
        intro y hy
        clear hy
        repeat
          refine wpQ2_step (fun K hK => ?_)
          go_simp
          first
            | (refine hK _ ?_; clear hK K)
            | (apply Exists.intro
               refine ⟨fun _ => ?_, hK _ ?_⟩
               (exact Calls.keepS (HAl.out _))
               clear hK K)
        refine wpQ2_nil ?_
        intro WKB KB
        have HX := Lib.hid (hR.out.call KB.below)
        clear KB k0 k2 hK3 hR HAl HCo HSi HPv HPm hK
        obtain ⟨nb, hnb⟩ : ∃ m, m = bv.length := ⟨_, rfl⟩
        rw [← hnb] at HT HTL
        have HWR := Lib.hid (fun W (h : EncR w g done W) => h.write (testB p ⟨tf, tv, tm⟩) (by rw [HT.out]; simp only [List.length_append, beL_length]; have := HL.out; have := HTL.out; omega))
        have HPn := Lib.hid (fun W => (put_any W (nb : Int) 1 (by omega) (by decide) (by decide) (by have := HTL.out; omega) : Calls _ _ _ _ fun x w' => x = .returned (.string (str (beL 1 nb))) ∧ _))
        have HPk := Lib.hid (fun W => (put_any W (c2 : Int) 1 (by omega) (by decide) (by decide) (by have := HC2.out; omega) : Calls _ _ _ _ fun x w' => x = .returned (.string (str (beL 1 c2))) ∧ _))
        have hwn : IntKind.u64.wrap (nb : Int) = (nb : Int) := by
          have := HTL.out
          simp [IntKind.wrap, IntKind.bits, IntKind.signed]
          omega
        obtain ⟨a12, X1⟩ : ∃ x, beL 2 32768 ++ beL 1 c2 = x := ⟨_, rfl⟩
        obtain ⟨a3, X2⟩ : ∃ x, a12 ++ beL 1 nb = x := ⟨_, rfl⟩
        have X3 : a3 ++ bv = testB p ⟨tf, tv, tm⟩ := by rw [← X2, ← X1]; exact HT.out.symm
        have z12 : a12.length = 3 := by rw [← X1, List.length_append, beL_length, beL_length]
        have z3 : a3.length = 4 := by rw [← X2, List.length_append, z12, beL_length]
        have zbl := beL_length
        have znb : bv.length = nb := hnb.symm
        have zle : nb ≤ 16 := HTL.out
        clear HT hnb
        generalize testB p ⟨tf, tv, tm⟩ = tb at HS HWR X3
        go_wp2_with fail
        refine (HPc.out _).mono ?_
        rintro e w4 ⟨rfl, b'⟩
        have HX4 := Lib.hid (HX.out.call b')
        clear b' HX HPc
        go_wp2_with fail
        refine (HPk.out _).mono ?_
        rintro e w5 ⟨rfl, b'⟩
        have HX5 := Lib.hid (HX4.out.call b')
        clear b' HX4 HPk
        go_wp2_with fail
        refine (HPn.out _).mono ?_
        rintro e w6 ⟨rfl, b'⟩
        have HX6 := Lib.hid (HX5.out.call b')
        clear b' HX5 HPn
        go_wp2_with fail
        refine (HWR.out _ HX6.out).mono ?_
        rintro e w7 ⟨rfl, hE⟩
        have HE7 := Lib.hid hE
        rw [HS.out] at HE7
        clear hE HX6 HWR X1 X2 X3 z12 z3 zbl znb zle
        go_wp2_with fail
        go_roundw
        case rel => exact ⟨k + 1, hlt, by go_num, HE7⟩
        case measure => simp [intOf]; omega
      · have eb : bodyB ⟨tf, tv, tm⟩ = beL (sizeF tf) tv.toNat ++ beL (sizeF tf) tm.toNat := by unfold bodyB; rw [if_neg hm]
        have ec : codeB p ⟨tf, tv, tm⟩ = 2 * codeF tf p + 1 := by unfold codeB; rw [if_neg hm]
        have HT : Hid (testB p ⟨tf, tv, tm⟩ = beL 2 32768 ++ beL 1 (2 * codeF tf p + 1) ++ beL 1 (beL (sizeF tf) tv.toNat ++ beL (sizeF tf) tm.toNat).length ++ (beL (sizeF tf) tv.toNat ++ beL (sizeF tf) tm.toNat)) := Lib.hid (by unfold testB; rw [eb, ec])
        rw [eb] at HTL
        clear eb ec
        have tmn : (tm != greatF tf) = true := by simp [hm]
        have tmb : (tm == greatF tf) = false := beq_eq_false_iff_ne.mpr hm
        obtain ⟨c1, hc1⟩ : ∃ m, m = 2 * codeF tf p := ⟨_, rfl⟩
        obtain ⟨c2, hc2⟩ : ∃ m, m = c1 + 1 := ⟨_, rfl⟩
        rw [← hc1, ← hc2] at HT
        have HC2 : Hid (c2 ≤ 33) := Lib.hid (by have : codeF tf p ≤ 16 := HCL.out; omega)
        have hw2 : IntKind.u64.wrap (2 * (codeF tf p : Int)) = (c1 : Int) := by
          have : codeF tf p ≤ 16 := HCL.out
          simp [IntKind.wrap, IntKind.bits, IntKind.signed]
          omega
        have hw3 : IntKind.u64.wrap ((c1 : Int) + 1) = (c2 : Int) := by
          have : codeF tf p ≤ 16 := HCL.out
          simp [IntKind.wrap, IntKind.bits, IntKind.signed]
          omega
        clear hc1 hc2 hm
        generalize greatF tf = gm at *
        generalize sizeF tf = n at *
        generalize codeF tf p = cf at *
        refine wp_region_keep2 (Cl := (KR wr.heap.size wr [(wr.heap.size, 48, #[.int .i64 tf, .int .u64 tv, .int .u64 tm])])) (by kernel_rfl) (by kernel_rfl) hK.out.drew ?_
        intro y hy
        clear hy
        repeat
          refine wpQ2_step (fun K hK => ?_)
          go_simp
          first
            | (refine hK _ ?_; clear hK K)
            | (apply Exists.intro
               refine ⟨fun _ => ?_, hK _ ?_⟩
               (first | (exact Calls.keepS (HSi.out _)) | (exact Calls.keepS (HCo.out _)))
               clear hK K)
        refine wpQ2_nil ?_
        intro WK9 K9
        have hK9 := Lib.hid K9
        have t1 := K9.cell 0 1 rfl rfl
        clear K9
        go_wp2_with fail
        refine (HPv.out _).mono ?_
        rintro e w3 ⟨rfl, b'⟩
        have hK3 := Lib.hid (hK9.out.call b')
        clear b' hK9 t1
        have X0' := Lib.hid (str_le (beL n tv.toNat) 16 (by have := HTL.out; rw [List.length_append] at this; omega))
        have X0'' := Lib.hid (str_le (beL n tm.toNat) 16 (by have := HTL.out; rw [List.length_append] at this; omega))
        generalize beL n tv.toNat = bv1 at *
        generalize beL n tm.toNat = bv2 at *
        rw [str_size] at X0' X0''
        have z1 := X0'.out
        have z2 := X0''.out
        clear X0' X0''
        obtain ⟨bv, X0⟩ : ∃ x, bv1 ++ bv2 = x := ⟨_, rfl⟩
        rw [X0] at HT HTL
        go_upto_region 11 with fail
        refine wp_region_keep2 (Cl := (KR wr.heap.size wr [(wr.heap.size, 48, #[.int .i64 tf, .int .u64 tv, .int .u64 tm])])) (by kernel_rfl) (by kernel_rfl) hK3.out.drew ?_
        intro y hy
        clear hy
        repeat
          refine wpQ2_step (fun K hK => ?_)
          go_simp
          first
            | (refine hK _ ?_; clear hK K)
            | (apply Exists.intro
               refine ⟨fun _ => ?_, hK _ ?_⟩
               (exact Calls.keepS (HAl.out _))
               clear hK K)
        refine wpQ2_nil ?_
        intro WKB KB
        have HX0 := Lib.hid (hR.out.call KB.below)
        have t2 := KB.cell 0 2 rfl rfl
        clear KB k0 k2 hK3 hR HAl HCo HSi HPv hK
        go_wp2_with fail
        refine (HPm.out _).mono ?_
        rintro e w4' ⟨rfl, b'⟩
        have HX := Lib.hid (HX0.out.call b')
        clear HX0 b' t2 HPm
        go_upto_region 14 with fail
        clear X0 z1 z2
        obtain ⟨nb, hnb⟩ : ∃ m, m = bv.length := ⟨_, rfl⟩
        rw [← hnb] at HT HTL
        have HWR := Lib.hid (fun W (h : EncR w g done W) => h.write (testB p ⟨tf, tv, tm⟩) (by rw [HT.out]; simp only [List.length_append, beL_length]; have := HL.out; have := HTL.out; omega))
        have HPn := Lib.hid (fun W => (put_any W (nb : Int) 1 (by omega) (by decide) (by decide) (by have := HTL.out; omega) : Calls _ _ _ _ fun x w' => x = .returned (.string (str (beL 1 nb))) ∧ _))
        have HPk := Lib.hid (fun W => (put_any W (c2 : Int) 1 (by omega) (by decide) (by decide) (by have := HC2.out; omega) : Calls _ _ _ _ fun x w' => x = .returned (.string (str (beL 1 c2))) ∧ _))
        have hwn : IntKind.u64.wrap (nb : Int) = (nb : Int) := by
          have := HTL.out
          simp [IntKind.wrap, IntKind.bits, IntKind.signed]
          omega
        obtain ⟨a12, X1⟩ : ∃ x, beL 2 32768 ++ beL 1 c2 = x := ⟨_, rfl⟩
        obtain ⟨a3, X2⟩ : ∃ x, a12 ++ beL 1 nb = x := ⟨_, rfl⟩
        have X3 : a3 ++ bv = testB p ⟨tf, tv, tm⟩ := by rw [← X2, ← X1]; exact HT.out.symm
        have z12 : a12.length = 3 := by rw [← X1, List.length_append, beL_length, beL_length]
        have z3 : a3.length = 4 := by rw [← X2, List.length_append, z12, beL_length]
        have zbl := beL_length
        have znb : bv.length = nb := hnb.symm
        have zle : nb ≤ 16 := HTL.out
        clear HT hnb
        generalize testB p ⟨tf, tv, tm⟩ = tb at HS HWR X3
        go_wp2_with fail
        refine (HPc.out _).mono ?_
        rintro e w4 ⟨rfl, b'⟩
        have HX4 := Lib.hid (HX.out.call b')
        clear b' HX HPc
        go_wp2_with fail
        refine (HPk.out _).mono ?_
        rintro e w5 ⟨rfl, b'⟩
        have HX5 := Lib.hid (HX4.out.call b')
        clear b' HX4 HPk
        go_wp2_with fail
        refine (HPn.out _).mono ?_
        rintro e w6 ⟨rfl, b'⟩
        have HX6 := Lib.hid (HX5.out.call b')
        clear b' HX5 HPn
        go_wp2_with fail
        refine (HWR.out _ HX6.out).mono ?_
        rintro e w7 ⟨rfl, hE⟩
        have HE7 := Lib.hid hE
        rw [HS.out] at HE7
        clear hE HX6 HWR X1 X2 X3 z12 z3 zbl znb zle
        go_wp2_with fail
        go_roundw
        case rel => exact ⟨k + 1, hlt, by go_num, HE7⟩
        case measure => simp [intOf]; omega
    · have d1 : decide (k < l.length) = false := by simpa using hlt
      obtain rfl : k = l.length := by omega
      rw [List.take_length] at hR
      have HIL := Lib.hid (innerB_len (p := p) l HF.out)
      clear HC HF
      generalize innerB p l = inn at *
      obtain ⟨ni, hni⟩ : ∃ m, m = inn.length := ⟨_, rfl⟩
      have HP1 := Lib.hid (fun W => (put_any W 1 2 (by decide) (by decide) (by decide) (by decide) : Calls _ _ _ _ fun x w' => x = .returned (.string (str (beL 2 1))) ∧ _))
      have HLe := Lib.hid (fun W (h : EncR w g inn W) => h.len)
      have HSt := Lib.hid (fun W (h : EncR w g inn W) => h.string)
      have hnb : ni ≤ 180 := by have := HIL.out; omega
      rw [← hni] at HLe
      obtain ⟨n4, hn4⟩ : ∃ m, m = 4 + ni := ⟨_, rfl⟩
      have hw4 : IntKind.i64.wrap (4 + (ni : Int)) = (n4 : Int) := by
        simp [IntKind.wrap, IntKind.bits, IntKind.signed]
        omega
      have hwu : IntKind.u64.wrap (n4 : Int) = (n4 : Int) := by
        simp [IntKind.wrap, IntKind.bits, IntKind.signed]
        omega
      have HP4 := Lib.hid (fun W => (put_any W (n4 : Int) 2 (by omega) (by decide) (by decide) (by omega) : Calls _ _ _ _ fun x w' => x = .returned (.string (str (beL 2 n4))) ∧ _))
      obtain ⟨a12, X1⟩ : ∃ x, beL 2 1 ++ beL 2 n4 = x := ⟨_, rfl⟩
      have X2 : a12 ++ inn = headB inn := by unfold headB; rw [← X1, hn4, hni]
      have z12 : a12.length = 4 := by rw [← X1, List.length_append, beL_length, beL_length]
      have z3 : (headB inn).length = n4 + 4 - 4 + 4 - 4 := by rw [← X2, List.length_append, z12]; omega
      have z3' : (headB inn).length = n4 := by omega
      clear z3
      have zni : inn.length = ni := hni.symm
      have zbl := beL_length
      have zle : n4 ≤ 184 := by omega
      clear hni HIL hn4
      generalize headB inn = hd at *
      go_wp2_with fail
      refine (HP1.out _).mono ?_
      rintro e w4 ⟨rfl, b'⟩
      have HX4 := Lib.hid (hR.out.call b')
      clear b' hR HP1
      go_wp2_with fail
      refine (HLe.out _ HX4.out).mono ?_
      rintro e w5 ⟨rfl, rfl⟩
      clear HLe
      go_wp2_with fail
      refine (HP4.out _).mono ?_
      rintro e w6 ⟨rfl, b'⟩
      have HX6 := Lib.hid (HX4.out.call b')
      clear b' HX4 HP4
      go_wp2_with fail
      refine (HSt.out _ HX6.out).mono ?_
      rintro e w7 ⟨rfl, b'⟩
      have HB7 := Lib.hid b'
      clear b' HX6 HSt
      obtain ⟨cz, hcz⟩ : ∃ m, m = (8 - n4 % 8) % 8 := ⟨_, rfl⟩
      rw [z3', ← hcz] at HE
      have X3 : hd ++ List.replicate cz 0 = encB l := HE.out.symm
      have zcz : cz ≤ 7 := by omega
      have hcc : -((n4 : Int) % 8) % 8 = (cz : Int) := by omega
      clear hcz
      have hmk := put_make w7 cz (by omega)
      have hzs := zeros_str cz w7
      go_wp2
      go_ret2
      exact ⟨rfl, HB7.out.alloc HB7.out.size _⟩
end Go.Proofs.Ytaaadbmhcfjooaa
