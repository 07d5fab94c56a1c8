/- bytes of the reference. -/
import Derived.Test.YtaaadbmhcfjooaaMatchP
import Derived.Test.YtaaadbmhcfjooaaMatchG
import Derived.Deep.RegionHeld3
namespace Go.Proofs.Ytaaadbmhcfjooaa
open Go.RowKit
set_option linter.unusedVariables false
set_option linter.unusedSimpArgs false

/-- The variable t, while a line's calls run. -/
def TK (w : World) (g : Nat) (t : Test) (W : World) : Prop := KR w.heap.size w [(g, 48, #[.int .i64 t.fField, .int .u64 t.fValue, .int .u64 t.fMask])] W
section
variable {w W W' : World} {g : Nat} {t : Test}
theorem TK.drew (h : TK w g t W) : TK w g t W.drew := KR.drew h
theorem TK.call (h : TK w g t W) (hb : Below W.heap.size W W') : TK w g t W' := KR.call h hb
theorem TK.alloc (h : TK w g t W) (o : Obj) : TK w g t (W.alloc o) := KR.call h ((Below.refl _ _).alloc (Nat.le_refl _) o)
theorem TK.below (h : TK w g t W) : Below w.heap.size w W := KR.below h
theorem TK.c0 (h : TK w g t W) : W.cell? ⟨g, 0, none⟩ = some (.int .i64 t.fField) := KR.cell h 0 0 rfl rfl
theorem TK.c1 (h : TK w g t W) : W.cell? ⟨g, 1, none⟩ = some (.int .u64 t.fValue) := KR.cell h 0 1 rfl rfl
theorem TK.c2 (h : TK w g t W) : W.cell? ⟨g, 2, none⟩ = some (.int .u64 t.fMask) := KR.cell h 0 2 rfl rfl
end
/-- A callee's contract while t stays. -/
theorem Calls.tk {P : Program} {f : FuncId} {args : Array Value} {v : Value} {w W : World} {g : Nat} {t : Test} (hk : TK w g t W) (h : Calls P f args W fun e w' => e = .returned v ∧ Below W.heap.size W w') :
    Calls P f args W fun e w' => e = .returned v ∧ TK w g t w' := h.mono fun _ _ ⟨he, hb⟩ => ⟨he, hk.call hb⟩
/-- The same where a row of two bytes has just been made. -/
theorem Calls.tkA {P : Program} {f : FuncId} {args : Array Value} {v : Value} {w W : World} {g : Nat} {t : Test} {a b : Value} {ty : TypeId} (hk : TK w g t W)
    (h : Calls P f args (W.alloc (.cells #[a, b] ty (0, 0))) fun e w' => e = .returned v ∧ Below (W.alloc (.cells #[a, b] ty (0, 0))).heap.size (W.alloc (.cells #[a, b] ty (0, 0))) w') :
    Calls P f args (W.alloc (.cells #[a, b] ty (0, 0))) fun e w' => e = .returned v ∧ TK w g t w' ∧ w'.cell? ⟨W.heap.size, 0, none⟩ = some a ∧ w'.cell? ⟨W.heap.size, 1, none⟩ = some b := by
  refine h.mono fun _ w' ⟨he, hb⟩ => ⟨he, (hk.alloc _).call hb, ?_, ?_⟩
  · rw [hb.cell (p := ⟨W.heap.size, 0, none⟩) (by simp)]
    exact (cell_of_row _ _ 0 _ _ (0, 0) (BlkAt.new W ty #[a, b])).trans rfl
  · rw [hb.cell (p := ⟨W.heap.size, 1, none⟩) (by simp)]
    exact (cell_of_row _ _ 1 _ _ (0, 0) (BlkAt.new W ty #[a, b])).trans rfl
theorem two_str (W : World) (g : Nat) (a b : Nat) (ha : W.cell? ⟨g, 0, none⟩ = some (.int .u8 a)) (hb : W.cell? ⟨g, 1, none⟩ = some (.int .u8 b)) :
    (convert 56 9 (.slice (some ⟨g, 0, none⟩) 2 2)).run Try.prog W = .ok (.string (str [UInt8.ofNat a, UInt8.ofNat b])) W := by
  have e : str [UInt8.ofNat a, UInt8.ofNat b] = strOfNums [(a : Int), (b : Int)] := by
    unfold str strOfNums
    simp
  rw [e]
  refine run_convert_bytes_arg (P := Try.prog) W 56 5 Try.underlying56 Try.underlying5 g 0 2 2 [(a : Int), (b : Int)] rfl (fun i hi => ?_) 9 Try.underlying9
  match i, hi with
  | 0, _ => exact ha
  | 1, _ => exact hb
theorem two_new (W : World) (a b : Nat) : (convert 56 9 (.slice (some ⟨W.heap.size, 0, none⟩) 2 2)).run Try.prog (W.alloc (.cells #[.int .u8 a, .int .u8 b] 5)) =
    .ok (.string (str [UInt8.ofNat a, UInt8.ofNat b])) (W.alloc (.cells #[.int .u8 a, .int .u8 b] 5)) :=
  two_str _ _ a b ((cell_of_row _ _ 0 _ _ (0, 0) (BlkAt.new W 5 #[.int .u8 a, .int .u8 b])).trans rfl) ((cell_of_row _ _ 1 _ _ (0, 0) (BlkAt.new W 5 #[.int .u8 a, .int .u8 b])).trans rfl)
theorem two_c0 (W : World) (ty : TypeId) (a b : Value) : (W.alloc (.cells #[a, b] ty (0, 0))).cell? ⟨W.heap.size, 0, none⟩ = some a := (cell_of_row _ _ 0 _ _ (0, 0) (BlkAt.new W ty #[a, b])).trans rfl
theorem two_c1 (W : World) (ty : TypeId) (a b : Value) : (W.alloc (.cells #[a, b] ty (0, 0))).cell? ⟨W.heap.size, 1, none⟩ = some b := (cell_of_row _ _ 1 _ _ (0, 0) (BlkAt.new W ty #[a, b])).trans rfl
theorem two_lt (W : World) (ty : TypeId) (a b : Value) : W.heap.size < (W.alloc (.cells #[a, b] ty (0, 0))).heap.size := by simp
theorem Calls.tkZ {P : Program} {f : FuncId} {args : Array Value} {v : Value} {w W : World} {g g2 : Nat} {t : Test} {a b : Value} (hk : TK w g t W) (hs : g2 < W.heap.size) (ha : W.cell? ⟨g2, 0, none⟩ = some a) (hb : W.cell? ⟨g2, 1, none⟩ = some b)
    (h : Calls P f args W fun e w' => e = .returned v ∧ Below W.heap.size W w') :
    Calls P f args W fun e w' => e = .returned v ∧ TK w g t w' ∧ g2 < w'.heap.size ∧ w'.cell? ⟨g2, 0, none⟩ = some a ∧ w'.cell? ⟨g2, 1, none⟩ = some b :=
  h.mono fun _ w' ⟨he, hbl⟩ => ⟨he, hk.call hbl, Nat.lt_of_lt_of_le hs hbl.size, (hbl.cell (p := ⟨g2, 0, none⟩) hs).trans ha, (hbl.cell (p := ⟨g2, 1, none⟩) hs).trans hb⟩
theorem wpAnyH_switch {P : Program} {md : Region.Mode} {ops : Array Oper} {Q : Exit → Act → World → Prop} {S S' : World → Prop} (hs : ∀ w, S' w → S w) : ∀ (fuel : Nat) (listed : Array Bool) (a : Act) (w : World), wpAnyH P md ops Q S' fuel listed a w → wpAnyH P md ops Q S fuel listed a w
  | 0, _, _, _, h => h
  | fuel + 1, _, _, _, h => ⟨h.1, fun i hi => wpOp_mono (fun a' w' h' => ⟨hs _ h'.1, wpAnyH_switch hs fuel _ a' w' h'.2⟩) (h.2 i hi)⟩
theorem fin_one (d bv : List UInt8) (a b : UInt8) : str d ++ ({ data := #[128, 0] } : ByteArray) ++ str [a, b] ++ str bv = str (d ++ ([128, 0] ++ [a, b] ++ bv)) := by
  rw [show ({ data := #[128, 0] } : ByteArray) = str [128, 0] from rfl, str_add, str_add, str_add]
  simp
theorem fin_two (d bv bm : List UInt8) (a b : UInt8) : str d ++ ({ data := #[128, 0] } : ByteArray) ++ str [a, b] ++ str bv ++ str bm = str (d ++ ([128, 0] ++ [a, b] ++ (bv ++ bm))) := by
  rw [show ({ data := #[128, 0] } : ByteArray) = str [128, 0] from rfl, str_add, str_add, str_add, str_add]
  simp
theorem head_str (s2 inn : List UInt8) : ({ data := #[0, 1] } : ByteArray) ++ str s2 ++ str inn = str ([0, 1] ++ s2 ++ inn) := by
  rw [show ({ data := #[0, 1] } : ByteArray) = str [0, 1] from rfl, str_add, str_add]
theorem pad_str (c : List UInt8) : str c ++ ({ data := #[0] } : ByteArray) = str (c ++ [0]) := by
  rw [show ({ data := #[0] } : ByteArray) = str [0] from rfl, str_add]
def svLen : Value → Nat
  | .string s => s.size
  | _ => 0
theorem beL_head : beL 2 1 = [0, 1] := by decide
theorem beL_one (n : Nat) : beL 1 n = [UInt8.ofNat n] := by simp [beL]
theorem beL_class : beL 2 32768 = [128, 0] := by decide

set_option maxRecDepth 100000 in
set_option maxHeartbeats 16000000 in
theorem rBytes_any (w : World) (v : Value) (l : List Test) (h : ReadL w 3 encTest v l) (hfit : ∀ t ∈ l, FitT t) (hlen : l.length ≤ 9) :
    Calls Try.prog 39 #[v] w fun e w' => e = .returned (.string (str (encB l))) ∧ Below w.heap.size w w' := by
  have HCo := Lib.hid (fun W hW f hf => rCode_any W v l f hf (ReadL.below h hW (Nat.le_refl w.heap.size)))
  have HF := Lib.hid hfit
  obtain ⟨a, cap, rfl, hcap, hmax, hcells⟩ := h
  unfold maxLen at hmax
  have HC := Lib.hid hcells
  have HE : Hid (encB l = headB (innerB (wholeF l 7).1 l) ++ List.replicate ((8 - (headB (innerB (wholeF l 7).1 l)).length % 8) % 8) 0) := Lib.hid rfl
  clear hcells hfit
  generalize wholeF l 7 = q at *
  obtain ⟨p, pb⟩ := q
  dsimp only at HCo
  go_enter Try.func39, Try.ntmps39
  go_wp2_with fail
  go_loopw [3, 4] (fun sv iv wr => ∃ k : Nat, k ≤ l.length ∧ iv = .int .i64 k ∧ sv = .string (str (innerB p (l.take k))) ∧ Hid (Below w.heap.size w wr)) (fun _ iv _ => l.length - (intOf iv).toNat)
  case atStart => exact ⟨0, Nat.zero_le _, rfl, by simp [innerB, str], Lib.hid (Below.refl _ w)⟩
  case round =>
    obtain ⟨k, hk, rfl, rfl, hR⟩ := hrel
    by_cases hlt : k < l.length
    · have d1 : decide (k < l.length) = true := by simpa using hlt
      rcases HC.out with hnil | ⟨b, off, rfl, hblt, hcell⟩
      · rw [hnil] at hlt; simp at hlt
      have c0 := (hR.out.cell (p := ⟨b, off + (k * 3 + 0), none⟩) hblt).trans (hcell k 0 _ hlt rfl)
      have c1 := (hR.out.cell (p := ⟨b, off + (k * 3 + 1), none⟩) hblt).trans (hcell k 1 _ hlt rfl)
      have c2 := (hR.out.cell (p := ⟨b, off + (k * 3 + 2), none⟩) hblt).trans (hcell k 2 _ hlt rfl)
      simp only [Nat.add_zero, ← Nat.add_assoc] at c0 c1 c2
      have hft := HF.out _ (List.getElem_mem hlt)
      have HS := Lib.hid (innerB_succ p l k hlt)
      have HL : Hid ((innerB p (l.take k)).length ≤ 180) := Lib.hid (by
        have := innerB_len (p := p) (l.take k) (fun t ht => HF.out t (List.mem_of_mem_take ht))
        rw [List.length_take] at this
        omega)
      clear hcell HC
      generalize hy : l[k] = y at c0 c1 c2 hft HS
      clear hy
      generalize innerB p (l.take k) = done at *
      have HCL := Lib.hid (codeF_le y.fField p)
      have HSZ := Lib.hid (sizeF_val hft.1)
      have HFt := Lib.hid hft
      clear hft
      obtain ⟨tf, tv, tm⟩ := y
      have HSi := Lib.hid (fun W => rSize_any W tf)
      have HCt := Lib.hid (fun W hW => HCo.out W hW tf HFt.out.1)
      have HAl := Lib.hid (fun W => rAll_any W tf)
      have HPv := Lib.hid (fun W => r3Put_any W tv (sizeF tf) HFt.out.2.1.1 HSZ.out.1 HSZ.out.2.1)
      have HPm := Lib.hid (fun W => r3Put_any W tm (sizeF tf) HFt.out.2.2.1 HSZ.out.1 HSZ.out.2.1)
      clear HCo
      have hszN : sizeF tf ≤ 8 := HSZ.out.2.1
      have hcfN : codeF tf p ≤ 16 := HCL.out
      go_upto_region 6 with fail
      refine one_box_wp ?_
      intro W hb1 hbel hsz
      have hT : Hid (TK w wr.heap.size ⟨tf, tv, tm⟩ W) := Lib.hid ((KR.start (hR.out.trans (hbel.mono hR.out.size)) (Nat.le_trans hR.out.size hbel.size)).add hb1)
      generalize wr.heap.size = g at *
      clear hb1 hbel hsz c0 c1 c2
      have t0 := hT.out.c0
      go_wp2_with fail
      refine (HSi.out _).mono ?_
      rintro e w1 ⟨rfl, b1⟩
      have hT1 := Lib.hid (hT.out.call b1)
      clear b1 hT t0 HSi
      by_cases hm : tm = greatF tf
      · have eb : bodyB ⟨tf, tv, tm⟩ = beL (sizeF tf) tv.toNat := by unfold bodyB; rw [if_pos hm]
        have ec : codeB p ⟨tf, tv, tm⟩ = 2 * codeF tf p := by unfold codeB; rw [if_pos hm]
        have HT : Hid (testB p ⟨tf, tv, tm⟩ = [128, 0] ++ [UInt8.ofNat (2 * codeF tf p), UInt8.ofNat (sizeF tf)] ++ beL (sizeF tf) tv.toNat) := Lib.hid (by unfold testB; rw [eb, ec, beL_class, beL_one, beL_one, beL_length]; simp)
        clear eb ec
        have tml : (beL (sizeF tf) tv.toNat).length = sizeF tf := beL_length _ _
        obtain ⟨n2, hn2⟩ : ∃ m, m = sizeF tf := ⟨_, rfl⟩
        have hw4 : IntKind.u8.wrap ((sizeF tf : Nat) : Int) = (n2 : Int) := by
          simp [IntKind.wrap, IntKind.bits, IntKind.signed]
          omega
        rw [show [UInt8.ofNat (2 * codeF tf p), UInt8.ofNat (sizeF tf)] = [UInt8.ofNat (2 * codeF tf p), UInt8.ofNat n2] by rw [hn2]] at HT
        clear hn2
        generalize greatF tf = gm at *
        generalize sizeF tf = n at *
        generalize codeF tf p = cf at *
        generalize beL n tv.toNat = bv at *
        generalize testB p ⟨tf, tv, tm⟩ = tb at *
        subst hm
        haveI : Nonempty (Keep (TK w g ⟨tf, tv, tm⟩)) := ⟨⟨_, hT1.out⟩⟩
        have k0 : ∀ p : Keep (TK w g ⟨tf, tv, tm⟩), p.w.cell? ⟨g, 0, none⟩ = some (.int .i64 tf) := fun p => p.h.c0
        have k2 : ∀ p : Keep (TK w g ⟨tf, tv, tm⟩), p.w.cell? ⟨g, 2, none⟩ = some (.int .u64 tm) := fun p => p.h.c2
        go_upto_region 7 with fail
        refine wp_region_keep2 (Cl := (TK w g ⟨tf, tv, tm⟩)) (by kernel_rfl) (by kernel_rfl) hT1.out.drew ?_
        intro y hy
        clear hy
        repeat
          refine wpQ2_step (fun K hK => ?_)
          go_simp
          first
            | (refine hK _ ?_; clear hK K)
            | (apply Exists.intro
               refine ⟨fun _ => ?_, hK _ ?_⟩
               (exact Calls.keep (HAl.out _) (fun w' hb => TK.call (Keep.h _) hb))
               clear hK K)
        refine wpQ2_nil ?_
        clear k0 k2
        intro W7 K7
        have T7 := K7
        have T7d := T7.drew
        clear K7 hT1
        have hw2 : IntKind.i64.wrap (2 * (cf : Int)) = ((2 * cf : Nat) : Int) := by
          simp [IntKind.wrap, IntKind.bits, IntKind.signed]
          omega
        have hw3 : IntKind.u8.wrap ((2 * cf : Nat) : Int) = ((2 * cf : Nat) : Int) := by
          simp [IntKind.wrap, IntKind.bits, IntKind.signed]
          omega
        generalize 2 * cf = c2 at *
        have hdl : done.length ≤ 180 := HL.out
        have hd1 : ¬ 9223372036854775807 < done.length + 2 := by omega
        have hd2 : ¬ 9223372036854775805 < done.length := by omega
        have hd3 : done.length + 2 ≤ 9223372036854775807 := by omega
        have hd4 : done.length ≤ 9223372036854775805 := by omega
        have hd5 : ¬ 9223372036854775807 < done.length + 4 := by omega
        have hd6 : ¬ 9223372036854775807 < done.length + 4 + n := by omega
        have hd7 : ¬ 9223372036854775803 < done.length := by omega
        have HCk := Lib.hid (fun W (h : TK w g ⟨tf, tv, tm⟩ W) => Calls.tk h (HCt.out W h.below))
        have HPk := Lib.hid (fun W (h : TK w g ⟨tf, tv, tm⟩ W) => Calls.tk h (HPv.out W))
        have HPkz := Lib.hid (fun W g2 x y (h : TK w g ⟨tf, tv, tm⟩ W) h1 h2 h3 => Calls.tkZ (g2 := g2) (a := .int .u8 x) (b := .int .u8 y) h h1 h2 h3 (HPv.out W))
        clear HCt HPv HAl HPm
        go_upto_region 8 with fail
        refine wp_region_noPanic ?_
        refine wp_region_held (S := fun w' => w'.cell? ⟨g, 0, none⟩ = some (.int .i64 tf) ∧ w'.cell? ⟨g, 1, none⟩ = some (.int .u64 tv) ∧ w'.cell? ⟨g, 2, none⟩ = some (.int .u64 tm)) (by kernel_rfl) ?_
        change wpAnyH _ _ _ _ _ 19 #[false, false, false, false, false, false, false, false, false, false, false, false, false, false, false, false, false, false, false] _ (World.drew _)
        refine wpAnyH_take (i := 0) (v := ?_) rfl (by kernel_rfl) (by kernel_rfl) (by kernel_rfl) (fun _ _ _ h => h) (Or.inl ⟨by rfl, ?_⟩) ⟨T7d.c0, T7d.c1, T7d.c2⟩ ?_
        rotate_left
        · (intro w hSw; (try dsimp only at hSw); go_simp; try with_reducible rfl)
        try simp only [Act.put, List.setIfInBounds_toArray, List.set_cons_zero, List.set_cons_succ]
        refine wpAnyH_take (i := 1) (v := ?_) rfl (by kernel_rfl) (by kernel_rfl) (by kernel_rfl) (fun _ _ _ h => h) (Or.inl ⟨by rfl, ?_⟩) ⟨T7d.c0, T7d.c1, T7d.c2⟩ ?_
        rotate_left
        · (intro w hSw; (try dsimp only at hSw); go_simp; try with_reducible rfl)
        try simp only [Act.put, List.setIfInBounds_toArray, List.set_cons_zero, List.set_cons_succ]
        refine wpAnyH_take (i := 2) (v := ?_) rfl (by kernel_rfl) (by kernel_rfl) (by kernel_rfl) (fun _ _ _ h => h) (Or.inl ⟨by rfl, ?_⟩) ⟨T7d.c0, T7d.c1, T7d.c2⟩ ?_
        rotate_left
        · (intro w hSw; (try dsimp only at hSw); go_simp; try with_reducible rfl)
        try simp only [Act.put, List.setIfInBounds_toArray, List.set_cons_zero, List.set_cons_succ]
        refine wpAnyH_take (i := 3) (v := ?_) rfl (by kernel_rfl) (by kernel_rfl) (by kernel_rfl) (fun _ _ _ h => h) (Or.inl ⟨by rfl, ?_⟩) ⟨T7d.c0, T7d.c1, T7d.c2⟩ ?_
        rotate_left
        · (intro w hSw; (try dsimp only at hSw); go_simp; try with_reducible rfl)
        try simp only [Act.put, List.setIfInBounds_toArray, List.set_cons_zero, List.set_cons_succ]
        refine wpAnyH_take (i := 4) (v := ?_) rfl (by kernel_rfl) (by kernel_rfl) (by kernel_rfl) (fun _ _ _ h => h) (Or.inl ⟨by rfl, ?_⟩) ⟨T7d.c0, T7d.c1, T7d.c2⟩ ?_
        rotate_left
        · (intro w hSw; (try dsimp only at hSw); go_simp; try with_reducible rfl)
        try simp only [Act.put, List.setIfInBounds_toArray, List.set_cons_zero, List.set_cons_succ]
        refine wpAnyH_take (i := 8) (v := ?_) rfl (by kernel_rfl) (by kernel_rfl) (by kernel_rfl) (fun _ _ _ h => h) (Or.inl ⟨by rfl, ?_⟩) ⟨T7d.c0, T7d.c1, T7d.c2⟩ ?_
        rotate_left
        · (intro w hSw; (try dsimp only at hSw); go_simp; try with_reducible rfl)
        try simp only [Act.put, List.setIfInBounds_toArray, List.set_cons_zero, List.set_cons_succ]
        refine wpAnyH_take (i := 9) (v := ?_) rfl (by kernel_rfl) (by kernel_rfl) (by kernel_rfl) (fun _ _ _ h => h) (Or.inl ⟨by rfl, ?_⟩) ⟨T7d.c0, T7d.c1, T7d.c2⟩ ?_
        rotate_left
        · (intro w hSw; (try dsimp only at hSw); go_simp; try with_reducible rfl)
        try simp only [Act.put, List.setIfInBounds_toArray, List.set_cons_zero, List.set_cons_succ]
        refine wpAnyH_take (i := 13) (v := ?_) rfl (by kernel_rfl) (by kernel_rfl) (by kernel_rfl) (fun _ _ _ h => h) (Or.inl ⟨by rfl, ?_⟩) ⟨T7d.c0, T7d.c1, T7d.c2⟩ ?_
        rotate_left
        · (intro w hSw; (try dsimp only at hSw); go_simp; try with_reducible rfl)
        try simp only [Act.put, List.setIfInBounds_toArray, List.set_cons_zero, List.set_cons_succ]
        refine wpAnyH_take (i := 14) (v := ?_) rfl (by kernel_rfl) (by kernel_rfl) (by kernel_rfl) (fun _ _ _ h => h) (Or.inl ⟨by rfl, ?_⟩) ⟨T7d.c0, T7d.c1, T7d.c2⟩ ?_
        rotate_left
        · (intro w hSw; (try dsimp only at hSw); go_simp; try with_reducible rfl)
        try simp only [Act.put, List.setIfInBounds_toArray, List.set_cons_zero, List.set_cons_succ]
        refine wpAnyH_take (i := 15) (v := ?_) rfl (by kernel_rfl) (by kernel_rfl) (by kernel_rfl) (fun _ _ _ h => h) (Or.inl ⟨by rfl, ?_⟩) ⟨T7d.c0, T7d.c1, T7d.c2⟩ ?_
        rotate_left
        · (intro w hSw; (try dsimp only at hSw); go_simp; try with_reducible rfl)
        try simp only [Act.put, List.setIfInBounds_toArray, List.set_cons_zero, List.set_cons_succ]
        refine wpAnyH_ready (rs := [5]) (by kernel_rfl) (by simp) ?_
        refine AllReadyH.cons rfl (fun K hK => ?_) ?_
        · go_simp
          refine (HCk.out _ T7d).mono ?_
          rintro e w1_ ⟨rfl, T1⟩
          go_wp2_with fail
          refine hK.out _ _ ⟨T1.c0, T1.c1, T1.c2⟩ (fun hHeld => ?_)
          clear hK K hHeld
          try simp only [Act.put, List.setIfInBounds_toArray, List.set_cons_zero, List.set_cons_succ]
          refine wpAnyH_take (i := 6) (v := ?_) rfl (by kernel_rfl) (by kernel_rfl) (by kernel_rfl) (fun _ _ _ h => h) (Or.inl ⟨by rfl, ?_⟩) ⟨T1.c0, T1.c1, T1.c2⟩ ?_
          rotate_left
          · (intro w hSw; (try dsimp only at hSw); go_simp; try with_reducible rfl)
          try simp only [Act.put, List.setIfInBounds_toArray, List.set_cons_zero, List.set_cons_succ]
          refine wpAnyH_take (i := 7) (v := ?_) rfl (by kernel_rfl) (by kernel_rfl) (by kernel_rfl) (fun _ _ _ h => h) (Or.inl ⟨by rfl, ?_⟩) ⟨T1.c0, T1.c1, T1.c2⟩ ?_
          rotate_left
          · (intro w hSw; (try dsimp only at hSw); go_simp; try with_reducible rfl)
          try simp only [Act.put, List.setIfInBounds_toArray, List.set_cons_zero, List.set_cons_succ]
          refine wpAnyH_ready (rs := [10, 16]) (by kernel_rfl) (by simp) ?_
          refine AllReadyH.cons rfl (fun K hK => ?_) ?_
          · go_simp
            have T2 := T1.alloc (.cells #[.int .u8 c2, .int .u8 n2] 5)
            have zz2 := two_new w1_ c2 n2
            have z0_2 := two_c0 w1_ 5 (.int .u8 c2) (.int .u8 n2)
            have z1_2 := two_c1 w1_ 5 (.int .u8 c2) (.int .u8 n2)
            have zs2 := two_lt w1_ 5 (.int .u8 c2) (.int .u8 n2)
            refine hK.out _ _ ⟨T2.c0, T2.c1, T2.c2⟩ (fun hHeld => ?_)
            clear hK K hHeld
            try simp only [Act.put, List.setIfInBounds_toArray, List.set_cons_zero, List.set_cons_succ]
            refine wpAnyH_switch (S' := fun w' => w'.cell? ⟨g, 0, none⟩ = some (.int .i64 tf) ∧ w'.cell? ⟨g, 1, none⟩ = some (.int .u64 tv) ∧ w'.cell? ⟨g, 2, none⟩ = some (.int .u64 tm) ∧ Sem.run Try.prog (convert 56 9 (.slice (some ⟨w1_.heap.size, 0, none⟩) 2 2)) w' = .ok (.string (str [UInt8.ofNat c2, UInt8.ofNat n2])) w') (fun _ h => ⟨h.1, h.2.1, h.2.2.1⟩) _ _ _ _ ?_
            refine wpAnyH_take (i := 11) (v := ?_) rfl (by kernel_rfl) (by kernel_rfl) (by kernel_rfl) (fun _ _ _ h => h) (Or.inl ⟨by rfl, ?_⟩) ⟨T2.c0, T2.c1, T2.c2, zz2⟩ ?_
            rotate_left
            · (intro w hSw; (try dsimp only at hSw); go_simp; try with_reducible rfl)
            try simp only [Act.put, List.setIfInBounds_toArray, List.set_cons_zero, List.set_cons_succ]
            refine wpAnyH_take (i := 12) (v := ?_) rfl (by kernel_rfl) (by kernel_rfl) (by kernel_rfl) (fun _ _ _ h => h) (Or.inl ⟨by rfl, ?_⟩) ⟨T2.c0, T2.c1, T2.c2, zz2⟩ ?_
            rotate_left
            · (intro w hSw; (try dsimp only at hSw); go_simp; try with_reducible rfl)
            try simp only [Act.put, List.setIfInBounds_toArray, List.set_cons_zero, List.set_cons_succ]
            refine wpAnyH_ready (rs := [16]) (by kernel_rfl) (by simp) ?_
            refine AllReadyH.cons rfl (fun K hK => ?_) ?_
            · go_simp
              refine (HPkz.out _ _ _ _ T2 zs2 z0_2 z1_2).mono ?_
              rintro e w3_ ⟨rfl, T3, zs3, z0_3, z1_3⟩
              have zz3 := two_str _ _ c2 n2 z0_3 z1_3
              go_wp2_with fail
              refine hK.out _ _ ⟨T3.c0, T3.c1, T3.c2, zz3⟩ (fun hHeld => ?_)
              clear hK K hHeld
              try simp only [Act.put, List.setIfInBounds_toArray, List.set_cons_zero, List.set_cons_succ]
              refine wpAnyH_take (i := 17) (v := ?_) rfl (by kernel_rfl) (by kernel_rfl) (by kernel_rfl) (fun _ _ _ h => h) (Or.inl ⟨by rfl, ?_⟩) ⟨T3.c0, T3.c1, T3.c2, zz3⟩ ?_
              rotate_left
              · (intro w hSw; (try dsimp only at hSw); go_simp; try with_reducible rfl)
              try simp only [Act.put, List.setIfInBounds_toArray, List.set_cons_zero, List.set_cons_succ]
              refine wpAnyH_take (i := 18) (v := ?_) rfl (by kernel_rfl) (by kernel_rfl) (by kernel_rfl) (fun _ _ _ h => h) (Or.inl ⟨by rfl, ?_⟩) ⟨T3.c0, T3.c1, T3.c2, zz3⟩ ?_
              rotate_left
              · (intro w hSw; (try dsimp only at hSw); go_simp; try with_reducible rfl)
              try simp only [Act.put, List.setIfInBounds_toArray, List.set_cons_zero, List.set_cons_succ]
              refine wpAnyH_done (by kernel_rfl) ?_ _
              refine NoPanic.normal ?_
              go_wp2_with fail
              go_roundw
              case rel => exact ⟨k + 1, hlt, by go_num, by rw [← HS.out, HT.out]; exact congrArg Value.string (fin_one _ _ _ _), Lib.hid T3.below⟩
              case measure => simp [intOf]; omega
            exact AllReadyH.nil
          refine AllReadyH.cons rfl (fun K hK => ?_) ?_
          · go_simp
            refine (HPk.out _ T1).mono ?_
            rintro e w4_ ⟨rfl, T4⟩
            go_wp2_with fail
            refine hK.out _ _ ⟨T4.c0, T4.c1, T4.c2⟩ (fun hHeld => ?_)
            clear hK K hHeld
            try simp only [Act.put, List.setIfInBounds_toArray, List.set_cons_zero, List.set_cons_succ]
            refine wpAnyH_ready (rs := [10]) (by kernel_rfl) (by simp) ?_
            refine AllReadyH.cons rfl (fun K hK => ?_) ?_
            · go_simp
              have T5 := T4.alloc (.cells #[.int .u8 c2, .int .u8 n2] 5)
              have zz5 := two_new w4_ c2 n2
              have z0_5 := two_c0 w4_ 5 (.int .u8 c2) (.int .u8 n2)
              have z1_5 := two_c1 w4_ 5 (.int .u8 c2) (.int .u8 n2)
              have zs5 := two_lt w4_ 5 (.int .u8 c2) (.int .u8 n2)
              refine hK.out _ _ ⟨T5.c0, T5.c1, T5.c2⟩ (fun hHeld => ?_)
              clear hK K hHeld
              try simp only [Act.put, List.setIfInBounds_toArray, List.set_cons_zero, List.set_cons_succ]
              refine wpAnyH_switch (S' := fun w' => w'.cell? ⟨g, 0, none⟩ = some (.int .i64 tf) ∧ w'.cell? ⟨g, 1, none⟩ = some (.int .u64 tv) ∧ w'.cell? ⟨g, 2, none⟩ = some (.int .u64 tm) ∧ Sem.run Try.prog (convert 56 9 (.slice (some ⟨w4_.heap.size, 0, none⟩) 2 2)) w' = .ok (.string (str [UInt8.ofNat c2, UInt8.ofNat n2])) w') (fun _ h => ⟨h.1, h.2.1, h.2.2.1⟩) _ _ _ _ ?_
              refine wpAnyH_take (i := 11) (v := ?_) rfl (by kernel_rfl) (by kernel_rfl) (by kernel_rfl) (fun _ _ _ h => h) (Or.inl ⟨by rfl, ?_⟩) ⟨T5.c0, T5.c1, T5.c2, zz5⟩ ?_
              rotate_left
              · (intro w hSw; (try dsimp only at hSw); go_simp; try with_reducible rfl)
              try simp only [Act.put, List.setIfInBounds_toArray, List.set_cons_zero, List.set_cons_succ]
              refine wpAnyH_take (i := 12) (v := ?_) rfl (by kernel_rfl) (by kernel_rfl) (by kernel_rfl) (fun _ _ _ h => h) (Or.inl ⟨by rfl, ?_⟩) ⟨T5.c0, T5.c1, T5.c2, zz5⟩ ?_
              rotate_left
              · (intro w hSw; (try dsimp only at hSw); go_simp; try with_reducible rfl)
              try simp only [Act.put, List.setIfInBounds_toArray, List.set_cons_zero, List.set_cons_succ]
              refine wpAnyH_take (i := 17) (v := ?_) rfl (by kernel_rfl) (by kernel_rfl) (by kernel_rfl) (fun _ _ _ h => h) (Or.inl ⟨by rfl, ?_⟩) ⟨T5.c0, T5.c1, T5.c2, zz5⟩ ?_
              rotate_left
              · (intro w hSw; (try dsimp only at hSw); go_simp; try with_reducible rfl)
              try simp only [Act.put, List.setIfInBounds_toArray, List.set_cons_zero, List.set_cons_succ]
              refine wpAnyH_take (i := 18) (v := ?_) rfl (by kernel_rfl) (by kernel_rfl) (by kernel_rfl) (fun _ _ _ h => h) (Or.inl ⟨by rfl, ?_⟩) ⟨T5.c0, T5.c1, T5.c2, zz5⟩ ?_
              rotate_left
              · (intro w hSw; (try dsimp only at hSw); go_simp; try with_reducible rfl)
              try simp only [Act.put, List.setIfInBounds_toArray, List.set_cons_zero, List.set_cons_succ]
              refine wpAnyH_done (by kernel_rfl) ?_ _
              refine NoPanic.normal ?_
              go_wp2_with fail
              go_roundw
              case rel => exact ⟨k + 1, hlt, by go_num, by rw [← HS.out, HT.out]; exact congrArg Value.string (fin_one _ _ _ _), Lib.hid T5.below⟩
              case measure => simp [intOf]; omega
            exact AllReadyH.nil
          exact AllReadyH.nil
        exact AllReadyH.nil
      · have eb : bodyB ⟨tf, tv, tm⟩ = beL (sizeF tf) tv.toNat ++ beL (sizeF tf) tm.toNat := by unfold bodyB; rw [if_neg hm]
        have ec : codeB p ⟨tf, tv, tm⟩ = 2 * codeF tf p + 1 := by unfold codeB; rw [if_neg hm]
        have HT : Hid (testB p ⟨tf, tv, tm⟩ = [128, 0] ++ [UInt8.ofNat (2 * codeF tf p + 1), UInt8.ofNat (2 * sizeF tf)] ++ (beL (sizeF tf) tv.toNat ++ beL (sizeF tf) tm.toNat)) := Lib.hid (by unfold testB; rw [eb, ec, beL_class, beL_one, beL_one, List.length_append, beL_length, beL_length, Nat.two_mul (sizeF tf)]; simp)
        clear eb ec
        have tml : (beL (sizeF tf) tv.toNat).length = sizeF tf := beL_length _ _
        have tml2 : (beL (sizeF tf) tm.toNat).length = sizeF tf := beL_length _ _
        obtain ⟨n2, hn2⟩ : ∃ m, m = 2 * sizeF tf := ⟨_, rfl⟩
        have hw4 : IntKind.u8.wrap (IntKind.i64.wrap (2 * ((sizeF tf : Nat) : Int))) = (n2 : Int) := by
          simp [IntKind.wrap, IntKind.bits, IntKind.signed]
          omega
        rw [show [UInt8.ofNat (2 * codeF tf p + 1), UInt8.ofNat (2 * sizeF tf)] = [UInt8.ofNat (2 * codeF tf p + 1), UInt8.ofNat n2] by rw [hn2]] at HT
        clear hn2
        have tmn : (tm == greatF tf) = false := beq_eq_false_iff_ne.mpr hm
        clear hm
        generalize greatF tf = gm at *
        generalize sizeF tf = n at *
        generalize codeF tf p = cf at *
        generalize beL n tv.toNat = bv at *
        generalize beL n tm.toNat = bm at *
        generalize testB p ⟨tf, tv, tm⟩ = tb at *
        haveI : Nonempty (Keep (TK w g ⟨tf, tv, tm⟩)) := ⟨⟨_, hT1.out⟩⟩
        have k0 : ∀ p : Keep (TK w g ⟨tf, tv, tm⟩), p.w.cell? ⟨g, 0, none⟩ = some (.int .i64 tf) := fun p => p.h.c0
        have k2 : ∀ p : Keep (TK w g ⟨tf, tv, tm⟩), p.w.cell? ⟨g, 2, none⟩ = some (.int .u64 tm) := fun p => p.h.c2
        go_upto_region 7 with fail
        refine wp_region_keep2 (Cl := (TK w g ⟨tf, tv, tm⟩)) (by kernel_rfl) (by kernel_rfl) hT1.out.drew ?_
        intro y hy
        clear hy
        repeat
          refine wpQ2_step (fun K hK => ?_)
          go_simp
          first
            | (refine hK _ ?_; clear hK K)
            | (apply Exists.intro
               refine ⟨fun _ => ?_, hK _ ?_⟩
               (exact Calls.keep (HAl.out _) (fun w' hb => TK.call (Keep.h _) hb))
               clear hK K)
        refine wpQ2_nil ?_
        clear k0 k2
        intro W7 K7
        have T7 := K7
        have T7d := T7.drew
        clear K7 hT1
        obtain ⟨c2, hc2⟩ : ∃ m, m = 2 * cf + 1 := ⟨_, rfl⟩
        have hw2 : IntKind.u8.wrap (IntKind.i64.wrap (IntKind.i64.wrap (2 * (cf : Int)) + 1)) = (c2 : Int) := by
          simp [IntKind.wrap, IntKind.bits, IntKind.signed]
          omega
        have hw5 : IntKind.i64.wrap (2 * (cf : Int)) = 2 * (cf : Int) := by
          simp [IntKind.wrap, IntKind.bits, IntKind.signed]
          omega
        have hw6 : IntKind.i64.wrap (2 * (cf : Int) + 1) = 2 * (cf : Int) + 1 := by
          simp [IntKind.wrap, IntKind.bits, IntKind.signed]
          omega
        have hw7 : IntKind.u8.wrap (2 * (cf : Int) + 1) = (c2 : Int) := by
          simp [IntKind.wrap, IntKind.bits, IntKind.signed]
          omega
        rw [← hc2] at HT
        clear hc2
        have hdl : done.length ≤ 180 := HL.out
        have hd1 : ¬ 9223372036854775807 < done.length + 2 := by omega
        have hd2 : ¬ 9223372036854775805 < done.length := by omega
        have hd3 : done.length + 2 ≤ 9223372036854775807 := by omega
        have hd4 : done.length ≤ 9223372036854775805 := by omega
        have hd5 : ¬ 9223372036854775807 < done.length + 4 := by omega
        have hd6 : ¬ 9223372036854775807 < done.length + 4 + n := by omega
        have hd7 : ¬ 9223372036854775803 < done.length := by omega
        have hd8 : ¬ 9223372036854775807 < done.length + 4 + n + n := by omega
        have HCk := Lib.hid (fun W (h : TK w g ⟨tf, tv, tm⟩ W) => Calls.tk h (HCt.out W h.below))
        have HPk := Lib.hid (fun W (h : TK w g ⟨tf, tv, tm⟩ W) => Calls.tk h (HPv.out W))
        have HPkz := Lib.hid (fun W g2 x y (h : TK w g ⟨tf, tv, tm⟩ W) h1 h2 h3 => Calls.tkZ (g2 := g2) (a := .int .u8 x) (b := .int .u8 y) h h1 h2 h3 (HPv.out W))
        have HMk := Lib.hid (fun W (h : TK w g ⟨tf, tv, tm⟩ W) => Calls.tk h (HPm.out W))
        have HMkz := Lib.hid (fun W g2 x y (h : TK w g ⟨tf, tv, tm⟩ W) h1 h2 h3 => Calls.tkZ (g2 := g2) (a := .int .u8 x) (b := .int .u8 y) h h1 h2 h3 (HPm.out W))
        clear HCt HPv HAl HPm
        go_upto_region 9 with fail
        refine wp_region_noPanic ?_
        refine wp_region_held (S := fun w' => w'.cell? ⟨g, 0, none⟩ = some (.int .i64 tf) ∧ w'.cell? ⟨g, 1, none⟩ = some (.int .u64 tv) ∧ w'.cell? ⟨g, 2, none⟩ = some (.int .u64 tm)) (by kernel_rfl) ?_
        change wpAnyH _ _ _ _ _ 26 #[false, false, false, false, false, false, false, false, false, false, false, false, false, false, false, false, false, false, false, false, false, false, false, false, false, false] _ (World.drew _)
        refine wpAnyH_take (i := 0) (v := ?_) rfl (by kernel_rfl) (by kernel_rfl) (by kernel_rfl) (fun _ _ _ h => h) (Or.inl ⟨by rfl, ?_⟩) ⟨T7d.c0, T7d.c1, T7d.c2⟩ ?_
        rotate_left
        · (intro w hSw; (try dsimp only at hSw); go_simp; try with_reducible rfl)
        try simp only [Act.put, List.setIfInBounds_toArray, List.set_cons_zero, List.set_cons_succ]
        refine wpAnyH_take (i := 1) (v := ?_) rfl (by kernel_rfl) (by kernel_rfl) (by kernel_rfl) (fun _ _ _ h => h) (Or.inl ⟨by rfl, ?_⟩) ⟨T7d.c0, T7d.c1, T7d.c2⟩ ?_
        rotate_left
        · (intro w hSw; (try dsimp only at hSw); go_simp; try with_reducible rfl)
        try simp only [Act.put, List.setIfInBounds_toArray, List.set_cons_zero, List.set_cons_succ]
        refine wpAnyH_take (i := 2) (v := ?_) rfl (by kernel_rfl) (by kernel_rfl) (by kernel_rfl) (fun _ _ _ h => h) (Or.inl ⟨by rfl, ?_⟩) ⟨T7d.c0, T7d.c1, T7d.c2⟩ ?_
        rotate_left
        · (intro w hSw; (try dsimp only at hSw); go_simp; try with_reducible rfl)
        try simp only [Act.put, List.setIfInBounds_toArray, List.set_cons_zero, List.set_cons_succ]
        refine wpAnyH_take (i := 3) (v := ?_) rfl (by kernel_rfl) (by kernel_rfl) (by kernel_rfl) (fun _ _ _ h => h) (Or.inl ⟨by rfl, ?_⟩) ⟨T7d.c0, T7d.c1, T7d.c2⟩ ?_
        rotate_left
        · (intro w hSw; (try dsimp only at hSw); go_simp; try with_reducible rfl)
        try simp only [Act.put, List.setIfInBounds_toArray, List.set_cons_zero, List.set_cons_succ]
        refine wpAnyH_take (i := 4) (v := ?_) rfl (by kernel_rfl) (by kernel_rfl) (by kernel_rfl) (fun _ _ _ h => h) (Or.inl ⟨by rfl, ?_⟩) ⟨T7d.c0, T7d.c1, T7d.c2⟩ ?_
        rotate_left
        · (intro w hSw; (try dsimp only at hSw); go_simp; try with_reducible rfl)
        try simp only [Act.put, List.setIfInBounds_toArray, List.set_cons_zero, List.set_cons_succ]
        refine wpAnyH_take (i := 9) (v := ?_) rfl (by kernel_rfl) (by kernel_rfl) (by kernel_rfl) (fun _ _ _ h => h) (Or.inl ⟨by rfl, ?_⟩) ⟨T7d.c0, T7d.c1, T7d.c2⟩ ?_
        rotate_left
        · (intro w hSw; (try dsimp only at hSw); go_simp; try with_reducible rfl)
        try simp only [Act.put, List.setIfInBounds_toArray, List.set_cons_zero, List.set_cons_succ]
        refine wpAnyH_take (i := 10) (v := ?_) rfl (by kernel_rfl) (by kernel_rfl) (by kernel_rfl) (fun _ _ _ h => h) (Or.inl ⟨by rfl, ?_⟩) ⟨T7d.c0, T7d.c1, T7d.c2⟩ ?_
        rotate_left
        · (intro w hSw; (try dsimp only at hSw); go_simp; try with_reducible rfl)
        try simp only [Act.put, List.setIfInBounds_toArray, List.set_cons_zero, List.set_cons_succ]
        refine wpAnyH_take (i := 11) (v := ?_) rfl (by kernel_rfl) (by kernel_rfl) (by kernel_rfl) (fun _ _ _ h => h) (Or.inl ⟨by rfl, ?_⟩) ⟨T7d.c0, T7d.c1, T7d.c2⟩ ?_
        rotate_left
        · (intro w hSw; (try dsimp only at hSw); go_simp; try with_reducible rfl)
        try simp only [Act.put, List.setIfInBounds_toArray, List.set_cons_zero, List.set_cons_succ]
        refine wpAnyH_take (i := 15) (v := ?_) rfl (by kernel_rfl) (by kernel_rfl) (by kernel_rfl) (fun _ _ _ h => h) (Or.inl ⟨by rfl, ?_⟩) ⟨T7d.c0, T7d.c1, T7d.c2⟩ ?_
        rotate_left
        · (intro w hSw; (try dsimp only at hSw); go_simp; try with_reducible rfl)
        try simp only [Act.put, List.setIfInBounds_toArray, List.set_cons_zero, List.set_cons_succ]
        refine wpAnyH_take (i := 16) (v := ?_) rfl (by kernel_rfl) (by kernel_rfl) (by kernel_rfl) (fun _ _ _ h => h) (Or.inl ⟨by rfl, ?_⟩) ⟨T7d.c0, T7d.c1, T7d.c2⟩ ?_
        rotate_left
        · (intro w hSw; (try dsimp only at hSw); go_simp; try with_reducible rfl)
        try simp only [Act.put, List.setIfInBounds_toArray, List.set_cons_zero, List.set_cons_succ]
        refine wpAnyH_take (i := 17) (v := ?_) rfl (by kernel_rfl) (by kernel_rfl) (by kernel_rfl) (fun _ _ _ h => h) (Or.inl ⟨by rfl, ?_⟩) ⟨T7d.c0, T7d.c1, T7d.c2⟩ ?_
        rotate_left
        · (intro w hSw; (try dsimp only at hSw); go_simp; try with_reducible rfl)
        try simp only [Act.put, List.setIfInBounds_toArray, List.set_cons_zero, List.set_cons_succ]
        refine wpAnyH_take (i := 20) (v := ?_) rfl (by kernel_rfl) (by kernel_rfl) (by kernel_rfl) (fun _ _ _ h => h) (Or.inl ⟨by rfl, ?_⟩) ⟨T7d.c0, T7d.c1, T7d.c2⟩ ?_
        rotate_left
        · (intro w hSw; (try dsimp only at hSw); go_simp; try with_reducible rfl)
        try simp only [Act.put, List.setIfInBounds_toArray, List.set_cons_zero, List.set_cons_succ]
        refine wpAnyH_take (i := 21) (v := ?_) rfl (by kernel_rfl) (by kernel_rfl) (by kernel_rfl) (fun _ _ _ h => h) (Or.inl ⟨by rfl, ?_⟩) ⟨T7d.c0, T7d.c1, T7d.c2⟩ ?_
        rotate_left
        · (intro w hSw; (try dsimp only at hSw); go_simp; try with_reducible rfl)
        try simp only [Act.put, List.setIfInBounds_toArray, List.set_cons_zero, List.set_cons_succ]
        refine wpAnyH_take (i := 22) (v := ?_) rfl (by kernel_rfl) (by kernel_rfl) (by kernel_rfl) (fun _ _ _ h => h) (Or.inl ⟨by rfl, ?_⟩) ⟨T7d.c0, T7d.c1, T7d.c2⟩ ?_
        rotate_left
        · (intro w hSw; (try dsimp only at hSw); go_simp; try with_reducible rfl)
        try simp only [Act.put, List.setIfInBounds_toArray, List.set_cons_zero, List.set_cons_succ]
        refine wpAnyH_ready (rs := [5]) (by kernel_rfl) (by simp) ?_
        refine AllReadyH.cons rfl (fun K hK => ?_) ?_
        · go_simp
          refine (HCk.out _ T7d).mono ?_
          rintro e w1_ ⟨rfl, T1⟩
          go_wp2_with fail
          refine hK.out _ _ ⟨T1.c0, T1.c1, T1.c2⟩ (fun hHeld => ?_)
          clear hK K hHeld
          try simp only [Act.put, List.setIfInBounds_toArray, List.set_cons_zero, List.set_cons_succ]
          refine wpAnyH_take (i := 6) (v := ?_) rfl (by kernel_rfl) (by kernel_rfl) (by kernel_rfl) (fun _ _ _ h => h) (Or.inl ⟨by rfl, ?_⟩) ⟨T1.c0, T1.c1, T1.c2⟩ ?_
          rotate_left
          · (intro w hSw; (try dsimp only at hSw); go_simp; try with_reducible rfl)
          try simp only [Act.put, List.setIfInBounds_toArray, List.set_cons_zero, List.set_cons_succ]
          refine wpAnyH_take (i := 7) (v := ?_) rfl (by kernel_rfl) (by kernel_rfl) (by kernel_rfl) (fun _ _ _ h => h) (Or.inl ⟨by rfl, ?_⟩) ⟨T1.c0, T1.c1, T1.c2⟩ ?_
          rotate_left
          · (intro w hSw; (try dsimp only at hSw); go_simp; try with_reducible rfl)
          try simp only [Act.put, List.setIfInBounds_toArray, List.set_cons_zero, List.set_cons_succ]
          refine wpAnyH_take (i := 8) (v := ?_) rfl (by kernel_rfl) (by kernel_rfl) (by kernel_rfl) (fun _ _ _ h => h) (Or.inl ⟨by rfl, ?_⟩) ⟨T1.c0, T1.c1, T1.c2⟩ ?_
          rotate_left
          · (intro w hSw; (try dsimp only at hSw); go_simp; try with_reducible rfl)
          try simp only [Act.put, List.setIfInBounds_toArray, List.set_cons_zero, List.set_cons_succ]
          refine wpAnyH_ready (rs := [12, 18]) (by kernel_rfl) (by simp) ?_
          refine AllReadyH.cons rfl (fun K hK => ?_) ?_
          · go_simp
            have T2 := T1.alloc (.cells #[.int .u8 c2, .int .u8 n2] 5)
            have zz2 := two_new w1_ c2 n2
            have z0_2 := two_c0 w1_ 5 (.int .u8 c2) (.int .u8 n2)
            have z1_2 := two_c1 w1_ 5 (.int .u8 c2) (.int .u8 n2)
            have zs2 := two_lt w1_ 5 (.int .u8 c2) (.int .u8 n2)
            refine hK.out _ _ ⟨T2.c0, T2.c1, T2.c2⟩ (fun hHeld => ?_)
            clear hK K hHeld
            try simp only [Act.put, List.setIfInBounds_toArray, List.set_cons_zero, List.set_cons_succ]
            refine wpAnyH_switch (S' := fun w' => w'.cell? ⟨g, 0, none⟩ = some (.int .i64 tf) ∧ w'.cell? ⟨g, 1, none⟩ = some (.int .u64 tv) ∧ w'.cell? ⟨g, 2, none⟩ = some (.int .u64 tm) ∧ Sem.run Try.prog (convert 56 9 (.slice (some ⟨w1_.heap.size, 0, none⟩) 2 2)) w' = .ok (.string (str [UInt8.ofNat c2, UInt8.ofNat n2])) w') (fun _ h => ⟨h.1, h.2.1, h.2.2.1⟩) _ _ _ _ ?_
            refine wpAnyH_take (i := 13) (v := ?_) rfl (by kernel_rfl) (by kernel_rfl) (by kernel_rfl) (fun _ _ _ h => h) (Or.inl ⟨by rfl, ?_⟩) ⟨T2.c0, T2.c1, T2.c2, zz2⟩ ?_
            rotate_left
            · (intro w hSw; (try dsimp only at hSw); go_simp; try with_reducible rfl)
            try simp only [Act.put, List.setIfInBounds_toArray, List.set_cons_zero, List.set_cons_succ]
            refine wpAnyH_take (i := 14) (v := ?_) rfl (by kernel_rfl) (by kernel_rfl) (by kernel_rfl) (fun _ _ _ h => h) (Or.inl ⟨by rfl, ?_⟩) ⟨T2.c0, T2.c1, T2.c2, zz2⟩ ?_
            rotate_left
            · (intro w hSw; (try dsimp only at hSw); go_simp; try with_reducible rfl)
            try simp only [Act.put, List.setIfInBounds_toArray, List.set_cons_zero, List.set_cons_succ]
            refine wpAnyH_ready (rs := [18]) (by kernel_rfl) (by simp) ?_
            refine AllReadyH.cons rfl (fun K hK => ?_) ?_
            · go_simp
              refine (HPkz.out _ _ _ _ T2 zs2 z0_2 z1_2).mono ?_
              rintro e w3_ ⟨rfl, T3, zs3, z0_3, z1_3⟩
              have zz3 := two_str _ _ c2 n2 z0_3 z1_3
              go_wp2_with fail
              refine hK.out _ _ ⟨T3.c0, T3.c1, T3.c2, zz3⟩ (fun hHeld => ?_)
              clear hK K hHeld
              try simp only [Act.put, List.setIfInBounds_toArray, List.set_cons_zero, List.set_cons_succ]
              refine wpAnyH_take (i := 19) (v := ?_) rfl (by kernel_rfl) (by kernel_rfl) (by kernel_rfl) (fun _ _ _ h => h) (Or.inl ⟨by rfl, ?_⟩) ⟨T3.c0, T3.c1, T3.c2, zz3⟩ ?_
              rotate_left
              · (intro w hSw; (try dsimp only at hSw); go_simp; try with_reducible rfl)
              try simp only [Act.put, List.setIfInBounds_toArray, List.set_cons_zero, List.set_cons_succ]
              refine wpAnyH_ready (rs := [23]) (by kernel_rfl) (by simp) ?_
              refine AllReadyH.cons rfl (fun K hK => ?_) ?_
              · go_simp
                refine (HMkz.out _ _ _ _ T3 zs3 z0_3 z1_3).mono ?_
                rintro e w4_ ⟨rfl, T4, zs4, z0_4, z1_4⟩
                have zz4 := two_str _ _ c2 n2 z0_4 z1_4
                go_wp2_with fail
                refine hK.out _ _ ⟨T4.c0, T4.c1, T4.c2, zz4⟩ (fun hHeld => ?_)
                clear hK K hHeld
                try simp only [Act.put, List.setIfInBounds_toArray, List.set_cons_zero, List.set_cons_succ]
                refine wpAnyH_take (i := 24) (v := ?_) rfl (by kernel_rfl) (by kernel_rfl) (by kernel_rfl) (fun _ _ _ h => h) (Or.inl ⟨by rfl, ?_⟩) ⟨T4.c0, T4.c1, T4.c2, zz4⟩ ?_
                rotate_left
                · (intro w hSw; (try dsimp only at hSw); go_simp; try with_reducible rfl)
                try simp only [Act.put, List.setIfInBounds_toArray, List.set_cons_zero, List.set_cons_succ]
                refine wpAnyH_take (i := 25) (v := ?_) rfl (by kernel_rfl) (by kernel_rfl) (by kernel_rfl) (fun _ _ _ h => h) (Or.inl ⟨by rfl, ?_⟩) ⟨T4.c0, T4.c1, T4.c2, zz4⟩ ?_
                rotate_left
                · (intro w hSw; (try dsimp only at hSw); go_simp; try with_reducible rfl)
                try simp only [Act.put, List.setIfInBounds_toArray, List.set_cons_zero, List.set_cons_succ]
                refine wpAnyH_done (by kernel_rfl) ?_ _
                refine NoPanic.normal ?_
                go_wp2_with fail
                go_roundw
                case rel => exact ⟨k + 1, hlt, by go_num, by rw [← HS.out, HT.out]; exact congrArg Value.string (fin_two _ _ _ _ _), Lib.hid T4.below⟩
                case measure => simp [intOf]; omega
              exact AllReadyH.nil
            exact AllReadyH.nil
          refine AllReadyH.cons rfl (fun K hK => ?_) ?_
          · go_simp
            refine (HPk.out _ T1).mono ?_
            rintro e w5_ ⟨rfl, T5⟩
            go_wp2_with fail
            refine hK.out _ _ ⟨T5.c0, T5.c1, T5.c2⟩ (fun hHeld => ?_)
            clear hK K hHeld
            try simp only [Act.put, List.setIfInBounds_toArray, List.set_cons_zero, List.set_cons_succ]
            refine wpAnyH_ready (rs := [12, 23]) (by kernel_rfl) (by simp) ?_
            refine AllReadyH.cons rfl (fun K hK => ?_) ?_
            · go_simp
              have T6 := T5.alloc (.cells #[.int .u8 c2, .int .u8 n2] 5)
              have zz6 := two_new w5_ c2 n2
              have z0_6 := two_c0 w5_ 5 (.int .u8 c2) (.int .u8 n2)
              have z1_6 := two_c1 w5_ 5 (.int .u8 c2) (.int .u8 n2)
              have zs6 := two_lt w5_ 5 (.int .u8 c2) (.int .u8 n2)
              refine hK.out _ _ ⟨T6.c0, T6.c1, T6.c2⟩ (fun hHeld => ?_)
              clear hK K hHeld
              try simp only [Act.put, List.setIfInBounds_toArray, List.set_cons_zero, List.set_cons_succ]
              refine wpAnyH_switch (S' := fun w' => w'.cell? ⟨g, 0, none⟩ = some (.int .i64 tf) ∧ w'.cell? ⟨g, 1, none⟩ = some (.int .u64 tv) ∧ w'.cell? ⟨g, 2, none⟩ = some (.int .u64 tm) ∧ Sem.run Try.prog (convert 56 9 (.slice (some ⟨w5_.heap.size, 0, none⟩) 2 2)) w' = .ok (.string (str [UInt8.ofNat c2, UInt8.ofNat n2])) w') (fun _ h => ⟨h.1, h.2.1, h.2.2.1⟩) _ _ _ _ ?_
              refine wpAnyH_take (i := 13) (v := ?_) rfl (by kernel_rfl) (by kernel_rfl) (by kernel_rfl) (fun _ _ _ h => h) (Or.inl ⟨by rfl, ?_⟩) ⟨T6.c0, T6.c1, T6.c2, zz6⟩ ?_
              rotate_left
              · (intro w hSw; (try dsimp only at hSw); go_simp; try with_reducible rfl)
              try simp only [Act.put, List.setIfInBounds_toArray, List.set_cons_zero, List.set_cons_succ]
              refine wpAnyH_take (i := 14) (v := ?_) rfl (by kernel_rfl) (by kernel_rfl) (by kernel_rfl) (fun _ _ _ h => h) (Or.inl ⟨by rfl, ?_⟩) ⟨T6.c0, T6.c1, T6.c2, zz6⟩ ?_
              rotate_left
              · (intro w hSw; (try dsimp only at hSw); go_simp; try with_reducible rfl)
              try simp only [Act.put, List.setIfInBounds_toArray, List.set_cons_zero, List.set_cons_succ]
              refine wpAnyH_take (i := 19) (v := ?_) rfl (by kernel_rfl) (by kernel_rfl) (by kernel_rfl) (fun _ _ _ h => h) (Or.inl ⟨by rfl, ?_⟩) ⟨T6.c0, T6.c1, T6.c2, zz6⟩ ?_
              rotate_left
              · (intro w hSw; (try dsimp only at hSw); go_simp; try with_reducible rfl)
              try simp only [Act.put, List.setIfInBounds_toArray, List.set_cons_zero, List.set_cons_succ]
              refine wpAnyH_ready (rs := [23]) (by kernel_rfl) (by simp) ?_
              refine AllReadyH.cons rfl (fun K hK => ?_) ?_
              · go_simp
                refine (HMkz.out _ _ _ _ T6 zs6 z0_6 z1_6).mono ?_
                rintro e w7_ ⟨rfl, T7, zs7, z0_7, z1_7⟩
                have zz7 := two_str _ _ c2 n2 z0_7 z1_7
                go_wp2_with fail
                refine hK.out _ _ ⟨T7.c0, T7.c1, T7.c2, zz7⟩ (fun hHeld => ?_)
                clear hK K hHeld
                try simp only [Act.put, List.setIfInBounds_toArray, List.set_cons_zero, List.set_cons_succ]
                refine wpAnyH_take (i := 24) (v := ?_) rfl (by kernel_rfl) (by kernel_rfl) (by kernel_rfl) (fun _ _ _ h => h) (Or.inl ⟨by rfl, ?_⟩) ⟨T7.c0, T7.c1, T7.c2, zz7⟩ ?_
                rotate_left
                · (intro w hSw; (try dsimp only at hSw); go_simp; try with_reducible rfl)
                try simp only [Act.put, List.setIfInBounds_toArray, List.set_cons_zero, List.set_cons_succ]
                refine wpAnyH_take (i := 25) (v := ?_) rfl (by kernel_rfl) (by kernel_rfl) (by kernel_rfl) (fun _ _ _ h => h) (Or.inl ⟨by rfl, ?_⟩) ⟨T7.c0, T7.c1, T7.c2, zz7⟩ ?_
                rotate_left
                · (intro w hSw; (try dsimp only at hSw); go_simp; try with_reducible rfl)
                try simp only [Act.put, List.setIfInBounds_toArray, List.set_cons_zero, List.set_cons_succ]
                refine wpAnyH_done (by kernel_rfl) ?_ _
                refine NoPanic.normal ?_
                go_wp2_with fail
                go_roundw
                case rel => exact ⟨k + 1, hlt, by go_num, by rw [← HS.out, HT.out]; exact congrArg Value.string (fin_two _ _ _ _ _), Lib.hid T7.below⟩
                case measure => simp [intOf]; omega
              exact AllReadyH.nil
            refine AllReadyH.cons rfl (fun K hK => ?_) ?_
            · go_simp
              refine (HMk.out _ T5).mono ?_
              rintro e w8_ ⟨rfl, T8⟩
              go_wp2_with fail
              refine hK.out _ _ ⟨T8.c0, T8.c1, T8.c2⟩ (fun hHeld => ?_)
              clear hK K hHeld
              try simp only [Act.put, List.setIfInBounds_toArray, List.set_cons_zero, List.set_cons_succ]
              refine wpAnyH_ready (rs := [12]) (by kernel_rfl) (by simp) ?_
              refine AllReadyH.cons rfl (fun K hK => ?_) ?_
              · go_simp
                have T9 := T8.alloc (.cells #[.int .u8 c2, .int .u8 n2] 5)
                have zz9 := two_new w8_ c2 n2
                have z0_9 := two_c0 w8_ 5 (.int .u8 c2) (.int .u8 n2)
                have z1_9 := two_c1 w8_ 5 (.int .u8 c2) (.int .u8 n2)
                have zs9 := two_lt w8_ 5 (.int .u8 c2) (.int .u8 n2)
                refine hK.out _ _ ⟨T9.c0, T9.c1, T9.c2⟩ (fun hHeld => ?_)
                clear hK K hHeld
                try simp only [Act.put, List.setIfInBounds_toArray, List.set_cons_zero, List.set_cons_succ]
                refine wpAnyH_switch (S' := fun w' => w'.cell? ⟨g, 0, none⟩ = some (.int .i64 tf) ∧ w'.cell? ⟨g, 1, none⟩ = some (.int .u64 tv) ∧ w'.cell? ⟨g, 2, none⟩ = some (.int .u64 tm) ∧ Sem.run Try.prog (convert 56 9 (.slice (some ⟨w8_.heap.size, 0, none⟩) 2 2)) w' = .ok (.string (str [UInt8.ofNat c2, UInt8.ofNat n2])) w') (fun _ h => ⟨h.1, h.2.1, h.2.2.1⟩) _ _ _ _ ?_
                refine wpAnyH_take (i := 13) (v := ?_) rfl (by kernel_rfl) (by kernel_rfl) (by kernel_rfl) (fun _ _ _ h => h) (Or.inl ⟨by rfl, ?_⟩) ⟨T9.c0, T9.c1, T9.c2, zz9⟩ ?_
                rotate_left
                · (intro w hSw; (try dsimp only at hSw); go_simp; try with_reducible rfl)
                try simp only [Act.put, List.setIfInBounds_toArray, List.set_cons_zero, List.set_cons_succ]
                refine wpAnyH_take (i := 14) (v := ?_) rfl (by kernel_rfl) (by kernel_rfl) (by kernel_rfl) (fun _ _ _ h => h) (Or.inl ⟨by rfl, ?_⟩) ⟨T9.c0, T9.c1, T9.c2, zz9⟩ ?_
                rotate_left
                · (intro w hSw; (try dsimp only at hSw); go_simp; try with_reducible rfl)
                try simp only [Act.put, List.setIfInBounds_toArray, List.set_cons_zero, List.set_cons_succ]
                refine wpAnyH_take (i := 19) (v := ?_) rfl (by kernel_rfl) (by kernel_rfl) (by kernel_rfl) (fun _ _ _ h => h) (Or.inl ⟨by rfl, ?_⟩) ⟨T9.c0, T9.c1, T9.c2, zz9⟩ ?_
                rotate_left
                · (intro w hSw; (try dsimp only at hSw); go_simp; try with_reducible rfl)
                try simp only [Act.put, List.setIfInBounds_toArray, List.set_cons_zero, List.set_cons_succ]
                refine wpAnyH_take (i := 24) (v := ?_) rfl (by kernel_rfl) (by kernel_rfl) (by kernel_rfl) (fun _ _ _ h => h) (Or.inl ⟨by rfl, ?_⟩) ⟨T9.c0, T9.c1, T9.c2, zz9⟩ ?_
                rotate_left
                · (intro w hSw; (try dsimp only at hSw); go_simp; try with_reducible rfl)
                try simp only [Act.put, List.setIfInBounds_toArray, List.set_cons_zero, List.set_cons_succ]
                refine wpAnyH_take (i := 25) (v := ?_) rfl (by kernel_rfl) (by kernel_rfl) (by kernel_rfl) (fun _ _ _ h => h) (Or.inl ⟨by rfl, ?_⟩) ⟨T9.c0, T9.c1, T9.c2, zz9⟩ ?_
                rotate_left
                · (intro w hSw; (try dsimp only at hSw); go_simp; try with_reducible rfl)
                try simp only [Act.put, List.setIfInBounds_toArray, List.set_cons_zero, List.set_cons_succ]
                refine wpAnyH_done (by kernel_rfl) ?_ _
                refine NoPanic.normal ?_
                go_wp2_with fail
                go_roundw
                case rel => exact ⟨k + 1, hlt, by go_num, by rw [← HS.out, HT.out]; exact congrArg Value.string (fin_two _ _ _ _ _), Lib.hid T9.below⟩
                case measure => simp [intOf]; omega
              exact AllReadyH.nil
            exact AllReadyH.nil
          exact AllReadyH.nil
        exact AllReadyH.nil
    · have d1 : decide (k < l.length) = false := by simpa using hlt
      obtain rfl : k = l.length := by omega
      rw [List.take_length]
      have HIL := Lib.hid (innerB_len (p := p) l HF.out)
      clear HC HF HCo
      generalize innerB p l = inn at *
      obtain ⟨ni, hni⟩ : ∃ m, m = inn.length := ⟨_, rfl⟩
      have hnb : ni ≤ 180 := by have := HIL.out; omega
      obtain ⟨n4, hn4⟩ : ∃ m, m = 4 + ni := ⟨_, rfl⟩
      have hw4 : IntKind.i64.wrap (4 + (ni : Int)) = (n4 : Int) := by
        simp [IntKind.wrap, IntKind.bits, IntKind.signed]
        omega
      have hwu : IntKind.u64.wrap (n4 : Int) = (n4 : Int) := by
        simp [IntKind.wrap, IntKind.bits, IntKind.signed]
        omega
      have HP4 := Lib.hid (fun W => (r3Put_any W (n4 : Int) 2 (by omega) (by decide) (by decide) : Calls _ _ _ _ fun x w' => x = .returned (.string (str (beL 2 n4))) ∧ _))
      have X2 : ({ data := #[0, 1] } : ByteArray) ++ str (beL 2 n4) ++ str inn = str (headB inn) := by
        rw [head_str]
        unfold headB
        rw [beL_head, hn4, hni]
      have zhd : (headB inn).length = n4 := by
        unfold headB
        simp only [List.length_append, beL_length]
        omega
      have zni : inn.length = ni := hni.symm
      have zbl := beL_length
      have zle : n4 ≤ 184 := by omega
      clear hni HIL hn4
      generalize headB inn = hd at *
      go_wp2_with fail
      refine (HP4.out _).mono ?_
      rintro e w4 ⟨rfl, b'⟩
      have HB4 := Lib.hid (hR.out.trans (b'.mono hR.out.size))
      clear b' hR HP4
      obtain ⟨cz, hcz⟩ : ∃ m, m = (8 - n4 % 8) % 8 := ⟨_, rfl⟩
      rw [zhd, ← hcz] at HE
      have HZ := Lib.hid hcz
      have HHD := Lib.hid zhd
      have HLE := Lib.hid zle
      clear hcz zhd
      go_wp2_with fail
      go_loopw [3] (fun sv wr => ∃ j : Nat, j ≤ cz ∧ sv = .string (str (hd ++ List.replicate j 0)) ∧ Hid (Below w.heap.size w wr)) (fun sv _ => 200 - svLen sv)
      case atStart => exact ⟨0, Nat.zero_le _, by simp, HB4⟩
      case round =>
        obtain ⟨j, hj, rfl, hR⟩ := hrel
        obtain ⟨m, hm⟩ : ∃ m, m = n4 + j := ⟨_, rfl⟩
        have hcur : (hd ++ List.replicate j 0).length = m := by rw [List.length_append, HHD.out, List.length_replicate, hm]
        have hmle : m ≤ 191 := by have h1 := HZ.out; have h2 := HLE.out; omega
        have HNX : Hid (hd ++ List.replicate j 0 ++ [0] = hd ++ List.replicate (j + 1) 0) := Lib.hid (by rw [List.replicate_succ', List.append_assoc])
        by_cases hz : m % 8 = 0
        · have hjc : j = cz := by have := HZ.out; omega
          have HCUR : Hid (hd ++ List.replicate j 0 = encB l) := Lib.hid (by rw [hjc]; exact HE.out.symm)
          have t1 : (m : Int) % 8 = 0 := by omega
          have t2 : ((m : Int) % 8 == 0) = true := by simp; omega
          have t3 : ((m : Int) % 8 != 0) = false := by simp; omega
          clear HNX hjc hz hm
          generalize hd ++ List.replicate j 0 = cur at *
          go_wp2
          go_ret
          exact ⟨by rw [← HCUR.out]; rfl, hR.out⟩
        · have hjc : j + 1 ≤ cz := by have := HZ.out; omega
          have t1 : ¬ ((m : Int) % 8 = 0) := by omega
          have t2 : ((m : Int) % 8 == 0) = false := by simp; omega
          have t3 : ((m : Int) % 8 != 0) = true := by simp; omega
          have X3 := pad_str (hd ++ List.replicate j 0)
          rw [HNX.out] at X3
          have HCL2 : Hid ((hd ++ List.replicate (j + 1) 0).length = m + 1) := Lib.hid (by rw [List.length_append, HHD.out, List.length_replicate]; omega)
          have HSM : Hid ((str (hd ++ List.replicate j 0)).size = m) := Lib.hid (by rw [str_size]; exact hcur)
          have HSM2 : Hid ((str (hd ++ List.replicate (j + 1) 0)).size = m + 1) := Lib.hid (by rw [str_size]; exact HCL2.out)
          clear HNX hz hm
          generalize hd ++ List.replicate j 0 = cur at *
          go_wp2_with fail
          go_roundw
          case rel => exact ⟨j + 1, hjc, rfl, hR⟩
          case measure =>
            show 200 - (str (hd ++ List.replicate (j + 1) 0)).size < 200 - (str cur).size
            rw [HSM.out, HSM2.out]
            omega
end Go.Proofs.Ytaaadbmhcfjooaa
