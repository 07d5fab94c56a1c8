/- droverref06.bytes, of the kind that sets a field. -/
import Derived.Test.YtdjhbahiiabimaaRefQ
namespace Go.Proofs.Ytdjhbahiiabimaa
open Go.RowKit
set_option linter.unusedVariables false
set_option linter.unusedSimpArgs false
attribute [local go_sem] beL_length

section
variable {P : Program} {ops : Array Oper} {Q : Exit → Act → World → Prop} {md : Region.Mode}
/-- In a region in which every operation keeps S, more may be kept from here on. -/
theorem wpG_switch {S S' : World → Prop} {n : Nat} (hn : ops.size ≤ n) (hSS : ∀ w, S' w → S w) : ∀ (fuel : Nat) (listed : Array Bool) (a : Act) (w : World), S' w → wpG P md ops Q (keepTo n S') fuel listed a w → wpG P md ops Q (keepTo n S) fuel listed a w
  | 0, _, _, _, _, h => h
  | fuel + 1, _, _, _, hS, h => ⟨h.1, fun i hi => wpOp_mono (fun a' w' h' => by
      have hin : i < n := by
        obtain ⟨_, o, ho, _⟩ := mem_ready.1 hi
        exact Nat.lt_of_lt_of_le (Array.getElem?_eq_some_iff.1 ho).1 hn
      have hS' : S' w' := h'.1 hin hS
      exact ⟨fun _ _ => hSS _ hS', wpG_switch hn hSS fuel _ a' w' hS' h'.2⟩) (h.2 i hi)⟩
end
theorem lay6 (a b : List UInt8) : (⟨#[0, 25, 0, 16, 128, 0]⟩ : ByteArray) ++ str a ++ str b = str ([0, 25, 0, 16, 128, 0] ++ (a ++ b)) := by
  rw [show (⟨#[0, 25, 0, 16, 128, 0]⟩ : ByteArray) = str [0, 25, 0, 16, 128, 0] from rfl]
  simp only [str_append, List.append_assoc]
theorem two_lit (W : World) (g : Nat) (a b : UInt8) (ha : W.cell? ⟨g, 0, none⟩ = some (.int .u8 a.toNat)) (hb : W.cell? ⟨g, 1, none⟩ = some (.int .u8 b.toNat)) :
    (convert 43 9 (.slice (some ⟨g, 0, none⟩) 2 2)).run Try.prog W = .ok (.string (str [a, b])) W := by
  have e : str [a, b] = strOfNums [(a.toNat : Int), (b.toNat : Int)] := by
    unfold str strOfNums
    simp
  rw [e]
  refine run_convert_bytes_arg (P := Try.prog) W 43 5 Try.underlying43 Try.underlying5 g 0 2 2 [(a.toNat : Int), (b.toNat : Int)] rfl (fun i hi => ?_) 9 Try.underlying9
  match i, hi with
  | 0, _ => exact ha
  | 1, _ => exact hb

set_option maxRecDepth 100000 in
set_option maxHeartbeats 8000000 in
theorem r6bytes5_n2 (w : World) (f c v : Int) (b : UInt8) (h0 : 0 ≤ v) (hcd : (codeF f).1 = c) (hsz : size6 f = 2) (hw0 : IntKind.i64.wrap (2 * c) = (b.toNat : Int)) (hw1 : IntKind.u8.wrap (b.toNat : Int) = (b.toNat : Int)) (HL : Hid (laidA 5 f v = [0, 25, 0, 16, 128, 0] ++ ([b, 2] ++ (beL 2 v.toNat ++ List.replicate 6 0)))) : Calls Try.prog 38 #[.agg #[.int .i64 5, .int .i64 f, .int .u64 v]] w fun x w' => x = .returned (.string (str (laidA 5 f v))) ∧ Below w.heap.size w w' := by
  have HP : Hid (∀ W : World, Calls Try.prog 24 #[.int .u64 v, .int .i64 2] W fun x w' => x = .returned (.string (str (beL 2 v.toNat))) ∧ Below W.heap.size W w') := Lib.hid (fun W => r3Put_any W v 2 h0 (by decide) (by decide))
  have HC : Hid (∀ W : World, Calls Try.prog 52 #[.int .i64 f] W fun x w' => x = .returned (.int .i64 c) ∧ W = w') := Lib.hid (fun W => by rw [← hcd]; exact r6code_any W f)
  have HZ : Hid (∀ W : World, Calls Try.prog 53 #[.int .i64 f] W fun x w' => x = .returned (.int .i64 2) ∧ W = w') := Lib.hid (fun W => by rw [← hsz]; exact r6size_any W f)
  have HZs : Hid (∀ W : World, (convert 43 9 (.slice (some ⟨W.heap.size, 0, none⟩) 6 6)).run Try.prog (W.alloc (.cells (zerosA 6) 5)) = .ok (.string (str (List.replicate 6 0))) (W.alloc (.cells (zerosA 6) 5))) := Lib.hid (zeros_str 6)
  have HM : Hid (∀ W : World, (Instr.makeSlice 43 (.int .i64 6) (.int .i64 6)).run Try.prog W = .ok (.slice (some ⟨W.heap.size, 0, none⟩) 6 6) (W.alloc (.cells (zerosA 6) 5))) := Lib.hid (fun W => put_make W 6 (by decide))
  have hl : (beL 2 v.toNat).length = 2 := beL_length _ _
  clear h0 hcd hsz
  generalize beL 2 v.toNat = P at *
  go_enter Try.func38, Try.ntmps38
  go_upto_region 1 with fail
  refine one_box_wp ?_
  intro W hb1 hbel hsz
  have K : Hid (KR w.heap.size w [(w.heap.size, 67, #[.int .i64 5, .int .i64 f, .int .u64 v])] W) := Lib.hid ((KR.start hbel hbel.size).add hb1)
  clear hb1 hbel hsz
  have c0 := (K.out.at 0 rfl).cell 0 _ rfl
  go_upto_region 10 with fail
  clear c0
  go_cut [3] from 23 (fun s3 wx => s3 = .string (str ([0, 25, 0, 16, 128, 0] ++ ([b, 2] ++ P))) ∧ Hid (Below w.heap.size w wx))
  case first =>
    refine wp_region_noPanic ?_
    refine wp_region_G 20 (KR w.heap.size w [(w.heap.size, 67, #[.int .i64 5, .int .i64 f, .int .u64 v])]) (by kernel_rfl) ?_
    change wpG _ _ _ _ _ 20 #[false, false, false, false, false, false, false, false, false, false, false, false, false, false, false, false, false, false, false, false] _ (World.drew _)
    replace K := Lib.hid K.out.drew
    refine wpG_pure (i := 0) (v := ?_) rfl (by kernel_rfl) (by kernel_rfl) (by kernel_rfl) (fun _ _ _ h => h) (Or.inl ⟨by rfl, ?_⟩) ?_
    rotate_left
    · (intro w_ hS; clear hS; go_simp; try with_reducible rfl)
    try simp only [List.getElem_toArray, List.getElem_cons_zero, List.getElem_cons_succ, Act.put, List.setIfInBounds_toArray, List.set_cons_zero, List.set_cons_succ]
    refine wpG_take (i := 1) (v := ?_) rfl (by kernel_rfl) (by kernel_rfl) (by kernel_rfl) (fun _ _ _ h => h) (Or.inl ⟨by rfl, ?_⟩) K.out ?_
    rotate_left
    · (intro w_ hS; have cq_ := (hS.at 0 rfl).cell 1 _ rfl; clear hS; go_simp; try with_reducible rfl)
    try simp only [List.getElem_toArray, List.getElem_cons_zero, List.getElem_cons_succ, Act.put, List.setIfInBounds_toArray, List.set_cons_zero, List.set_cons_succ]
    refine wpG_pure (i := 5) (v := ?_) rfl (by kernel_rfl) (by kernel_rfl) (by kernel_rfl) (fun _ _ _ h => h) (Or.inl ⟨by rfl, ?_⟩) ?_
    rotate_left
    · (intro w_ hS; clear hS; go_simp; try with_reducible rfl)
    try simp only [List.getElem_toArray, List.getElem_cons_zero, List.getElem_cons_succ, Act.put, List.setIfInBounds_toArray, List.set_cons_zero, List.set_cons_succ]
    refine wpG_take (i := 6) (v := ?_) rfl (by kernel_rfl) (by kernel_rfl) (by kernel_rfl) (fun _ _ _ h => h) (Or.inl ⟨by rfl, ?_⟩) K.out ?_
    rotate_left
    · (intro w_ hS; have cq_ := (hS.at 0 rfl).cell 1 _ rfl; clear hS; go_simp; try with_reducible rfl)
    try simp only [List.getElem_toArray, List.getElem_cons_zero, List.getElem_cons_succ, Act.put, List.setIfInBounds_toArray, List.set_cons_zero, List.set_cons_succ]
    refine wpG_pure (i := 12) (v := ?_) rfl (by kernel_rfl) (by kernel_rfl) (by kernel_rfl) (fun _ _ _ h => h) (Or.inl ⟨by rfl, ?_⟩) ?_
    rotate_left
    · (intro w_ hS; clear hS; go_simp; try with_reducible rfl)
    try simp only [List.getElem_toArray, List.getElem_cons_zero, List.getElem_cons_succ, Act.put, List.setIfInBounds_toArray, List.set_cons_zero, List.set_cons_succ]
    refine wpG_take (i := 13) (v := ?_) rfl (by kernel_rfl) (by kernel_rfl) (by kernel_rfl) (fun _ _ _ h => h) (Or.inl ⟨by rfl, ?_⟩) K.out ?_
    rotate_left
    · (intro w_ hS; have cq_ := (hS.at 0 rfl).cell 2 _ rfl; clear hS; go_simp; try with_reducible rfl)
    try simp only [List.getElem_toArray, List.getElem_cons_zero, List.getElem_cons_succ, Act.put, List.setIfInBounds_toArray, List.set_cons_zero, List.set_cons_succ]
    refine wpG_pure (i := 14) (v := ?_) rfl (by kernel_rfl) (by kernel_rfl) (by kernel_rfl) (fun _ _ _ h => h) (Or.inl ⟨by rfl, ?_⟩) ?_
    rotate_left
    · (intro w_ hS; clear hS; go_simp; try with_reducible rfl)
    try simp only [List.getElem_toArray, List.getElem_cons_zero, List.getElem_cons_succ, Act.put, List.setIfInBounds_toArray, List.set_cons_zero, List.set_cons_succ]
    refine wpG_take (i := 15) (v := ?_) rfl (by kernel_rfl) (by kernel_rfl) (by kernel_rfl) (fun _ _ _ h => h) (Or.inl ⟨by rfl, ?_⟩) K.out ?_
    rotate_left
    · (intro w_ hS; have cq_ := (hS.at 0 rfl).cell 1 _ rfl; clear hS; go_simp; try with_reducible rfl)
    try simp only [List.getElem_toArray, List.getElem_cons_zero, List.getElem_cons_succ, Act.put, List.setIfInBounds_toArray, List.set_cons_zero, List.set_cons_succ]
    refine wpG_ready (i := 2) rfl (by kernel_rfl) (fun K_ hK => ?_)
    go_simp
    refine (HC.out _).mono ?_
    rintro x w' ⟨rfl, rfl⟩
    replace K := Lib.hid (K.out)
    refine hK.out _ _ (fun h_ _ => K.out) ?_
    clear hK K_
    try simp only [List.getElem_toArray, List.getElem_cons_zero, List.getElem_cons_succ, Act.put, List.setIfInBounds_toArray, List.set_cons_zero, List.set_cons_succ]
    refine wpG_pure (i := 3) (v := ?_) rfl (by kernel_rfl) (by kernel_rfl) (by kernel_rfl) (fun _ _ _ h => h) (Or.inl ⟨by rfl, ?_⟩) ?_
    rotate_left
    · (intro w_ hS; clear hS; go_simp; try with_reducible rfl)
    try simp only [List.getElem_toArray, List.getElem_cons_zero, List.getElem_cons_succ, Act.put, List.setIfInBounds_toArray, List.set_cons_zero, List.set_cons_succ]
    refine wpG_pure (i := 4) (v := ?_) rfl (by kernel_rfl) (by kernel_rfl) (by kernel_rfl) (fun _ _ _ h => h) (Or.inl ⟨by rfl, ?_⟩) ?_
    rotate_left
    · (intro w_ hS; clear hS; go_simp; try with_reducible rfl)
    try simp only [List.getElem_toArray, List.getElem_cons_zero, List.getElem_cons_succ, Act.put, List.setIfInBounds_toArray, List.set_cons_zero, List.set_cons_succ]
    refine wpG_ready (i := 7) rfl (by kernel_rfl) (fun K_ hK => ?_)
    go_simp
    refine (HZ.out _).mono ?_
    rintro x w' ⟨rfl, rfl⟩
    replace K := Lib.hid (K.out)
    refine hK.out _ _ (fun h_ _ => K.out) ?_
    clear hK K_
    try simp only [List.getElem_toArray, List.getElem_cons_zero, List.getElem_cons_succ, Act.put, List.setIfInBounds_toArray, List.set_cons_zero, List.set_cons_succ]
    refine wpG_pure (i := 8) (v := ?_) rfl (by kernel_rfl) (by kernel_rfl) (by kernel_rfl) (fun _ _ _ h => h) (Or.inl ⟨by rfl, ?_⟩) ?_
    rotate_left
    · (intro w_ hS; clear hS; go_simp; try with_reducible rfl)
    try simp only [List.getElem_toArray, List.getElem_cons_zero, List.getElem_cons_succ, Act.put, List.setIfInBounds_toArray, List.set_cons_zero, List.set_cons_succ]
    refine wpG_two (i := 9) (j := 16) rfl rfl (by kernel_rfl) (fun K_ hK => ?_) (fun K_ hK => ?_)
    · go_simp
      replace K : Hid (KR w.heap.size w ((W.heap.size, 5, #[.int .u8 b.toNat, .int .u8 2]) :: [(w.heap.size, 67, #[.int .i64 5, .int .i64 f, .int .u64 v])]) _) := Lib.hid (K.out.box 5 #[.int .u8 b.toNat, .int .u8 2])
      refine hK.out _ _ (fun h_ _ => K.out.sub (fun x hx => List.mem_cons_of_mem _ hx)) ?_
      clear hK K_
      try simp only [List.getElem_toArray, List.getElem_cons_zero, List.getElem_cons_succ, Act.put, List.setIfInBounds_toArray, List.set_cons_zero, List.set_cons_succ]
      refine wpG_switch (S' := KR w.heap.size w _) (by decide) (fun W_ h_ => h_.sub (fun x hx => List.mem_cons_of_mem _ hx)) _ _ _ _ K.out ?_
      refine wpG_take (i := 10) (v := ?_) rfl (by kernel_rfl) (by kernel_rfl) (by kernel_rfl) (fun _ _ _ h => h) (Or.inl ⟨by rfl, ?_⟩) K.out ?_
      rotate_left
      · (intro w_ hS; have cq_ := two_lit _ _ b 2 ((hS.at 0 rfl).cell 0 _ rfl) ((hS.at 0 rfl).cell 1 _ rfl); clear hS; go_simp; try with_reducible rfl)
      try simp only [List.getElem_toArray, List.getElem_cons_zero, List.getElem_cons_succ, Act.put, List.setIfInBounds_toArray, List.set_cons_zero, List.set_cons_succ]
      refine wpG_pure (i := 11) (v := ?_) rfl (by kernel_rfl) (by kernel_rfl) (by kernel_rfl) (fun _ _ _ h => h) (Or.inl ⟨by rfl, ?_⟩) ?_
      rotate_left
      · (intro w_ hS; clear hS; go_simp; try with_reducible rfl)
      try simp only [List.getElem_toArray, List.getElem_cons_zero, List.getElem_cons_succ, Act.put, List.setIfInBounds_toArray, List.set_cons_zero, List.set_cons_succ]
      refine wpG_ready (i := 16) rfl (by kernel_rfl) (fun K_ hK => ?_)
      go_simp
      refine (HZ.out _).mono ?_
      rintro x w2 ⟨rfl, rfl⟩
      replace K := Lib.hid (K.out)
      refine hK.out _ _ (fun h_ _ => K.out) ?_
      clear hK K_
      try simp only [List.getElem_toArray, List.getElem_cons_zero, List.getElem_cons_succ, Act.put, List.setIfInBounds_toArray, List.set_cons_zero, List.set_cons_succ]
      refine wpG_ready (i := 17) rfl (by kernel_rfl) (fun K_ hK => ?_)
      go_simp
      refine (HP.out _).mono ?_
      rintro x w3 ⟨rfl, hb_⟩
      replace K := Lib.hid (K.out.call hb_)
      refine hK.out _ _ (fun h_ _ => K.out) ?_
      clear hK K_
      try simp only [List.getElem_toArray, List.getElem_cons_zero, List.getElem_cons_succ, Act.put, List.setIfInBounds_toArray, List.set_cons_zero, List.set_cons_succ]
      refine wpG_pure (i := 18) (v := ?_) rfl (by kernel_rfl) (by kernel_rfl) (by kernel_rfl) (fun _ _ _ h => h) (Or.inl ⟨by rfl, ?_⟩) ?_
      rotate_left
      · (intro w_ hS; clear hS; go_simp; try with_reducible rfl)
      try simp only [List.getElem_toArray, List.getElem_cons_zero, List.getElem_cons_succ, Act.put, List.setIfInBounds_toArray, List.set_cons_zero, List.set_cons_succ]
      refine wpG_ready (i := 19) rfl (by kernel_rfl) (fun K_ hK => ?_)
      go_simp
      refine hK.out _ _ (fun h_ _ => K.out) ?_
      clear hK K_
      try simp only [List.getElem_toArray, List.getElem_cons_zero, List.getElem_cons_succ, Act.put, List.setIfInBounds_toArray, List.set_cons_zero, List.set_cons_succ]
      refine wpG_done (by kernel_rfl) ?_ _
      refine NoPanic.normal ?_
      go_wp2_with fail
      have KB := Lib.hid K.out.below
      clear K
      go_meet
      case rel => exact ⟨congrArg Value.string (lay6 _ _), KB⟩
    · go_simp
      refine (HZ.out _).mono ?_
      rintro x w' ⟨rfl, rfl⟩
      refine hK.out _ _ (fun h_ _ => K.out) ?_
      clear hK K_
      try simp only [List.getElem_toArray, List.getElem_cons_zero, List.getElem_cons_succ, Act.put, List.setIfInBounds_toArray, List.set_cons_zero, List.set_cons_succ]
      refine wpG_two (i := 9) (j := 17) rfl rfl (by kernel_rfl) (fun K_ hK => ?_) (fun K_ hK => ?_)
      · go_simp
        replace K : Hid (KR w.heap.size w ((W.heap.size, 5, #[.int .u8 b.toNat, .int .u8 2]) :: [(w.heap.size, 67, #[.int .i64 5, .int .i64 f, .int .u64 v])]) _) := Lib.hid (K.out.box 5 #[.int .u8 b.toNat, .int .u8 2])
        refine hK.out _ _ (fun h_ _ => K.out.sub (fun x hx => List.mem_cons_of_mem _ hx)) ?_
        clear hK K_
        try simp only [List.getElem_toArray, List.getElem_cons_zero, List.getElem_cons_succ, Act.put, List.setIfInBounds_toArray, List.set_cons_zero, List.set_cons_succ]
        refine wpG_switch (S' := KR w.heap.size w _) (by decide) (fun W_ h_ => h_.sub (fun x hx => List.mem_cons_of_mem _ hx)) _ _ _ _ K.out ?_
        refine wpG_take (i := 10) (v := ?_) rfl (by kernel_rfl) (by kernel_rfl) (by kernel_rfl) (fun _ _ _ h => h) (Or.inl ⟨by rfl, ?_⟩) K.out ?_
        rotate_left
        · (intro w_ hS; have cq_ := two_lit _ _ b 2 ((hS.at 0 rfl).cell 0 _ rfl) ((hS.at 0 rfl).cell 1 _ rfl); clear hS; go_simp; try with_reducible rfl)
        try simp only [List.getElem_toArray, List.getElem_cons_zero, List.getElem_cons_succ, Act.put, List.setIfInBounds_toArray, List.set_cons_zero, List.set_cons_succ]
        refine wpG_pure (i := 11) (v := ?_) rfl (by kernel_rfl) (by kernel_rfl) (by kernel_rfl) (fun _ _ _ h => h) (Or.inl ⟨by rfl, ?_⟩) ?_
        rotate_left
        · (intro w_ hS; clear hS; go_simp; try with_reducible rfl)
        try simp only [List.getElem_toArray, List.getElem_cons_zero, List.getElem_cons_succ, Act.put, List.setIfInBounds_toArray, List.set_cons_zero, List.set_cons_succ]
        refine wpG_ready (i := 17) rfl (by kernel_rfl) (fun K_ hK => ?_)
        go_simp
        refine (HP.out _).mono ?_
        rintro x w3 ⟨rfl, hb_⟩
        replace K := Lib.hid (K.out.call hb_)
        refine hK.out _ _ (fun h_ _ => K.out) ?_
        clear hK K_
        try simp only [List.getElem_toArray, List.getElem_cons_zero, List.getElem_cons_succ, Act.put, List.setIfInBounds_toArray, List.set_cons_zero, List.set_cons_succ]
        refine wpG_pure (i := 18) (v := ?_) rfl (by kernel_rfl) (by kernel_rfl) (by kernel_rfl) (fun _ _ _ h => h) (Or.inl ⟨by rfl, ?_⟩) ?_
        rotate_left
        · (intro w_ hS; clear hS; go_simp; try with_reducible rfl)
        try simp only [List.getElem_toArray, List.getElem_cons_zero, List.getElem_cons_succ, Act.put, List.setIfInBounds_toArray, List.set_cons_zero, List.set_cons_succ]
        refine wpG_ready (i := 19) rfl (by kernel_rfl) (fun K_ hK => ?_)
        go_simp
        refine hK.out _ _ (fun h_ _ => K.out) ?_
        clear hK K_
        try simp only [List.getElem_toArray, List.getElem_cons_zero, List.getElem_cons_succ, Act.put, List.setIfInBounds_toArray, List.set_cons_zero, List.set_cons_succ]
        refine wpG_done (by kernel_rfl) ?_ _
        refine NoPanic.normal ?_
        go_wp2_with fail
        have KB := Lib.hid K.out.below
        clear K
        go_meet
        case rel => exact ⟨congrArg Value.string (lay6 _ _), KB⟩
      · go_simp
        refine (HP.out _).mono ?_
        rintro x w4 ⟨rfl, hb_⟩
        replace K := Lib.hid (K.out.call hb_)
        refine hK.out _ _ (fun h_ _ => K.out) ?_
        clear hK K_
        try simp only [List.getElem_toArray, List.getElem_cons_zero, List.getElem_cons_succ, Act.put, List.setIfInBounds_toArray, List.set_cons_zero, List.set_cons_succ]
        refine wpG_ready (i := 9) rfl (by kernel_rfl) (fun K_ hK => ?_)
        go_simp
        replace K : Hid (KR w.heap.size w ((w4.heap.size, 5, #[.int .u8 b.toNat, .int .u8 2]) :: [(w.heap.size, 67, #[.int .i64 5, .int .i64 f, .int .u64 v])]) _) := Lib.hid (K.out.box 5 #[.int .u8 b.toNat, .int .u8 2])
        refine hK.out _ _ (fun h_ _ => K.out.sub (fun x hx => List.mem_cons_of_mem _ hx)) ?_
        clear hK K_
        try simp only [List.getElem_toArray, List.getElem_cons_zero, List.getElem_cons_succ, Act.put, List.setIfInBounds_toArray, List.set_cons_zero, List.set_cons_succ]
        refine wpG_switch (S' := KR w.heap.size w _) (by decide) (fun W_ h_ => h_.sub (fun x hx => List.mem_cons_of_mem _ hx)) _ _ _ _ K.out ?_
        refine wpG_take (i := 10) (v := ?_) rfl (by kernel_rfl) (by kernel_rfl) (by kernel_rfl) (fun _ _ _ h => h) (Or.inl ⟨by rfl, ?_⟩) K.out ?_
        rotate_left
        · (intro w_ hS; have cq_ := two_lit _ _ b 2 ((hS.at 0 rfl).cell 0 _ rfl) ((hS.at 0 rfl).cell 1 _ rfl); clear hS; go_simp; try with_reducible rfl)
        try simp only [List.getElem_toArray, List.getElem_cons_zero, List.getElem_cons_succ, Act.put, List.setIfInBounds_toArray, List.set_cons_zero, List.set_cons_succ]
        refine wpG_pure (i := 11) (v := ?_) rfl (by kernel_rfl) (by kernel_rfl) (by kernel_rfl) (fun _ _ _ h => h) (Or.inl ⟨by rfl, ?_⟩) ?_
        rotate_left
        · (intro w_ hS; clear hS; go_simp; try with_reducible rfl)
        try simp only [List.getElem_toArray, List.getElem_cons_zero, List.getElem_cons_succ, Act.put, List.setIfInBounds_toArray, List.set_cons_zero, List.set_cons_succ]
        refine wpG_pure (i := 18) (v := ?_) rfl (by kernel_rfl) (by kernel_rfl) (by kernel_rfl) (fun _ _ _ h => h) (Or.inl ⟨by rfl, ?_⟩) ?_
        rotate_left
        · (intro w_ hS; clear hS; go_simp; try with_reducible rfl)
        try simp only [List.getElem_toArray, List.getElem_cons_zero, List.getElem_cons_succ, Act.put, List.setIfInBounds_toArray, List.set_cons_zero, List.set_cons_succ]
        refine wpG_ready (i := 19) rfl (by kernel_rfl) (fun K_ hK => ?_)
        go_simp
        refine hK.out _ _ (fun h_ _ => K.out) ?_
        clear hK K_
        try simp only [List.getElem_toArray, List.getElem_cons_zero, List.getElem_cons_succ, Act.put, List.setIfInBounds_toArray, List.set_cons_zero, List.set_cons_succ]
        refine wpG_done (by kernel_rfl) ?_ _
        refine NoPanic.normal ?_
        go_wp2_with fail
        have KB := Lib.hid K.out.below
        clear K
        go_meet
        case rel => exact ⟨congrArg Value.string (lay6 _ _), KB⟩
  case rest =>
    obtain ⟨rfl, HB⟩ := hcut
    clear K HC HZ HP
    have hm := HM.out wc
    have hz := HZs.out wc
    go_wp2_with fail
    go_ret
    exact ⟨by rw [HL.out]; rfl, HB.out.alloc HB.out.size _⟩

set_option maxRecDepth 100000 in
set_option maxHeartbeats 8000000 in
theorem r6bytes5_n4 (w : World) (f c v : Int) (b : UInt8) (h0 : 0 ≤ v) (hcd : (codeF f).1 = c) (hsz : size6 f = 4) (hw0 : IntKind.i64.wrap (2 * c) = (b.toNat : Int)) (hw1 : IntKind.u8.wrap (b.toNat : Int) = (b.toNat : Int)) (HL : Hid (laidA 5 f v = [0, 25, 0, 16, 128, 0] ++ ([b, 4] ++ (beL 4 v.toNat ++ List.replicate 4 0)))) : Calls Try.prog 38 #[.agg #[.int .i64 5, .int .i64 f, .int .u64 v]] w fun x w' => x = .returned (.string (str (laidA 5 f v))) ∧ Below w.heap.size w w' := by
  have HP : Hid (∀ W : World, Calls Try.prog 24 #[.int .u64 v, .int .i64 4] W fun x w' => x = .returned (.string (str (beL 4 v.toNat))) ∧ Below W.heap.size W w') := Lib.hid (fun W => r3Put_any W v 4 h0 (by decide) (by decide))
  have HC : Hid (∀ W : World, Calls Try.prog 52 #[.int .i64 f] W fun x w' => x = .returned (.int .i64 c) ∧ W = w') := Lib.hid (fun W => by rw [← hcd]; exact r6code_any W f)
  have HZ : Hid (∀ W : World, Calls Try.prog 53 #[.int .i64 f] W fun x w' => x = .returned (.int .i64 4) ∧ W = w') := Lib.hid (fun W => by rw [← hsz]; exact r6size_any W f)
  have HZs : Hid (∀ W : World, (convert 43 9 (.slice (some ⟨W.heap.size, 0, none⟩) 4 4)).run Try.prog (W.alloc (.cells (zerosA 4) 5)) = .ok (.string (str (List.replicate 4 0))) (W.alloc (.cells (zerosA 4) 5))) := Lib.hid (zeros_str 4)
  have HM : Hid (∀ W : World, (Instr.makeSlice 43 (.int .i64 4) (.int .i64 4)).run Try.prog W = .ok (.slice (some ⟨W.heap.size, 0, none⟩) 4 4) (W.alloc (.cells (zerosA 4) 5))) := Lib.hid (fun W => put_make W 4 (by decide))
  have hl : (beL 4 v.toNat).length = 4 := beL_length _ _
  clear h0 hcd hsz
  generalize beL 4 v.toNat = P at *
  go_enter Try.func38, Try.ntmps38
  go_upto_region 1 with fail
  refine one_box_wp ?_
  intro W hb1 hbel hsz
  have K : Hid (KR w.heap.size w [(w.heap.size, 67, #[.int .i64 5, .int .i64 f, .int .u64 v])] W) := Lib.hid ((KR.start hbel hbel.size).add hb1)
  clear hb1 hbel hsz
  have c0 := (K.out.at 0 rfl).cell 0 _ rfl
  go_upto_region 10 with fail
  clear c0
  go_cut [3] from 23 (fun s3 wx => s3 = .string (str ([0, 25, 0, 16, 128, 0] ++ ([b, 4] ++ P))) ∧ Hid (Below w.heap.size w wx))
  case first =>
    refine wp_region_noPanic ?_
    refine wp_region_G 20 (KR w.heap.size w [(w.heap.size, 67, #[.int .i64 5, .int .i64 f, .int .u64 v])]) (by kernel_rfl) ?_
    change wpG _ _ _ _ _ 20 #[false, false, false, false, false, false, false, false, false, false, false, false, false, false, false, false, false, false, false, false] _ (World.drew _)
    replace K := Lib.hid K.out.drew
    refine wpG_pure (i := 0) (v := ?_) rfl (by kernel_rfl) (by kernel_rfl) (by kernel_rfl) (fun _ _ _ h => h) (Or.inl ⟨by rfl, ?_⟩) ?_
    rotate_left
    · (intro w_ hS; clear hS; go_simp; try with_reducible rfl)
    try simp only [List.getElem_toArray, List.getElem_cons_zero, List.getElem_cons_succ, Act.put, List.setIfInBounds_toArray, List.set_cons_zero, List.set_cons_succ]
    refine wpG_take (i := 1) (v := ?_) rfl (by kernel_rfl) (by kernel_rfl) (by kernel_rfl) (fun _ _ _ h => h) (Or.inl ⟨by rfl, ?_⟩) K.out ?_
    rotate_left
    · (intro w_ hS; have cq_ := (hS.at 0 rfl).cell 1 _ rfl; clear hS; go_simp; try with_reducible rfl)
    try simp only [List.getElem_toArray, List.getElem_cons_zero, List.getElem_cons_succ, Act.put, List.setIfInBounds_toArray, List.set_cons_zero, List.set_cons_succ]
    refine wpG_pure (i := 5) (v := ?_) rfl (by kernel_rfl) (by kernel_rfl) (by kernel_rfl) (fun _ _ _ h => h) (Or.inl ⟨by rfl, ?_⟩) ?_
    rotate_left
    · (intro w_ hS; clear hS; go_simp; try with_reducible rfl)
    try simp only [List.getElem_toArray, List.getElem_cons_zero, List.getElem_cons_succ, Act.put, List.setIfInBounds_toArray, List.set_cons_zero, List.set_cons_succ]
    refine wpG_take (i := 6) (v := ?_) rfl (by kernel_rfl) (by kernel_rfl) (by kernel_rfl) (fun _ _ _ h => h) (Or.inl ⟨by rfl, ?_⟩) K.out ?_
    rotate_left
    · (intro w_ hS; have cq_ := (hS.at 0 rfl).cell 1 _ rfl; clear hS; go_simp; try with_reducible rfl)
    try simp only [List.getElem_toArray, List.getElem_cons_zero, List.getElem_cons_succ, Act.put, List.setIfInBounds_toArray, List.set_cons_zero, List.set_cons_succ]
    refine wpG_pure (i := 12) (v := ?_) rfl (by kernel_rfl) (by kernel_rfl) (by kernel_rfl) (fun _ _ _ h => h) (Or.inl ⟨by rfl, ?_⟩) ?_
    rotate_left
    · (intro w_ hS; clear hS; go_simp; try with_reducible rfl)
    try simp only [List.getElem_toArray, List.getElem_cons_zero, List.getElem_cons_succ, Act.put, List.setIfInBounds_toArray, List.set_cons_zero, List.set_cons_succ]
    refine wpG_take (i := 13) (v := ?_) rfl (by kernel_rfl) (by kernel_rfl) (by kernel_rfl) (fun _ _ _ h => h) (Or.inl ⟨by rfl, ?_⟩) K.out ?_
    rotate_left
    · (intro w_ hS; have cq_ := (hS.at 0 rfl).cell 2 _ rfl; clear hS; go_simp; try with_reducible rfl)
    try simp only [List.getElem_toArray, List.getElem_cons_zero, List.getElem_cons_succ, Act.put, List.setIfInBounds_toArray, List.set_cons_zero, List.set_cons_succ]
    refine wpG_pure (i := 14) (v := ?_) rfl (by kernel_rfl) (by kernel_rfl) (by kernel_rfl) (fun _ _ _ h => h) (Or.inl ⟨by rfl, ?_⟩) ?_
    rotate_left
    · (intro w_ hS; clear hS; go_simp; try with_reducible rfl)
    try simp only [List.getElem_toArray, List.getElem_cons_zero, List.getElem_cons_succ, Act.put, List.setIfInBounds_toArray, List.set_cons_zero, List.set_cons_succ]
    refine wpG_take (i := 15) (v := ?_) rfl (by kernel_rfl) (by kernel_rfl) (by kernel_rfl) (fun _ _ _ h => h) (Or.inl ⟨by rfl, ?_⟩) K.out ?_
    rotate_left
    · (intro w_ hS; have cq_ := (hS.at 0 rfl).cell 1 _ rfl; clear hS; go_simp; try with_reducible rfl)
    try simp only [List.getElem_toArray, List.getElem_cons_zero, List.getElem_cons_succ, Act.put, List.setIfInBounds_toArray, List.set_cons_zero, List.set_cons_succ]
    refine wpG_ready (i := 2) rfl (by kernel_rfl) (fun K_ hK => ?_)
    go_simp
    refine (HC.out _).mono ?_
    rintro x w' ⟨rfl, rfl⟩
    replace K := Lib.hid (K.out)
    refine hK.out _ _ (fun h_ _ => K.out) ?_
    clear hK K_
    try simp only [List.getElem_toArray, List.getElem_cons_zero, List.getElem_cons_succ, Act.put, List.setIfInBounds_toArray, List.set_cons_zero, List.set_cons_succ]
    refine wpG_pure (i := 3) (v := ?_) rfl (by kernel_rfl) (by kernel_rfl) (by kernel_rfl) (fun _ _ _ h => h) (Or.inl ⟨by rfl, ?_⟩) ?_
    rotate_left
    · (intro w_ hS; clear hS; go_simp; try with_reducible rfl)
    try simp only [List.getElem_toArray, List.getElem_cons_zero, List.getElem_cons_succ, Act.put, List.setIfInBounds_toArray, List.set_cons_zero, List.set_cons_succ]
    refine wpG_pure (i := 4) (v := ?_) rfl (by kernel_rfl) (by kernel_rfl) (by kernel_rfl) (fun _ _ _ h => h) (Or.inl ⟨by rfl, ?_⟩) ?_
    rotate_left
    · (intro w_ hS; clear hS; go_simp; try with_reducible rfl)
    try simp only [List.getElem_toArray, List.getElem_cons_zero, List.getElem_cons_succ, Act.put, List.setIfInBounds_toArray, List.set_cons_zero, List.set_cons_succ]
    refine wpG_ready (i := 7) rfl (by kernel_rfl) (fun K_ hK => ?_)
    go_simp
    refine (HZ.out _).mono ?_
    rintro x w' ⟨rfl, rfl⟩
    replace K := Lib.hid (K.out)
    refine hK.out _ _ (fun h_ _ => K.out) ?_
    clear hK K_
    try simp only [List.getElem_toArray, List.getElem_cons_zero, List.getElem_cons_succ, Act.put, List.setIfInBounds_toArray, List.set_cons_zero, List.set_cons_succ]
    refine wpG_pure (i := 8) (v := ?_) rfl (by kernel_rfl) (by kernel_rfl) (by kernel_rfl) (fun _ _ _ h => h) (Or.inl ⟨by rfl, ?_⟩) ?_
    rotate_left
    · (intro w_ hS; clear hS; go_simp; try with_reducible rfl)
    try simp only [List.getElem_toArray, List.getElem_cons_zero, List.getElem_cons_succ, Act.put, List.setIfInBounds_toArray, List.set_cons_zero, List.set_cons_succ]
    refine wpG_two (i := 9) (j := 16) rfl rfl (by kernel_rfl) (fun K_ hK => ?_) (fun K_ hK => ?_)
    · go_simp
      replace K : Hid (KR w.heap.size w ((W.heap.size, 5, #[.int .u8 b.toNat, .int .u8 4]) :: [(w.heap.size, 67, #[.int .i64 5, .int .i64 f, .int .u64 v])]) _) := Lib.hid (K.out.box 5 #[.int .u8 b.toNat, .int .u8 4])
      refine hK.out _ _ (fun h_ _ => K.out.sub (fun x hx => List.mem_cons_of_mem _ hx)) ?_
      clear hK K_
      try simp only [List.getElem_toArray, List.getElem_cons_zero, List.getElem_cons_succ, Act.put, List.setIfInBounds_toArray, List.set_cons_zero, List.set_cons_succ]
      refine wpG_switch (S' := KR w.heap.size w _) (by decide) (fun W_ h_ => h_.sub (fun x hx => List.mem_cons_of_mem _ hx)) _ _ _ _ K.out ?_
      refine wpG_take (i := 10) (v := ?_) rfl (by kernel_rfl) (by kernel_rfl) (by kernel_rfl) (fun _ _ _ h => h) (Or.inl ⟨by rfl, ?_⟩) K.out ?_
      rotate_left
      · (intro w_ hS; have cq_ := two_lit _ _ b 4 ((hS.at 0 rfl).cell 0 _ rfl) ((hS.at 0 rfl).cell 1 _ rfl); clear hS; go_simp; try with_reducible rfl)
      try simp only [List.getElem_toArray, List.getElem_cons_zero, List.getElem_cons_succ, Act.put, List.setIfInBounds_toArray, List.set_cons_zero, List.set_cons_succ]
      refine wpG_pure (i := 11) (v := ?_) rfl (by kernel_rfl) (by kernel_rfl) (by kernel_rfl) (fun _ _ _ h => h) (Or.inl ⟨by rfl, ?_⟩) ?_
      rotate_left
      · (intro w_ hS; clear hS; go_simp; try with_reducible rfl)
      try simp only [List.getElem_toArray, List.getElem_cons_zero, List.getElem_cons_succ, Act.put, List.setIfInBounds_toArray, List.set_cons_zero, List.set_cons_succ]
      refine wpG_ready (i := 16) rfl (by kernel_rfl) (fun K_ hK => ?_)
      go_simp
      refine (HZ.out _).mono ?_
      rintro x w2 ⟨rfl, rfl⟩
      replace K := Lib.hid (K.out)
      refine hK.out _ _ (fun h_ _ => K.out) ?_
      clear hK K_
      try simp only [List.getElem_toArray, List.getElem_cons_zero, List.getElem_cons_succ, Act.put, List.setIfInBounds_toArray, List.set_cons_zero, List.set_cons_succ]
      refine wpG_ready (i := 17) rfl (by kernel_rfl) (fun K_ hK => ?_)
      go_simp
      refine (HP.out _).mono ?_
      rintro x w3 ⟨rfl, hb_⟩
      replace K := Lib.hid (K.out.call hb_)
      refine hK.out _ _ (fun h_ _ => K.out) ?_
      clear hK K_
      try simp only [List.getElem_toArray, List.getElem_cons_zero, List.getElem_cons_succ, Act.put, List.setIfInBounds_toArray, List.set_cons_zero, List.set_cons_succ]
      refine wpG_pure (i := 18) (v := ?_) rfl (by kernel_rfl) (by kernel_rfl) (by kernel_rfl) (fun _ _ _ h => h) (Or.inl ⟨by rfl, ?_⟩) ?_
      rotate_left
      · (intro w_ hS; clear hS; go_simp; try with_reducible rfl)
      try simp only [List.getElem_toArray, List.getElem_cons_zero, List.getElem_cons_succ, Act.put, List.setIfInBounds_toArray, List.set_cons_zero, List.set_cons_succ]
      refine wpG_ready (i := 19) rfl (by kernel_rfl) (fun K_ hK => ?_)
      go_simp
      refine hK.out _ _ (fun h_ _ => K.out) ?_
      clear hK K_
      try simp only [List.getElem_toArray, List.getElem_cons_zero, List.getElem_cons_succ, Act.put, List.setIfInBounds_toArray, List.set_cons_zero, List.set_cons_succ]
      refine wpG_done (by kernel_rfl) ?_ _
      refine NoPanic.normal ?_
      go_wp2_with fail
      have KB := Lib.hid K.out.below
      clear K
      go_meet
      case rel => exact ⟨congrArg Value.string (lay6 _ _), KB⟩
    · go_simp
      refine (HZ.out _).mono ?_
      rintro x w' ⟨rfl, rfl⟩
      refine hK.out _ _ (fun h_ _ => K.out) ?_
      clear hK K_
      try simp only [List.getElem_toArray, List.getElem_cons_zero, List.getElem_cons_succ, Act.put, List.setIfInBounds_toArray, List.set_cons_zero, List.set_cons_succ]
      refine wpG_two (i := 9) (j := 17) rfl rfl (by kernel_rfl) (fun K_ hK => ?_) (fun K_ hK => ?_)
      · go_simp
        replace K : Hid (KR w.heap.size w ((W.heap.size, 5, #[.int .u8 b.toNat, .int .u8 4]) :: [(w.heap.size, 67, #[.int .i64 5, .int .i64 f, .int .u64 v])]) _) := Lib.hid (K.out.box 5 #[.int .u8 b.toNat, .int .u8 4])
        refine hK.out _ _ (fun h_ _ => K.out.sub (fun x hx => List.mem_cons_of_mem _ hx)) ?_
        clear hK K_
        try simp only [List.getElem_toArray, List.getElem_cons_zero, List.getElem_cons_succ, Act.put, List.setIfInBounds_toArray, List.set_cons_zero, List.set_cons_succ]
        refine wpG_switch (S' := KR w.heap.size w _) (by decide) (fun W_ h_ => h_.sub (fun x hx => List.mem_cons_of_mem _ hx)) _ _ _ _ K.out ?_
        refine wpG_take (i := 10) (v := ?_) rfl (by kernel_rfl) (by kernel_rfl) (by kernel_rfl) (fun _ _ _ h => h) (Or.inl ⟨by rfl, ?_⟩) K.out ?_
        rotate_left
        · (intro w_ hS; have cq_ := two_lit _ _ b 4 ((hS.at 0 rfl).cell 0 _ rfl) ((hS.at 0 rfl).cell 1 _ rfl); clear hS; go_simp; try with_reducible rfl)
        try simp only [List.getElem_toArray, List.getElem_cons_zero, List.getElem_cons_succ, Act.put, List.setIfInBounds_toArray, List.set_cons_zero, List.set_cons_succ]
        refine wpG_pure (i := 11) (v := ?_) rfl (by kernel_rfl) (by kernel_rfl) (by kernel_rfl) (fun _ _ _ h => h) (Or.inl ⟨by rfl, ?_⟩) ?_
        rotate_left
        · (intro w_ hS; clear hS; go_simp; try with_reducible rfl)
        try simp only [List.getElem_toArray, List.getElem_cons_zero, List.getElem_cons_succ, Act.put, List.setIfInBounds_toArray, List.set_cons_zero, List.set_cons_succ]
        refine wpG_ready (i := 17) rfl (by kernel_rfl) (fun K_ hK => ?_)
        go_simp
        refine (HP.out _).mono ?_
        rintro x w3 ⟨rfl, hb_⟩
        replace K := Lib.hid (K.out.call hb_)
        refine hK.out _ _ (fun h_ _ => K.out) ?_
        clear hK K_
        try simp only [List.getElem_toArray, List.getElem_cons_zero, List.getElem_cons_succ, Act.put, List.setIfInBounds_toArray, List.set_cons_zero, List.set_cons_succ]
        refine wpG_pure (i := 18) (v := ?_) rfl (by kernel_rfl) (by kernel_rfl) (by kernel_rfl) (fun _ _ _ h => h) (Or.inl ⟨by rfl, ?_⟩) ?_
        rotate_left
        · (intro w_ hS; clear hS; go_simp; try with_reducible rfl)
        try simp only [List.getElem_toArray, List.getElem_cons_zero, List.getElem_cons_succ, Act.put, List.setIfInBounds_toArray, List.set_cons_zero, List.set_cons_succ]
        refine wpG_ready (i := 19) rfl (by kernel_rfl) (fun K_ hK => ?_)
        go_simp
        refine hK.out _ _ (fun h_ _ => K.out) ?_
        clear hK K_
        try simp only [List.getElem_toArray, List.getElem_cons_zero, List.getElem_cons_succ, Act.put, List.setIfInBounds_toArray, List.set_cons_zero, List.set_cons_succ]
        refine wpG_done (by kernel_rfl) ?_ _
        refine NoPanic.normal ?_
        go_wp2_with fail
        have KB := Lib.hid K.out.below
        clear K
        go_meet
        case rel => exact ⟨congrArg Value.string (lay6 _ _), KB⟩
      · go_simp
        refine (HP.out _).mono ?_
        rintro x w4 ⟨rfl, hb_⟩
        replace K := Lib.hid (K.out.call hb_)
        refine hK.out _ _ (fun h_ _ => K.out) ?_
        clear hK K_
        try simp only [List.getElem_toArray, List.getElem_cons_zero, List.getElem_cons_succ, Act.put, List.setIfInBounds_toArray, List.set_cons_zero, List.set_cons_succ]
        refine wpG_ready (i := 9) rfl (by kernel_rfl) (fun K_ hK => ?_)
        go_simp
        replace K : Hid (KR w.heap.size w ((w4.heap.size, 5, #[.int .u8 b.toNat, .int .u8 4]) :: [(w.heap.size, 67, #[.int .i64 5, .int .i64 f, .int .u64 v])]) _) := Lib.hid (K.out.box 5 #[.int .u8 b.toNat, .int .u8 4])
        refine hK.out _ _ (fun h_ _ => K.out.sub (fun x hx => List.mem_cons_of_mem _ hx)) ?_
        clear hK K_
        try simp only [List.getElem_toArray, List.getElem_cons_zero, List.getElem_cons_succ, Act.put, List.setIfInBounds_toArray, List.set_cons_zero, List.set_cons_succ]
        refine wpG_switch (S' := KR w.heap.size w _) (by decide) (fun W_ h_ => h_.sub (fun x hx => List.mem_cons_of_mem _ hx)) _ _ _ _ K.out ?_
        refine wpG_take (i := 10) (v := ?_) rfl (by kernel_rfl) (by kernel_rfl) (by kernel_rfl) (fun _ _ _ h => h) (Or.inl ⟨by rfl, ?_⟩) K.out ?_
        rotate_left
        · (intro w_ hS; have cq_ := two_lit _ _ b 4 ((hS.at 0 rfl).cell 0 _ rfl) ((hS.at 0 rfl).cell 1 _ rfl); clear hS; go_simp; try with_reducible rfl)
        try simp only [List.getElem_toArray, List.getElem_cons_zero, List.getElem_cons_succ, Act.put, List.setIfInBounds_toArray, List.set_cons_zero, List.set_cons_succ]
        refine wpG_pure (i := 11) (v := ?_) rfl (by kernel_rfl) (by kernel_rfl) (by kernel_rfl) (fun _ _ _ h => h) (Or.inl ⟨by rfl, ?_⟩) ?_
        rotate_left
        · (intro w_ hS; clear hS; go_simp; try with_reducible rfl)
        try simp only [List.getElem_toArray, List.getElem_cons_zero, List.getElem_cons_succ, Act.put, List.setIfInBounds_toArray, List.set_cons_zero, List.set_cons_succ]
        refine wpG_pure (i := 18) (v := ?_) rfl (by kernel_rfl) (by kernel_rfl) (by kernel_rfl) (fun _ _ _ h => h) (Or.inl ⟨by rfl, ?_⟩) ?_
        rotate_left
        · (intro w_ hS; clear hS; go_simp; try with_reducible rfl)
        try simp only [List.getElem_toArray, List.getElem_cons_zero, List.getElem_cons_succ, Act.put, List.setIfInBounds_toArray, List.set_cons_zero, List.set_cons_succ]
        refine wpG_ready (i := 19) rfl (by kernel_rfl) (fun K_ hK => ?_)
        go_simp
        refine hK.out _ _ (fun h_ _ => K.out) ?_
        clear hK K_
        try simp only [List.getElem_toArray, List.getElem_cons_zero, List.getElem_cons_succ, Act.put, List.setIfInBounds_toArray, List.set_cons_zero, List.set_cons_succ]
        refine wpG_done (by kernel_rfl) ?_ _
        refine NoPanic.normal ?_
        go_wp2_with fail
        have KB := Lib.hid K.out.below
        clear K
        go_meet
        case rel => exact ⟨congrArg Value.string (lay6 _ _), KB⟩
  case rest =>
    obtain ⟨rfl, HB⟩ := hcut
    clear K HC HZ HP
    have hm := HM.out wc
    have hz := HZs.out wc
    go_wp2_with fail
    go_ret
    exact ⟨by rw [HL.out]; rfl, HB.out.alloc HB.out.size _⟩

theorem r6bytes_any (w : World) (k f v : Int) (h : rightA k f v = true) (h0 : 0 ≤ v) : Calls Try.prog 38 #[.agg #[.int .i64 k, .int .i64 f, .int .u64 v]] w fun x w' => x = .returned (.string (str (laidA k f v))) ∧ Below w.heap.size w w' := by
  rcases rightA_cases h with ⟨rfl, rfl, h1, h2⟩ | ⟨rfl, rfl, h1, h2⟩ | ⟨rfl, rfl, rfl⟩ | ⟨rfl, rfl, rfl⟩ | ⟨rfl, hf⟩
  · exact r6bytes4_any w 1 0 v (by omega) h0
  · exact r6bytes4_any w 2 0 v (by omega) h0
  · exact r6bytes4_any w 3 0 0 (by omega) h0
  · exact r6bytes4_any w 4 0 0 (by omega) h0
  · rcases hf with ⟨rfl, _⟩ | ⟨rfl | rfl, _⟩ | ⟨rfl | rfl, _⟩
    · exact r6bytes5_n2 w 3 6 v 12 h0 rfl rfl rfl rfl (Lib.hid rfl)
    · exact r6bytes5_n4 w 5 11 v 22 h0 rfl rfl rfl rfl (Lib.hid rfl)
    · exact r6bytes5_n4 w 6 12 v 24 h0 rfl rfl rfl rfl (Lib.hid rfl)
    · exact r6bytes5_n2 w 8 13 v 26 h0 rfl rfl rfl rfl (Lib.hid rfl)
    · exact r6bytes5_n2 w 9 14 v 28 h0 rfl rfl rfl rfl (Lib.hid rfl)
end Go.Proofs.Ytdjhbahiiabimaa
