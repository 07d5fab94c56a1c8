/- instr.with (printed by gen/insg.py). -/
import Derived.Test.YtdjhbahiiabimaaInsF
namespace Go.Proofs.Ytdjhbahiiabimaa
open Go.RowKit
set_option linter.unusedVariables false
set_option linter.unusedSimpArgs false

def joinP (p q : Part) : Part := ⟨p.pA ++ q.pA, p.pW ++ q.pW, p.cl || q.cl, Go.bits .or .u64 p.me q.me, Go.bits .or .u64 p.ma q.ma, max p.mt q.mt, max p.gt q.gt⟩
/-- Two slices of one's own that lie apart. -/
def Apart (v1 v2 : Value) : Prop := ∀ k, v1.ownBlock = some k → v2.ownBlock ≠ some k
def WithPost (w : World) (B : Nat) (tb pr : Int) (vT : Value) (r : Part) (x : Ending) (w' : World) : Prop :=
  ∃ vA vW, x = .returned (.agg (entC tb pr vT vA vW r.cl r.me r.ma r.mt r.gt)) ∧ OwnL w' B 67 3 encAction vA r.pA ∧ OwnL w' B 67 3 encAction vW r.pW ∧ Apart vA vW ∧ Below B w w' ∧ w.heap.size ≤ w'.heap.size
theorem max2g {P : Program} (w : World) (ts : Array TypeId) (t : TypeId) (x y : Int) : (Builtin.max_ ts t #[.int .i64 x, .int .i64 y]).run P w = .ok (.int .i64 (max x y)) w := by
  have : (if x < y then y else x) = max x y := by split <;> omega
  rw [← this]
  simp [Builtin.max_, Builtin.max2]
theorem KR.down {B C : Nat} {w W : World} {l : List (Nat × TypeId × Array Value)} (h : KR B w l W) (hc : C ≤ B) : KR C w l W := ⟨h.1, h.2.1.mono hc, Nat.le_trans hc h.2.2⟩
theorem KR.grownV {B : Nat} {w W W' : World} {l : List (Nat × TypeId × Array Value)} (h : KR B w l W) {row : Option Nat} (hg : W.grownBy W' row) (hne : ∀ x ∈ l, some x.1 ≠ row) (hr : ∀ k, row = some k → B ≤ k) : KR B w l W' :=
  ⟨fun x hx => (hg.block x.1 (h.1 x hx).lt (hne x hx)).trans (h.1 x hx), h.2.1.grown hg h.2.2 hr, Nat.le_trans h.2.2 hg.size⟩
theorem ne3 {n : Nat} {a b : TypeId × Array Value} : ∀ x ∈ [(n + 1, a), (n + 1 + 1, b)], x.1 ≠ n := by
  intro x hx
  simp only [List.mem_cons, List.not_mem_nil, or_false] at hx
  rcases hx with rfl | rfl <;> simp <;> omega
set_option maxRecDepth 100000 in
set_option maxHeartbeats 8000000 in
theorem with_any (w : World) (B : Nat) (hB : B ≤ w.heap.size) (tb pr tb' pr' : Int) (vT vT' vA vW vA' vW' : Value) (p q : Part)
    (hA : OwnL w B 67 3 encAction vA p.pA) (hW : OwnL w B 67 3 encAction vW p.pW) (hAp : Apart vA vW) (hA' : OwnL w B 67 3 encAction vA' q.pA) (hW' : OwnL w B 67 3 encAction vW' q.pW)
    (hvT : vT.oneCell' = true) (hAp' : Apart vA vW') (hl : p.pA.length + q.pA.length ≤ 1000000) (hl2 : p.pW.length + q.pW.length ≤ 1000000) :
    Calls Try.prog 29 #[.agg (entC tb pr vT vA vW p.cl p.me p.ma p.mt p.gt), .agg (entC tb' pr' vT' vA' vW' q.cl q.me q.ma q.mt q.gt)] w (WithPost w B tb pr vT (joinP p q)) := by
  have HP : Hid (joinP p q = _) := Lib.hid (by unfold joinP; rfl)
  generalize joinP p q = PQ at *
  obtain ⟨pA, pW, cl, me, mk, mt, gt⟩ := p
  obtain ⟨qA, qW, cl2, me2, mk2, mt2, gt2⟩ := q
  simp only at *
  have HA := Lib.hid hA
  have HW := Lib.hid hW
  have HA' := Lib.hid hA'
  have HW' := Lib.hid hW'
  have HAp := Lib.hid hAp
  have HAp' := Lib.hid hAp'
  have HB := Lib.hid hB
  obtain ⟨aa, ac, hva, _, _⟩ := hA.slice
  obtain ⟨wa, wcap, hvw, _, _⟩ := hW.slice
  obtain ⟨aa', ac', hva', _, _⟩ := hA'.slice
  obtain ⟨wa', wcap', hvw', _, _⟩ := hW'.slice
  have one : ∀ (a : Option Addr) (n c : Nat), (Value.slice a n c).oneCell' = true := fun _ _ _ => rfl
  have oA : vA.oneCell' = true := by rw [hva]; rfl
  have oW : vW.oneCell' = true := by rw [hvw]; rfl
  have HO := Lib.hid (And.intro oA oW)
  clear hA hW hA' hW' hAp hAp' hB hva hvw hva' hvw' oA oW one
  go_enter Try.func29, Try.ntmps29
  go_upto_region 1 with fail
  have K : Hid (KR w.heap.size w [(w.heap.size, 26, entC tb pr vT vA vW (cl) (me) (mk) (mt) (gt)), (w.heap.size + 1, 26, entC tb' pr' vT' vA' vW' cl2 me2 mk2 mt2 gt2), (w.heap.size + 1 + 1, 26, entC 0 0 (.slice none 0 0) (.slice none 0 0) (.slice none 0 0) false 0 0 0 0)] _) := Lib.hid ((((KR.start (Below.refl w.heap.size w) (Nat.le_refl _)).box 26 (entC tb pr vT vA vW cl me mk mt gt)).box 26 (entC tb' pr' vT' vA' vW' cl2 me2 mk2 mt2 gt2) |>.box 26 (entC 0 0 (.slice none 0 0) (.slice none 0 0) (.slice none 0 0) false 0 0 0 0)).sub (by
    simp only [World.size_alloc]
    intro x hx
    simp only [List.mem_cons, List.not_mem_nil, or_false] at hx ⊢
    rcases hx with rfl | rfl | rfl
    · exact .inr (.inr rfl)
    · exact .inr (.inl rfl)
    · exact .inl rfl))
  generalize World.alloc _ _ = W0 at *
  go_cut [] from 5 (fun wx => Hid (KR w.heap.size w [(w.heap.size, 26, entC tb pr vT vA vW (cl || cl2) (me) (mk) (mt) (gt)), (w.heap.size + 1, 26, entC tb' pr' vT' vA' vW' cl2 me2 mk2 mt2 gt2), (w.heap.size + 1 + 1, 26, entC 0 0 (.slice none 0 0) (.slice none 0 0) (.slice none 0 0) false 0 0 0 0)] wx))
  case first =>
    have c5 := (K.out.at 0 rfl).cell 5 _ rfl
    have f5 := (K.out.at 0 rfl).frozen 5
    have d5 := (K.out.at 1 rfl).cell 5 _ rfl
    cases cl
    · go_wp2_with fail
      go_meet
      case rel => exact Lib.hid (K.out.set0 5 (.bool cl2) (Nat.le_refl _) ne3)
    · go_wp2_with fail
      go_meet
      case rel => exact Lib.hid (K.out.set0 5 (.bool true) (Nat.le_refl _) ne3)
  case rest =>
    have K := hcut
    clear hcut
    generalize hcl : (cl || cl2) = clR at *
    go_upto_region 2 with fail
    go_cut [] from 12 (fun wx => Hid (KR w.heap.size w [(w.heap.size, 26, entC tb pr vT vA vW (clR) (me) (mk) (max mt mt2) (max gt gt2)), (w.heap.size + 1, 26, entC tb' pr' vT' vA' vW' cl2 me2 mk2 mt2 gt2), (w.heap.size + 1 + 1, 26, entC 0 0 (.slice none 0 0) (.slice none 0 0) (.slice none 0 0) false 0 0 0 0)] wx))
    case first =>
      have hmx1 := fun (W : World) (ts : Array TypeId) (t : TypeId) => max2g (P := Try.prog) W ts t mt mt2
      have hmx2 := fun (W : World) (ts : Array TypeId) (t : TypeId) => max2g (P := Try.prog) W ts t gt gt2
      refine wp_region_noPanic ?_
      refine wp_region_G 11 (KR w.heap.size w [(w.heap.size, 26, entC tb pr vT vA vW (clR) (me) (mk) (mt) (gt)), (w.heap.size + 1, 26, entC tb' pr' vT' vA' vW' cl2 me2 mk2 mt2 gt2), (w.heap.size + 1 + 1, 26, entC 0 0 (.slice none 0 0) (.slice none 0 0) (.slice none 0 0) false 0 0 0 0)]) (by kernel_rfl) ?_
      change wpG _ _ _ _ _ 14 #[false, false, false, false, false, false, false, false, false, false, false, false, false, false] _ (World.drew _)
      replace K := Lib.hid K.out.drew
      refine wpG_pure (i := 0) (v := ?_) rfl (by kernel_rfl) (by kernel_rfl) (by kernel_rfl) (fun _ _ _ h => h) (Or.inl ⟨by rfl, ?_⟩) ?_
      rotate_left
      · (intro w_ hS; clear hS; go_simp; try with_reducible rfl)
      try simp only [List.getElem_toArray, List.getElem_cons_zero, List.getElem_cons_succ, Act.put, List.setIfInBounds_toArray, List.set_cons_zero, List.set_cons_succ]
      refine wpG_take (i := 1) (v := ?_) rfl (by kernel_rfl) (by kernel_rfl) (by kernel_rfl) (fun _ _ _ h => h) (Or.inl ⟨by rfl, ?_⟩) K.out ?_
      rotate_left
      · (intro w_ hS; have cq_ := (hS.at 0 rfl).cell 8 _ rfl; clear hS; go_simp; try with_reducible rfl)
      try simp only [List.getElem_toArray, List.getElem_cons_zero, List.getElem_cons_succ, Act.put, List.setIfInBounds_toArray, List.set_cons_zero, List.set_cons_succ]
      refine wpG_pure (i := 2) (v := ?_) rfl (by kernel_rfl) (by kernel_rfl) (by kernel_rfl) (fun _ _ _ h => h) (Or.inl ⟨by rfl, ?_⟩) ?_
      rotate_left
      · (intro w_ hS; clear hS; go_simp; try with_reducible rfl)
      try simp only [List.getElem_toArray, List.getElem_cons_zero, List.getElem_cons_succ, Act.put, List.setIfInBounds_toArray, List.set_cons_zero, List.set_cons_succ]
      refine wpG_take (i := 3) (v := ?_) rfl (by kernel_rfl) (by kernel_rfl) (by kernel_rfl) (fun _ _ _ h => h) (Or.inl ⟨by rfl, ?_⟩) K.out ?_
      rotate_left
      · (intro w_ hS; have cq_ := (hS.at 1 rfl).cell 8 _ rfl; clear hS; go_simp; try with_reducible rfl)
      try simp only [List.getElem_toArray, List.getElem_cons_zero, List.getElem_cons_succ, Act.put, List.setIfInBounds_toArray, List.set_cons_zero, List.set_cons_succ]
      refine wpG_pure (i := 4) (v := ?_) rfl (by kernel_rfl) (by kernel_rfl) (by kernel_rfl) (fun _ _ _ h => h) (Or.inl ⟨by rfl, ?_⟩) ?_
      rotate_left
      · (intro w_ hS; clear hS; go_simp; try with_reducible rfl)
      try simp only [List.getElem_toArray, List.getElem_cons_zero, List.getElem_cons_succ, Act.put, List.setIfInBounds_toArray, List.set_cons_zero, List.set_cons_succ]
      refine wpG_pure (i := 5) (v := ?_) rfl (by kernel_rfl) (by kernel_rfl) (by kernel_rfl) (fun _ _ _ h => h) (Or.inl ⟨by rfl, ?_⟩) ?_
      rotate_left
      · (intro w_ hS; clear hS; go_simp; try with_reducible rfl)
      try simp only [List.getElem_toArray, List.getElem_cons_zero, List.getElem_cons_succ, Act.put, List.setIfInBounds_toArray, List.set_cons_zero, List.set_cons_succ]
      refine wpG_take (i := 6) (v := ?_) rfl (by kernel_rfl) (by kernel_rfl) (by kernel_rfl) (fun _ _ _ h => h) (Or.inl ⟨by rfl, ?_⟩) K.out ?_
      rotate_left
      · (intro w_ hS; have cq_ := (hS.at 0 rfl).cell 9 _ rfl; clear hS; go_simp; try with_reducible rfl)
      try simp only [List.getElem_toArray, List.getElem_cons_zero, List.getElem_cons_succ, Act.put, List.setIfInBounds_toArray, List.set_cons_zero, List.set_cons_succ]
      refine wpG_pure (i := 7) (v := ?_) rfl (by kernel_rfl) (by kernel_rfl) (by kernel_rfl) (fun _ _ _ h => h) (Or.inl ⟨by rfl, ?_⟩) ?_
      rotate_left
      · (intro w_ hS; clear hS; go_simp; try with_reducible rfl)
      try simp only [List.getElem_toArray, List.getElem_cons_zero, List.getElem_cons_succ, Act.put, List.setIfInBounds_toArray, List.set_cons_zero, List.set_cons_succ]
      refine wpG_pure (i := 10) (v := ?_) rfl (by kernel_rfl) (by kernel_rfl) (by kernel_rfl) (fun _ _ _ h => h) (Or.inl ⟨by rfl, ?_⟩) ?_
      rotate_left
      · (intro w_ hS; clear hS; go_simp; try with_reducible rfl)
      try simp only [List.getElem_toArray, List.getElem_cons_zero, List.getElem_cons_succ, Act.put, List.setIfInBounds_toArray, List.set_cons_zero, List.set_cons_succ]
      have fq1 : wc.frozen? ⟨w.heap.size, 8, none⟩ = false := (K.out.at 0 rfl).frozen 8
      have cq1 : wc.cell? ⟨w.heap.size, 8, none⟩ = some _ := (K.out.at 0 rfl).cell 8 _ rfl
      have fq2 : wc.frozen? ⟨w.heap.size, 9, none⟩ = false := (K.out.at 0 rfl).frozen 9
      have cq2 : wc.cell? ⟨w.heap.size, 9, none⟩ = some _ := (K.out.at 0 rfl).cell 9 _ rfl
      have cq : wc.cell? ⟨w.heap.size + 1, 9, none⟩ = some _ := (K.out.at 1 rfl).cell 9 _ rfl
      refine wpG_two (i := 8) (j := 11) rfl rfl (by kernel_rfl) (fun K_ hK => ?_) (fun K_ hK => ?_)
      · go_simp
        refine hK.out _ _ (fun h_ _ => K.out) ?_
        clear hK K_
        try simp only [List.getElem_toArray, List.getElem_cons_zero, List.getElem_cons_succ, Act.put, List.setIfInBounds_toArray, List.set_cons_zero, List.set_cons_succ]
        refine wpG_pure (i := 9) (v := ?_) rfl (by kernel_rfl) (by kernel_rfl) (by kernel_rfl) (fun _ _ _ h => h) (Or.inl ⟨by rfl, ?_⟩) ?_
        rotate_left
        · (intro w_ hS; clear hS; go_simp; try with_reducible rfl)
        try simp only [List.getElem_toArray, List.getElem_cons_zero, List.getElem_cons_succ, Act.put, List.setIfInBounds_toArray, List.set_cons_zero, List.set_cons_succ]
        refine wpG_ready (i := 11) rfl (by kernel_rfl) (fun K_ hK => ?_)
        go_simp
        replace K := Lib.hid (K.out.set0 8 (.int .i64 (max mt mt2)) (Nat.le_refl _) ne3)
        refine hK.out _ _ (fun h_ _ => absurd h_ (by decide)) ?_
        clear hK K_
        try simp only [List.getElem_toArray, List.getElem_cons_zero, List.getElem_cons_succ, Act.put, List.setIfInBounds_toArray, List.set_cons_zero, List.set_cons_succ]
        refine wpG_ready (i := 12) rfl (by kernel_rfl) (fun K_ hK => ?_)
        go_simp
        refine hK.out _ _ (fun h_ _ => absurd h_ (by decide)) ?_
        clear hK K_
        try simp only [List.getElem_toArray, List.getElem_cons_zero, List.getElem_cons_succ, Act.put, List.setIfInBounds_toArray, List.set_cons_zero, List.set_cons_succ]
        refine wpG_ready (i := 13) rfl (by kernel_rfl) (fun K_ hK => ?_)
        go_simp
        replace K := Lib.hid (K.out.set0 9 (.int .i64 (max gt gt2)) (Nat.le_refl _) ne3)
        refine hK.out _ _ (fun h_ _ => absurd h_ (by decide)) ?_
        clear hK K_
        try simp only [List.getElem_toArray, List.getElem_cons_zero, List.getElem_cons_succ, Act.put, List.setIfInBounds_toArray, List.set_cons_zero, List.set_cons_succ]
        refine wpG_done (by kernel_rfl) ?_ _
        refine NoPanic.normal ?_
        go_wp2_with fail
        go_meet
        case rel => exact K
      · go_simp
        replace K := Lib.hid (K.out.set0 8 (.int .i64 (max mt mt2)) (Nat.le_refl _) ne3)
        refine hK.out _ _ (fun h_ _ => absurd h_ (by decide)) ?_
        clear hK K_
        try simp only [List.getElem_toArray, List.getElem_cons_zero, List.getElem_cons_succ, Act.put, List.setIfInBounds_toArray, List.set_cons_zero, List.set_cons_succ]
        refine wpG_ready (i := 8) rfl (by kernel_rfl) (fun K_ hK => ?_)
        go_simp
        refine hK.out _ _ (fun h_ hS_ => hS_) ?_
        clear hK K_
        try simp only [List.getElem_toArray, List.getElem_cons_zero, List.getElem_cons_succ, Act.put, List.setIfInBounds_toArray, List.set_cons_zero, List.set_cons_succ]
        refine wpG_pure (i := 9) (v := ?_) rfl (by kernel_rfl) (by kernel_rfl) (by kernel_rfl) (fun _ _ _ h => h) (Or.inl ⟨by rfl, ?_⟩) ?_
        rotate_left
        · (intro w_ hS; clear hS; go_simp; try with_reducible rfl)
        try simp only [List.getElem_toArray, List.getElem_cons_zero, List.getElem_cons_succ, Act.put, List.setIfInBounds_toArray, List.set_cons_zero, List.set_cons_succ]
        refine wpG_ready (i := 12) rfl (by kernel_rfl) (fun K_ hK => ?_)
        go_simp
        refine hK.out _ _ (fun h_ _ => absurd h_ (by decide)) ?_
        clear hK K_
        try simp only [List.getElem_toArray, List.getElem_cons_zero, List.getElem_cons_succ, Act.put, List.setIfInBounds_toArray, List.set_cons_zero, List.set_cons_succ]
        refine wpG_ready (i := 13) rfl (by kernel_rfl) (fun K_ hK => ?_)
        go_simp
        replace K := Lib.hid (K.out.set0 9 (.int .i64 (max gt gt2)) (Nat.le_refl _) ne3)
        refine hK.out _ _ (fun h_ _ => absurd h_ (by decide)) ?_
        clear hK K_
        try simp only [List.getElem_toArray, List.getElem_cons_zero, List.getElem_cons_succ, Act.put, List.setIfInBounds_toArray, List.set_cons_zero, List.set_cons_succ]
        refine wpG_done (by kernel_rfl) ?_ _
        refine NoPanic.normal ?_
        go_wp2_with fail
        go_meet
        case rel => exact K
    case rest =>
      have K := hcut
      clear hcut
      generalize hmt : max mt mt2 = mtR at *
      generalize hgt : max gt gt2 = gtR at *
      go_upto_region 3 with fail
      go_cut [] from 24 (fun wx => Hid (KR w.heap.size w [(w.heap.size, 26, entC tb pr vT vA vW (clR) (Go.bits .or .u64 me me2) (Go.bits .or .u64 mk mk2) (mtR) (gtR)), (w.heap.size + 1, 26, entC tb' pr' vT' vA' vW' cl2 me2 mk2 mt2 gt2), (w.heap.size + 1 + 1, 26, entC 0 0 (.slice none 0 0) (.slice none 0 0) (.slice none 0 0) false 0 0 0 0)] wx))
      case first =>
        refine wp_region_noPanic ?_
        refine wp_region_G 11 (KR w.heap.size w [(w.heap.size, 26, entC tb pr vT vA vW (clR) (me) (mk) (mtR) (gtR)), (w.heap.size + 1, 26, entC tb' pr' vT' vA' vW' cl2 me2 mk2 mt2 gt2), (w.heap.size + 1 + 1, 26, entC 0 0 (.slice none 0 0) (.slice none 0 0) (.slice none 0 0) false 0 0 0 0)]) (by kernel_rfl) ?_
        change wpG _ _ _ _ _ 14 #[false, false, false, false, false, false, false, false, false, false, false, false, false, false] _ (World.drew _)
        replace K := Lib.hid K.out.drew
        refine wpG_pure (i := 0) (v := ?_) rfl (by kernel_rfl) (by kernel_rfl) (by kernel_rfl) (fun _ _ _ h => h) (Or.inl ⟨by rfl, ?_⟩) ?_
        rotate_left
        · (intro w_ hS; clear hS; go_simp; try with_reducible rfl)
        try simp only [List.getElem_toArray, List.getElem_cons_zero, List.getElem_cons_succ, Act.put, List.setIfInBounds_toArray, List.set_cons_zero, List.set_cons_succ]
        refine wpG_take (i := 1) (v := ?_) rfl (by kernel_rfl) (by kernel_rfl) (by kernel_rfl) (fun _ _ _ h => h) (Or.inl ⟨by rfl, ?_⟩) K.out ?_
        rotate_left
        · (intro w_ hS; have cq_ := (hS.at 0 rfl).cell 6 _ rfl; clear hS; go_simp; try with_reducible rfl)
        try simp only [List.getElem_toArray, List.getElem_cons_zero, List.getElem_cons_succ, Act.put, List.setIfInBounds_toArray, List.set_cons_zero, List.set_cons_succ]
        refine wpG_pure (i := 2) (v := ?_) rfl (by kernel_rfl) (by kernel_rfl) (by kernel_rfl) (fun _ _ _ h => h) (Or.inl ⟨by rfl, ?_⟩) ?_
        rotate_left
        · (intro w_ hS; clear hS; go_simp; try with_reducible rfl)
        try simp only [List.getElem_toArray, List.getElem_cons_zero, List.getElem_cons_succ, Act.put, List.setIfInBounds_toArray, List.set_cons_zero, List.set_cons_succ]
        refine wpG_take (i := 3) (v := ?_) rfl (by kernel_rfl) (by kernel_rfl) (by kernel_rfl) (fun _ _ _ h => h) (Or.inl ⟨by rfl, ?_⟩) K.out ?_
        rotate_left
        · (intro w_ hS; have cq_ := (hS.at 1 rfl).cell 6 _ rfl; clear hS; go_simp; try with_reducible rfl)
        try simp only [List.getElem_toArray, List.getElem_cons_zero, List.getElem_cons_succ, Act.put, List.setIfInBounds_toArray, List.set_cons_zero, List.set_cons_succ]
        refine wpG_pure (i := 4) (v := ?_) rfl (by kernel_rfl) (by kernel_rfl) (by kernel_rfl) (fun _ _ _ h => h) (Or.inl ⟨by rfl, ?_⟩) ?_
        rotate_left
        · (intro w_ hS; clear hS; go_simp; try with_reducible rfl)
        try simp only [List.getElem_toArray, List.getElem_cons_zero, List.getElem_cons_succ, Act.put, List.setIfInBounds_toArray, List.set_cons_zero, List.set_cons_succ]
        refine wpG_pure (i := 5) (v := ?_) rfl (by kernel_rfl) (by kernel_rfl) (by kernel_rfl) (fun _ _ _ h => h) (Or.inl ⟨by rfl, ?_⟩) ?_
        rotate_left
        · (intro w_ hS; clear hS; go_simp; try with_reducible rfl)
        try simp only [List.getElem_toArray, List.getElem_cons_zero, List.getElem_cons_succ, Act.put, List.setIfInBounds_toArray, List.set_cons_zero, List.set_cons_succ]
        refine wpG_take (i := 6) (v := ?_) rfl (by kernel_rfl) (by kernel_rfl) (by kernel_rfl) (fun _ _ _ h => h) (Or.inl ⟨by rfl, ?_⟩) K.out ?_
        rotate_left
        · (intro w_ hS; have cq_ := (hS.at 0 rfl).cell 7 _ rfl; clear hS; go_simp; try with_reducible rfl)
        try simp only [List.getElem_toArray, List.getElem_cons_zero, List.getElem_cons_succ, Act.put, List.setIfInBounds_toArray, List.set_cons_zero, List.set_cons_succ]
        refine wpG_pure (i := 7) (v := ?_) rfl (by kernel_rfl) (by kernel_rfl) (by kernel_rfl) (fun _ _ _ h => h) (Or.inl ⟨by rfl, ?_⟩) ?_
        rotate_left
        · (intro w_ hS; clear hS; go_simp; try with_reducible rfl)
        try simp only [List.getElem_toArray, List.getElem_cons_zero, List.getElem_cons_succ, Act.put, List.setIfInBounds_toArray, List.set_cons_zero, List.set_cons_succ]
        refine wpG_pure (i := 10) (v := ?_) rfl (by kernel_rfl) (by kernel_rfl) (by kernel_rfl) (fun _ _ _ h => h) (Or.inl ⟨by rfl, ?_⟩) ?_
        rotate_left
        · (intro w_ hS; clear hS; go_simp; try with_reducible rfl)
        try simp only [List.getElem_toArray, List.getElem_cons_zero, List.getElem_cons_succ, Act.put, List.setIfInBounds_toArray, List.set_cons_zero, List.set_cons_succ]
        have fq1 : wc.frozen? ⟨w.heap.size, 6, none⟩ = false := (K.out.at 0 rfl).frozen 6
        have cq1 : wc.cell? ⟨w.heap.size, 6, none⟩ = some _ := (K.out.at 0 rfl).cell 6 _ rfl
        have fq2 : wc.frozen? ⟨w.heap.size, 7, none⟩ = false := (K.out.at 0 rfl).frozen 7
        have cq2 : wc.cell? ⟨w.heap.size, 7, none⟩ = some _ := (K.out.at 0 rfl).cell 7 _ rfl
        have cq : wc.cell? ⟨w.heap.size + 1, 7, none⟩ = some _ := (K.out.at 1 rfl).cell 7 _ rfl
        refine wpG_two (i := 8) (j := 11) rfl rfl (by kernel_rfl) (fun K_ hK => ?_) (fun K_ hK => ?_)
        · go_simp
          refine hK.out _ _ (fun h_ _ => K.out) ?_
          clear hK K_
          try simp only [List.getElem_toArray, List.getElem_cons_zero, List.getElem_cons_succ, Act.put, List.setIfInBounds_toArray, List.set_cons_zero, List.set_cons_succ]
          refine wpG_pure (i := 9) (v := ?_) rfl (by kernel_rfl) (by kernel_rfl) (by kernel_rfl) (fun _ _ _ h => h) (Or.inl ⟨by rfl, ?_⟩) ?_
          rotate_left
          · (intro w_ hS; clear hS; go_simp; try with_reducible rfl)
          try simp only [List.getElem_toArray, List.getElem_cons_zero, List.getElem_cons_succ, Act.put, List.setIfInBounds_toArray, List.set_cons_zero, List.set_cons_succ]
          refine wpG_ready (i := 11) rfl (by kernel_rfl) (fun K_ hK => ?_)
          go_simp
          replace K := Lib.hid (K.out.set0 6 (.int .u64 (Go.bits .or .u64 me me2)) (Nat.le_refl _) ne3)
          refine hK.out _ _ (fun h_ _ => absurd h_ (by decide)) ?_
          clear hK K_
          try simp only [List.getElem_toArray, List.getElem_cons_zero, List.getElem_cons_succ, Act.put, List.setIfInBounds_toArray, List.set_cons_zero, List.set_cons_succ]
          refine wpG_ready (i := 12) rfl (by kernel_rfl) (fun K_ hK => ?_)
          go_simp
          refine hK.out _ _ (fun h_ _ => absurd h_ (by decide)) ?_
          clear hK K_
          try simp only [List.getElem_toArray, List.getElem_cons_zero, List.getElem_cons_succ, Act.put, List.setIfInBounds_toArray, List.set_cons_zero, List.set_cons_succ]
          refine wpG_ready (i := 13) rfl (by kernel_rfl) (fun K_ hK => ?_)
          go_simp
          replace K := Lib.hid (K.out.set0 7 (.int .u64 (Go.bits .or .u64 mk mk2)) (Nat.le_refl _) ne3)
          refine hK.out _ _ (fun h_ _ => absurd h_ (by decide)) ?_
          clear hK K_
          try simp only [List.getElem_toArray, List.getElem_cons_zero, List.getElem_cons_succ, Act.put, List.setIfInBounds_toArray, List.set_cons_zero, List.set_cons_succ]
          refine wpG_done (by kernel_rfl) ?_ _
          refine NoPanic.normal ?_
          go_wp2_with fail
          go_meet
          case rel => exact K
        · go_simp
          replace K := Lib.hid (K.out.set0 6 (.int .u64 (Go.bits .or .u64 me me2)) (Nat.le_refl _) ne3)
          refine hK.out _ _ (fun h_ _ => absurd h_ (by decide)) ?_
          clear hK K_
          try simp only [List.getElem_toArray, List.getElem_cons_zero, List.getElem_cons_succ, Act.put, List.setIfInBounds_toArray, List.set_cons_zero, List.set_cons_succ]
          refine wpG_ready (i := 8) rfl (by kernel_rfl) (fun K_ hK => ?_)
          go_simp
          refine hK.out _ _ (fun h_ hS_ => hS_) ?_
          clear hK K_
          try simp only [List.getElem_toArray, List.getElem_cons_zero, List.getElem_cons_succ, Act.put, List.setIfInBounds_toArray, List.set_cons_zero, List.set_cons_succ]
          refine wpG_pure (i := 9) (v := ?_) rfl (by kernel_rfl) (by kernel_rfl) (by kernel_rfl) (fun _ _ _ h => h) (Or.inl ⟨by rfl, ?_⟩) ?_
          rotate_left
          · (intro w_ hS; clear hS; go_simp; try with_reducible rfl)
          try simp only [List.getElem_toArray, List.getElem_cons_zero, List.getElem_cons_succ, Act.put, List.setIfInBounds_toArray, List.set_cons_zero, List.set_cons_succ]
          refine wpG_ready (i := 12) rfl (by kernel_rfl) (fun K_ hK => ?_)
          go_simp
          refine hK.out _ _ (fun h_ _ => absurd h_ (by decide)) ?_
          clear hK K_
          try simp only [List.getElem_toArray, List.getElem_cons_zero, List.getElem_cons_succ, Act.put, List.setIfInBounds_toArray, List.set_cons_zero, List.set_cons_succ]
          refine wpG_ready (i := 13) rfl (by kernel_rfl) (fun K_ hK => ?_)
          go_simp
          replace K := Lib.hid (K.out.set0 7 (.int .u64 (Go.bits .or .u64 mk mk2)) (Nat.le_refl _) ne3)
          refine hK.out _ _ (fun h_ _ => absurd h_ (by decide)) ?_
          clear hK K_
          try simp only [List.getElem_toArray, List.getElem_cons_zero, List.getElem_cons_succ, Act.put, List.setIfInBounds_toArray, List.set_cons_zero, List.set_cons_succ]
          refine wpG_done (by kernel_rfl) ?_ _
          refine NoPanic.normal ?_
          go_wp2_with fail
          go_meet
          case rel => exact K
      case rest =>
        have K := hcut
        clear hcut
        generalize hme : Go.bits .or .u64 me me2 = meR at *
        generalize hmk : Go.bits .or .u64 mk mk2 = mkR at *
        have HPQ : Hid (PQ = ⟨pA ++ qA, pW ++ qW, clR, meR, mkR, mtR, gtR⟩) := HP
        clear HP hcl hmt hgt hme hmk
        have HAc := Lib.hid (HA.out.belowAll K.out.below)
        have HWc := Lib.hid (HW.out.belowAll K.out.below)
        have HA'c := Lib.hid (HA'.out.belowAll K.out.below)
        have HW'c := Lib.hid (HW'.out.belowAll K.out.below)
        have HAl : Hid (∀ k, vA.ownBlock = some k → B ≤ k ∧ k < w.heap.size) := Lib.hid HA.out.block
        have HWl : Hid (∀ k, vW.ownBlock = some k → B ≤ k ∧ k < w.heap.size) := Lib.hid HW.out.block
        have HH1 : Hid (w.heap.size + 1 + 1 < wc.heap.size) := Lib.hid (K.out.at 2 rfl).lt
        replace K := Lib.hid (K.out.down HB.out)
        clear HA HW HA' HW'
        go_upto_region 4 with fail
        refine wp_region_noPanic ?_
        refine wp_region_G 11 (KR B w [(w.heap.size, 26, entC tb pr vT vA vW (clR) (meR) (mkR) (mtR) (gtR)), (w.heap.size + 1, 26, entC tb' pr' vT' vA' vW' cl2 me2 mk2 mt2 gt2), (w.heap.size + 1 + 1, 26, entC 0 0 (.slice none 0 0) (.slice none 0 0) (.slice none 0 0) false 0 0 0 0)]) (by kernel_rfl) ?_
        change wpG _ _ _ _ _ 14 #[false, false, false, false, false, false, false, false, false, false, false, false, false, false] _ (World.drew _)
        replace K := Lib.hid K.out.drew
        refine wpG_pure (i := 0) (v := ?_) rfl (by kernel_rfl) (by kernel_rfl) (by kernel_rfl) (fun _ _ _ h => h) (Or.inl ⟨by rfl, ?_⟩) ?_
        rotate_left
        · (intro w_ hS; clear hS; go_simp; try with_reducible rfl)
        try simp only [List.getElem_toArray, List.getElem_cons_zero, List.getElem_cons_succ, Act.put, List.setIfInBounds_toArray, List.set_cons_zero, List.set_cons_succ]
        refine wpG_take (i := 1) (v := ?_) rfl (by kernel_rfl) (by kernel_rfl) (by kernel_rfl) (fun _ _ _ h => h) (Or.inl ⟨by rfl, ?_⟩) K.out ?_
        rotate_left
        · (intro w_ hS; have cq_ := (hS.at 0 rfl).cell 3 _ rfl; clear hS; go_simp; try with_reducible rfl)
        try simp only [List.getElem_toArray, List.getElem_cons_zero, List.getElem_cons_succ, Act.put, List.setIfInBounds_toArray, List.set_cons_zero, List.set_cons_succ]
        refine wpG_pure (i := 2) (v := ?_) rfl (by kernel_rfl) (by kernel_rfl) (by kernel_rfl) (fun _ _ _ h => h) (Or.inl ⟨by rfl, ?_⟩) ?_
        rotate_left
        · (intro w_ hS; clear hS; go_simp; try with_reducible rfl)
        try simp only [List.getElem_toArray, List.getElem_cons_zero, List.getElem_cons_succ, Act.put, List.setIfInBounds_toArray, List.set_cons_zero, List.set_cons_succ]
        refine wpG_take (i := 3) (v := ?_) rfl (by kernel_rfl) (by kernel_rfl) (by kernel_rfl) (fun _ _ _ h => h) (Or.inl ⟨by rfl, ?_⟩) K.out ?_
        rotate_left
        · (intro w_ hS; have cq_ := (hS.at 1 rfl).cell 3 _ rfl; clear hS; go_simp; try with_reducible rfl)
        try simp only [List.getElem_toArray, List.getElem_cons_zero, List.getElem_cons_succ, Act.put, List.setIfInBounds_toArray, List.set_cons_zero, List.set_cons_succ]
        refine wpG_pure (i := 5) (v := ?_) rfl (by kernel_rfl) (by kernel_rfl) (by kernel_rfl) (fun _ _ _ h => h) (Or.inl ⟨by rfl, ?_⟩) ?_
        rotate_left
        · (intro w_ hS; clear hS; go_simp; try with_reducible rfl)
        try simp only [List.getElem_toArray, List.getElem_cons_zero, List.getElem_cons_succ, Act.put, List.setIfInBounds_toArray, List.set_cons_zero, List.set_cons_succ]
        refine wpG_take (i := 6) (v := ?_) rfl (by kernel_rfl) (by kernel_rfl) (by kernel_rfl) (fun _ _ _ h => h) (Or.inl ⟨by rfl, ?_⟩) K.out ?_
        rotate_left
        · (intro w_ hS; have cq_ := (hS.at 0 rfl).cell 4 _ rfl; clear hS; go_simp; try with_reducible rfl)
        try simp only [List.getElem_toArray, List.getElem_cons_zero, List.getElem_cons_succ, Act.put, List.setIfInBounds_toArray, List.set_cons_zero, List.set_cons_succ]
        refine wpG_pure (i := 7) (v := ?_) rfl (by kernel_rfl) (by kernel_rfl) (by kernel_rfl) (fun _ _ _ h => h) (Or.inl ⟨by rfl, ?_⟩) ?_
        rotate_left
        · (intro w_ hS; clear hS; go_simp; try with_reducible rfl)
        try simp only [List.getElem_toArray, List.getElem_cons_zero, List.getElem_cons_succ, Act.put, List.setIfInBounds_toArray, List.set_cons_zero, List.set_cons_succ]
        refine wpG_take (i := 8) (v := ?_) rfl (by kernel_rfl) (by kernel_rfl) (by kernel_rfl) (fun _ _ _ h => h) (Or.inl ⟨by rfl, ?_⟩) K.out ?_
        rotate_left
        · (intro w_ hS; have cq_ := (hS.at 1 rfl).cell 4 _ rfl; clear hS; go_simp; try with_reducible rfl)
        try simp only [List.getElem_toArray, List.getElem_cons_zero, List.getElem_cons_succ, Act.put, List.setIfInBounds_toArray, List.set_cons_zero, List.set_cons_succ]
        refine wpG_ready (i := 4) rfl (by kernel_rfl) (fun K_ hK => ?_)
        rw [if_pos (by rfl)]
        refine wp_append_A _ _ rfl B vA vA' pA qA rfl rfl HAc.out.drew (ReadL.of_own HA'c.out.drew encAction_len) hl (by have := HB.out; have := HH1.out; simp; omega) ?_
        intro vA2 w4 hoA hgA hdA
        have hneW : vW.ownBlock = none ∨ vW.ownBlock ≠ vA.ownBlock := by
          cases h : vW.ownBlock with
          | none => exact .inl rfl
          | some k => exact .inr (fun e => HAp.out k e.symm h)
        have hneW' : vW'.ownBlock = none ∨ vW'.ownBlock ≠ vA.ownBlock := by
          cases h : vW'.ownBlock with
          | none => exact .inl rfl
          | some k => exact .inr (fun e => HAp'.out k e.symm h)
        have HW4 := Lib.hid (OwnL.kept HWc.out.drew hgA hneW)
        have HW'4 := Lib.hid (OwnL.kept HW'c.out.drew hgA hneW')
        have HOA := Lib.hid hoA
        have HDA : Hid (vA2.ownBlock = vA.ownBlock ∨ vA2.ownBlock = some wc.heap.size) := Lib.hid hdA
        have HS4 : Hid (wc.heap.size ≤ w4.heap.size) := Lib.hid hgA.size
        have hKA : KR B w [(w.heap.size, 26, entC tb pr vT vA vW (clR) (meR) (mkR) (mtR) (gtR)), (w.heap.size + 1, 26, entC tb' pr' vT' vA' vW' cl2 me2 mk2 mt2 gt2), (w.heap.size + 1 + 1, 26, entC 0 0 (.slice none 0 0) (.slice none 0 0) (.slice none 0 0) false 0 0 0 0)] w4 := K.out.grownV hgA (fun x hx e => by
          have h1 := (HAl.out x.1 e.symm).2
          simp only [List.mem_cons, List.not_mem_nil, or_false] at hx
          rcases hx with rfl | rfl | rfl <;> simp only at h1 <;> omega) (fun k hk => (HAl.out k hk).1)
        replace K := Lib.hid (hKA)
        refine hK.out _ _ (fun h_ _ => K.out) ?_
        clear hK K_
        try simp only [List.getElem_toArray, List.getElem_cons_zero, List.getElem_cons_succ, Act.put, List.setIfInBounds_toArray, List.set_cons_zero, List.set_cons_succ]
        clear hoA hgA hdA hneW hneW' hKA HAc HWc HA'c HW'c
        refine wpG_pure (i := 10) (v := ?_) rfl (by kernel_rfl) (by kernel_rfl) (by kernel_rfl) (fun _ _ _ h => h) (Or.inl ⟨by rfl, ?_⟩) ?_
        rotate_left
        · (intro w_ hS; clear hS; go_simp; try with_reducible rfl)
        try simp only [List.getElem_toArray, List.getElem_cons_zero, List.getElem_cons_succ, Act.put, List.setIfInBounds_toArray, List.set_cons_zero, List.set_cons_succ]
        refine wpG_ready (i := 9) rfl (by kernel_rfl) (fun K_ hK => ?_)
        rw [if_pos (by rfl)]
        refine wp_append_A _ _ rfl B vW vW' pW qW rfl rfl HW4.out (ReadL.of_own HW'4.out encAction_len) hl2 (by have := HB.out; have := HH1.out; have := HS4.out; omega) ?_
        intro vW2 w5 hoW hgW hdW
        have hneA : vA2.ownBlock = none ∨ vA2.ownBlock ≠ vW.ownBlock := by
          rcases HDA.out with h | h
          · rw [h]
            cases h2 : vA.ownBlock with
            | none => exact .inl rfl
            | some k => exact .inr (fun e => HAp.out k h2 e.symm)
          · rw [h]
            exact .inr (fun e => by have := (HWl.out _ e.symm).2; have := HH1.out; omega)
        have HOA5 := Lib.hid (OwnL.kept HOA.out hgW hneA)
        have HOW5 := Lib.hid hoW
        have hap : Apart vA2 vW2 := fun k hk e => by
          have hk4 := (HOA.out.block k hk).2
          rcases hdW with h | h
          · rw [h] at e
            rcases HDA.out with h3 | h3
            · rw [h3] at hk; exact HAp.out k hk e
            · rw [h3] at hk; cases hk; have := (HWl.out _ e).2; have := HH1.out; omega
          · rw [h] at e; cases e; omega
        have HAp2 := Lib.hid hap
        have hlow : ∀ k, (vA2.ownBlock = some k ∨ vW2.ownBlock = some k) → k < w.heap.size ∨ w.heap.size + 1 + 1 < k := fun k hk => by
          have h1 := HH1.out
          have h2 := HS4.out
          rcases hk with hk | hk
          · rcases HDA.out with h3 | h3
            · rw [h3] at hk; exact .inl (HAl.out k hk).2
            · rw [h3] at hk; cases hk; exact .inr h1
          · rcases hdW with h3 | h3
            · rw [h3] at hk; exact .inl (HWl.out k hk).2
            · rw [h3] at hk; cases hk; exact .inr (by omega)
        have HLow := Lib.hid hlow
        have hKW : KR B w [(w.heap.size, 26, entC tb pr vT vA vW (clR) (meR) (mkR) (mtR) (gtR)), (w.heap.size + 1, 26, entC tb' pr' vT' vA' vW' cl2 me2 mk2 mt2 gt2), (w.heap.size + 1 + 1, 26, entC 0 0 (.slice none 0 0) (.slice none 0 0) (.slice none 0 0) false 0 0 0 0)] w5 := K.out.grownV hgW (fun x hx e => by
          have h1 := (HWl.out x.1 e.symm).2
          simp only [List.mem_cons, List.not_mem_nil, or_false] at hx
          rcases hx with rfl | rfl | rfl <;> simp only at h1 <;> omega) (fun k hk => (HWl.out k hk).1)
        replace K := Lib.hid (hKW)
        refine hK.out _ _ (fun h_ _ => K.out) ?_
        clear hK K_
        try simp only [List.getElem_toArray, List.getElem_cons_zero, List.getElem_cons_succ, Act.put, List.setIfInBounds_toArray, List.set_cons_zero, List.set_cons_succ]
        clear hoW hgW hdW hneA hap hlow hKW HW4 HW'4 HOA HDA HAl HWl
        obtain ⟨a2, c2, rfl, _, _⟩ := HOA5.out.slice
        obtain ⟨b2, d2, rfl, _, _⟩ := HOW5.out.slice
        generalize hn2 : (pA ++ qA).length = n2 at *
        generalize hm2 : (pW ++ qW).length = m2 at *
        clear hn2 hm2
        have fq1 : w5.frozen? ⟨w.heap.size, 3, none⟩ = false := (K.out.at 0 rfl).frozen 3
        have cq1 : w5.cell? ⟨w.heap.size, 3, none⟩ = some _ := (K.out.at 0 rfl).cell 3 _ rfl
        have fq2 : w5.frozen? ⟨w.heap.size, 4, none⟩ = false := (K.out.at 0 rfl).frozen 4
        have cq2 : w5.cell? ⟨w.heap.size, 4, none⟩ = some _ := (K.out.at 0 rfl).cell 4 _ rfl
        refine wpG_ready (i := 11) rfl (by kernel_rfl) (fun K_ hK => ?_)
        go_simp
        replace K := Lib.hid (K.out.set0 3 (.slice a2 n2 c2) HB.out ne3)
        refine hK.out _ _ (fun h_ _ => absurd h_ (by decide)) ?_
        clear hK K_
        try simp only [List.getElem_toArray, List.getElem_cons_zero, List.getElem_cons_succ, Act.put, List.setIfInBounds_toArray, List.set_cons_zero, List.set_cons_succ]
        refine wpG_ready (i := 12) rfl (by kernel_rfl) (fun K_ hK => ?_)
        go_simp
        refine hK.out _ _ (fun h_ _ => absurd h_ (by decide)) ?_
        clear hK K_
        try simp only [List.getElem_toArray, List.getElem_cons_zero, List.getElem_cons_succ, Act.put, List.setIfInBounds_toArray, List.set_cons_zero, List.set_cons_succ]
        refine wpG_ready (i := 13) rfl (by kernel_rfl) (fun K_ hK => ?_)
        go_simp
        replace K := Lib.hid (K.out.set0 4 (.slice b2 m2 d2) HB.out ne3)
        refine hK.out _ _ (fun h_ _ => absurd h_ (by decide)) ?_
        clear hK K_
        try simp only [List.getElem_toArray, List.getElem_cons_zero, List.getElem_cons_succ, Act.put, List.setIfInBounds_toArray, List.set_cons_zero, List.set_cons_succ]
        refine wpG_done (by kernel_rfl) ?_ _
        refine NoPanic.normal ?_
        clear fq1 cq1 fq2 cq2
        have HOA6 := Lib.hid (HOA5.out.bar (((Bar.refl w.heap.size w5).set 3 (.slice a2 n2 c2)).set 4 (.slice b2 m2 d2)) (fun k hk => by have := HLow.out k (.inl hk); omega))
        have HOW6 := Lib.hid (HOW5.out.bar (((Bar.refl w.heap.size w5).set 3 (.slice a2 n2 c2)).set 4 (.slice b2 m2 d2)) (fun k hk => by have := HLow.out k (.inr hk); omega))
        clear HOA5 HOW5
        generalize (w5.setCell ⟨w.heap.size, 3, none⟩ (.slice a2 n2 c2)).setCell ⟨w.heap.size, 4, none⟩ (.slice b2 m2 d2) = w6 at *
        go_wp2_with (first
          | (refine wpList_load_row rfl 26 _ rfl _ rfl _ _ _ _ (K.out.at 0 rfl) Try.underlying26 rfl (by kernel_rfl) ?_)
          | (refine wpList_store_row rfl 26 _ _ rfl _ rfl (entC tb pr vT (.slice a2 n2 c2) (.slice b2 m2 d2) clR meR mkR mtR gtR) rfl _ _ (K.out.at 2 rfl) rfl (by kernel_rfl) (by simp [Value.oneCell']; exact hvT) ?_)
          | fail)
        intro Wj hbj hbarj
        have HBj := Lib.hid (hbarj.below K.out.below (by have := HB.out; omega) K.out.size)
        have HOA7 := Lib.hid (HOA6.out.bar hbarj (fun k hk => by have := HLow.out k (.inl hk); omega))
        have HOW7 := Lib.hid (HOW6.out.bar hbarj (fun k hk => by have := HLow.out k (.inr hk); omega))
        clear hbarj K HOA6 HOW6
        go_wp2_with fail
        refine bodyPost_ret (v := .agg (entC tb pr vT (.slice a2 n2 c2) (.slice b2 m2 d2) clR meR mkR mtR gtR)) (results_cell_row rfl _ _ (w.heap.size + 1 + 1) _ _ _ _ rfl hbj Try.underlying26 rfl (by kernel_rfl)) rfl ?_
        rw [HPQ.out]
        exact ⟨_, _, rfl, HOA7.out, HOW7.out, HAp2.out, HBj.out, HBj.out.size⟩
end Go.Proofs.Ytdjhbahiiabimaa
