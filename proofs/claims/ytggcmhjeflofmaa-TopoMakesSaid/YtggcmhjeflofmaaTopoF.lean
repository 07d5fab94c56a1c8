/- A topology in memory: join (printed by gen/topof.py). -/
import Derived.Test.YtggcmhjeflofmaaTopoE
namespace Go.Proofs.Ytggcmhjeflofmaa
open Go.RowKit Go.Maps
set_option linter.unusedVariables false
set_option linter.unusedSimpArgs false

section
variable {w : World} {B tb eb hb : Nat} {cv : Value} {s : TopS}
theorem TopoW.lookEt (h : TopoW w B tb eb hb cv s) (p q : Int) (hp : wfI p) (hq : wfI q) : (Instr.lookup 53 (.map (some eb)) (.agg #[.int .i64 p, .int .i64 q]) true).run Try.prog w =
    .ok (.tuple #[.agg #[.int .i64 (peerF s (p, q)).1, .int .i64 (peerF s (p, q)).2.1, .int .i64 (peerF s (p, q)).2.2], .bool (lookL s.ends (p, q)).isSome]) w := by
  have := h.lookE (p, q) ⟨hp, hq⟩ true
  simpa using this
theorem TopoW.lookHt (h : TopoW w B tb eb hb cv s) (p : Int) (hp : wfI p) : (Instr.lookup 54 (.map (some hb)) (.int .i64 p) true).run Try.prog w =
    .ok (.tuple #[.agg #[.int .i64 (homeF s p).1, .int .i64 (homeF s p).2], .bool (lookL s.homes p).isSome]) w := by
  have := h.lookH p hp true
  simpa using this
end
theorem floInfo : (Try.prog.info? 41).map (fun i => (i.zero, i.size, i.bytes)) = some (some (.float .f64 0), 1, 8) := by kernel_rfl
theorem lookL_snoc {α β : Type} [DecidableEq α] {l : List (α × β)} {x y : α} {v : β} (h : lookL l x = none) (hne : y ≠ x) : lookL (l ++ [(y, v)]) x = none := by
  rw [lookL_none] at h ⊢
  intro p hp
  rcases List.mem_append.1 hp with hp | hp
  · exact h p hp
  · obtain rfl := List.mem_singleton.1 hp; exact hne
theorem wfI_of {n : Int} (h0 : -9223372036854775808 ≤ n) (h1 : n ≤ 9223372036854775807) : wfI n := by
  unfold wfI Lit.wf
  simp
  have h2 : IntKind.i64.min = -9223372036854775808 := by decide
  omega
/-- What join answers, and leaves. -/
def Joined (w : World) (B tb eb hb : Nat) (o : Option TopS) (e : Ending) (w' : World) : Prop := e = .returned (.bool o.isSome) ∧ Below B w w' ∧ ∀ s', o = some s' → ∃ cv, TopoW w' B tb eb hb cv s'

/-- The same, behind the new cost. -/
def joinT (s : TopS) (a pa b pb : Int) : Option TopS :=
  if (lookL s.ends (a, pa)).isSome = true then none
  else if b < 0 then
    (if (lookL s.homes (-b)).isSome = true then none
     else some ⟨s.size, s.ends ++ [((a, pa), ((b, pb), (s.costs.length : Int)))], s.homes ++ [(-b, (a, pa))], s.costs⟩)
  else if (lookL s.ends (b, pb)).isSome = true then none
  else some ⟨s.size, s.ends ++ [((b, pb), ((a, pa), (s.costs.length : Int))), ((a, pa), ((b, pb), (s.costs.length : Int)))], s.homes, s.costs⟩
theorem joinS_T (s : TopS) (a pa b pb : Int) (c : Nat) : joinS s ⟨a, pa, b, pb, c⟩ = joinT ⟨s.size, s.ends, s.homes, s.costs ++ [c]⟩ a pa b pb := by
  unfold joinS joinT
  simp
section
variable {B tb eb hb : Nat} {w W W' : World} {l l' : List (Nat × TypeId × Array Value)} {cv : Value} {s : TopS}
theorem TS.far (h : TS B w l tb eb hb cv s W) {g : Nat} (hg : W.heap.size ≤ g) : (B ≤ g ∧ (g ≠ tb ∧ g ≠ eb ∧ g ≠ hb) ∧ ∀ k, cv.ownBlock = some k → k ≠ g) ∧ ∀ x ∈ l, x.1 ≠ g := by
  obtain ⟨h1, h2, h3, h4⟩ := h.lt
  have := h.size
  refine ⟨⟨by omega, ⟨by omega, by omega, by omega⟩, fun k hk => by have := h4 k hk; omega⟩, fun x hx => ?_⟩
  have := (h.1.1 x hx).lt
  omega
theorem TS.box1 {g : Nat} {t : TypeId} {cs : Array Value} (h : TS B w l' tb eb hb cv s W) (hbar : Bar g W W') (hw : BlkAt W' g t cs) (hf : B ≤ g ∧ (g ≠ tb ∧ g ≠ eb ∧ g ≠ hb) ∧ ∀ k, cv.ownBlock = some k → k ≠ g) (hl : ∀ x ∈ l, x ∈ l') (hne : ∀ x ∈ l, x.1 ≠ g) : TS B w ((g, t, cs) :: l) tb eb hb cv s W' :=
  ⟨((h.1.sub hl).barOut hbar hf.1 hne).add hw, h.2.other hbar hf.2.1.1 hf.2.1.2.1 hf.2.1.2.2 hf.2.2⟩
theorem TS.away (h : TS B w l tb eb hb cv s W) {o : Obj} (hbar : Bar W.heap.size (W.alloc o) W') : TS B w l tb eb hb cv s W' := by
  have hf := h.far (Nat.le_refl _)
  have := h.alloc o
  exact ⟨this.1.barOut hbar hf.1.1 hf.2, this.2.other hbar hf.1.2.1.1 hf.1.2.1.2.1 hf.1.2.1.2.2 hf.1.2.2⟩
theorem TS.ends_set (h : TS B w l tb eb hb cv s W) (p q : Int) (hp : wfI p) (hq : wfI q) (e1 e2 e3 : Int) (hn : (lookL s.ends (p, q)).isSome = false) (hl : ∀ x ∈ l, x.1 ≠ eb) :
    ∃ W', (Instr.mapUpdate 53 (.map (some eb)) (.agg #[.int .i64 p, .int .i64 q]) (.agg #[.int .i64 e1, .int .i64 e2, .int .i64 e3])).run Try.prog W = .ok () W' ∧ TS B w l tb eb hb cv ⟨s.size, s.ends ++ [((p, q), ((e1, e2), e3))], s.homes, s.costs⟩ W' := by
  obtain ⟨W', hr, hm, hbar⟩ := h.2.ends.update keyE_place (T := 53) (E := 67) Try.underlying53 h.2.kend (p, q) ⟨hp, hq⟩ ((e1, e2), e3)
  exact ⟨W', hr, h.end_ hbar (p, q) ((e1, e2), e3) ⟨hp, hq⟩ hm (by simpa using hn) hl⟩
theorem TS.homes_set (h : TS B w l tb eb hb cv s W) (n p q : Int) (hnw : wfI n) (hn : (lookL s.homes n).isSome = false) (hl : ∀ x ∈ l, x.1 ≠ hb) :
    ∃ W', (Instr.mapUpdate 54 (.map (some hb)) (.int .i64 n) (.agg #[.int .i64 p, .int .i64 q])).run Try.prog W = .ok () W' ∧ TS B w l tb eb hb cv ⟨s.size, s.ends, s.homes ++ [(n, (p, q))], s.costs⟩ W' := by
  obtain ⟨W', hr, hm, hbar⟩ := h.2.homes.update keyE_int (T := 54) (E := 65) Try.underlying54 h.2.khome n hnw (p, q)
  exact ⟨W', hr, h.home hbar n (p, q) hnw hm (by simpa using hn) hl⟩
end

set_option maxRecDepth 100000 in
set_option maxHeartbeats 16000000 in
theorem join_any (w : World) (B tb eb hb : Nat) (cv : Value) (s : TopS) (h : TopoW w B tb eb hb cv s) (hB : B ≤ w.heap.size) (x : Link) (ha : wfI x.fA) (hpa : wfI x.fPortA) (hbw : wfI x.fB) (hpb : wfI x.fPortB) (hne : x.fA ≠ x.fB) (h64 : -64 ≤ x.fB) (hlen : s.costs.length ≤ 1000) :
    Calls Try.prog 29 #[ptr tb, valLink x] w (Joined w B tb eb hb (joinS s x)) := by
  obtain ⟨a, pa, b, pb, c⟩ := x
  simp only at *
  have HJ : Hid (joinS s ⟨a, pa, b, pb, c⟩ = joinT ⟨s.size, s.ends, s.homes, s.costs ++ [c]⟩ a pa b pb) := Lib.hid (joinS_T ..)
  generalize joinS s ⟨a, pa, b, pb, c⟩ = J at *
  have HWa := Lib.hid ha
  have HWpa := Lib.hid hpa
  have HWb := Lib.hid hbw
  have HWpb := Lib.hid hpb
  have HNe := Lib.hid hne
  have HT := Lib.hid h
  have hlt := h.tab.lt
  have hle := h.ends.lt
  have hlh := h.homes.lt
  have HLt := Lib.hid (And.intro hlt (And.intro hle (And.intro hlh hB)))
  have HOw := Lib.hid (fun k hk => (h.own.block k hk).2)
  clear ha hpa hbw hpb hne h hB hlt hle hlh
  go_enter Try.func29, Try.ntmps29
  go_upto_region 1 with fail
  refine one_box_wp ?_
  intro W hb1 hbel hsz
  have hbelB := hbel.mono HLt.out.2.2.2
  have K : Hid (TS B w [(w.heap.size, 52, #[.int .i64 a, .int .i64 pa, .int .i64 b, .int .i64 pb, .float .f64 c])] tb eb hb cv s W) := Lib.hid ⟨(KR.start hbelB (Nat.le_trans HLt.out.2.2.2 hbel.size)).add hb1, HT.out.below hbel (Nat.le_refl _)⟩
  clear hb1 hbel hbelB hsz HT
  go_upto_region 1 with fail
  refine wp_region_noPanic ?_
  refine wp_region_G 8 (TS B w [(w.heap.size, 52, #[.int .i64 a, .int .i64 pa, .int .i64 b, .int .i64 pb, .float .f64 c])] tb eb hb cv s) (by kernel_rfl) ?_
  change wpG _ _ _ _ _ 12 #[false, false, false, false, false, false, false, false, false, false, false, false] _ (World.drew _)
  replace K := Lib.hid K.out.drew
  refine wpG_pure (i := 0) (v := ?_) rfl (by kernel_rfl) (by kernel_rfl) (by kernel_rfl) (fun _ _ _ h => h) (Or.inl ⟨by rfl, ?_⟩) ?_
  rotate_left
  · (intro w_ hS; clear hS; go_simp; try with_reducible rfl)
  try simp only [List.getElem_toArray, List.getElem_cons_zero, List.getElem_cons_succ, Act.put, List.setIfInBounds_toArray, List.set_cons_zero, List.set_cons_succ]
  refine wpG_pure (i := 1) (v := ?_) rfl (by kernel_rfl) (by kernel_rfl) (by kernel_rfl) (fun _ _ _ h => h) (Or.inl ⟨by rfl, ?_⟩) ?_
  rotate_left
  · (intro w_ hS; clear hS; go_simp; try with_reducible rfl)
  try simp only [List.getElem_toArray, List.getElem_cons_zero, List.getElem_cons_succ, Act.put, List.setIfInBounds_toArray, List.set_cons_zero, List.set_cons_succ]
  refine wpG_pure (i := 2) (v := ?_) rfl (by kernel_rfl) (by kernel_rfl) (by kernel_rfl) (fun _ _ _ h => h) (Or.inl ⟨by rfl, ?_⟩) ?_
  rotate_left
  · (intro w_ hS; clear hS; go_simp; try with_reducible rfl)
  try simp only [List.getElem_toArray, List.getElem_cons_zero, List.getElem_cons_succ, Act.put, List.setIfInBounds_toArray, List.set_cons_zero, List.set_cons_succ]
  refine wpG_pure (i := 3) (v := ?_) rfl (by kernel_rfl) (by kernel_rfl) (by kernel_rfl) (fun _ _ _ h => h) (Or.inl ⟨by rfl, ?_⟩) ?_
  rotate_left
  · (intro w_ hS; clear hS; go_simp; try with_reducible rfl)
  try simp only [List.getElem_toArray, List.getElem_cons_zero, List.getElem_cons_succ, Act.put, List.setIfInBounds_toArray, List.set_cons_zero, List.set_cons_succ]
  refine wpG_take (i := 4) (v := ?_) rfl (by kernel_rfl) (by kernel_rfl) (by kernel_rfl) (fun _ _ _ h => h) (Or.inl ⟨by rfl, ?_⟩) K.out ?_
  rotate_left
  · (intro w_ hS; have cq_ := hS.2.tab.cell 3 _ rfl; clear hS; go_simp; try with_reducible rfl)
  try simp only [List.getElem_toArray, List.getElem_cons_zero, List.getElem_cons_succ, Act.put, List.setIfInBounds_toArray, List.set_cons_zero, List.set_cons_succ]
  refine wpG_pure (i := 5) (v := ?_) rfl (by kernel_rfl) (by kernel_rfl) (by kernel_rfl) (fun _ _ _ h => h) (Or.inl ⟨by rfl, ?_⟩) ?_
  rotate_left
  · (intro w_ hS; clear hS; go_simp; try with_reducible rfl)
  try simp only [List.getElem_toArray, List.getElem_cons_zero, List.getElem_cons_succ, Act.put, List.setIfInBounds_toArray, List.set_cons_zero, List.set_cons_succ]
  refine wpG_take (i := 6) (v := ?_) rfl (by kernel_rfl) (by kernel_rfl) (by kernel_rfl) (fun _ _ _ h => h) (Or.inl ⟨by rfl, ?_⟩) K.out ?_
  rotate_left
  · (intro w_ hS; have cq_ := (hS.at 0 rfl).cell 4 _ rfl; clear hS; go_simp; try with_reducible rfl)
  try simp only [List.getElem_toArray, List.getElem_cons_zero, List.getElem_cons_succ, Act.put, List.setIfInBounds_toArray, List.set_cons_zero, List.set_cons_succ]
  refine wpG_ready (i := 7) rfl (by kernel_rfl) (fun K_ hK => ?_)
  go_simp
  have K0 := K
  replace K := Lib.hid (K.out.alloc (.cells #[.float .f64 c] 41))
  refine hK.out _ _ (fun h_ _ => K.out) ?_
  clear hK K_
  try simp only [List.getElem_toArray, List.getElem_cons_zero, List.getElem_cons_succ, Act.put, List.setIfInBounds_toArray, List.set_cons_zero, List.set_cons_succ]
  refine wpG_ready (i := 8) rfl (by kernel_rfl) (fun K_ hK => ?_)
  rw [if_pos (by rfl)]
  obtain ⟨i0, hi, hz0, hz1, hz2⟩ := info_parts floInfo
  refine wp_append_lies _ _ _ 55 rfl B 41 i0 _ 1 8 Try.underlying55 hi hz0 hz1 hz2 rfl (by decide) _ s.costs.length (s.costs.flatMap encF) rfl (World.ownsRow.alloc K0.out.2.own _) ⟨_, 0, none⟩ 1 1 (encF c) rfl (by simp [encF]) ?_ (encF_one c) (by decide) (by unfold maxLen; omega) (by omega) (Nat.le_trans K0.out.size (by simp)) _ rfl ?_
  · intro j u hu
    have hadd : ∀ (g j : Nat), (⟨g, 0, none⟩ : Addr).add j = ⟨g, j, none⟩ := fun g j => by unfold Addr.add; split <;> simp_all
    rw [hadd]
    change (W.alloc (.cells #[.float .f64 c] 41)).cell? ⟨W.heap.size, j, none⟩ = some u
    rw [World.cell?_alloc_at _ _ _ _ rfl]
    simpa [encF] using hu
  intro gc cpc w2 hown2 hgrow2 hat2 hlt2
  have HO2 : Hid (OwnL w2 B 41 1 encF (.slice (some ⟨gc, 0, none⟩) (s.costs.length + 1) cpc) (s.costs ++ [c])) := Lib.hid (by
    unfold OwnL
    rw [List.flatMap_append, List.length_append]
    exact hown2)
  have KC := Lib.hid (K.out.cost hgrow2 HO2.out (hat2.imp id (fun e => by rw [e]; simp)) (fun x hx => by
    obtain rfl := List.mem_singleton.1 hx
    refine ⟨fun e => ?_, fun e => ?_⟩
    · exact Nat.lt_irrefl _ (HOw.out _ e.symm)
    · have := HLt.out; simp only at e; omega) (fun x hx => (K.out.1.1 x hx).lt))
  have hct : w2.cell? ⟨tb, 3, none⟩ = some cv := by
    have hb2 : BlkAt w2 tb 57 #[.int .i64 s.size, .map (some eb), .map (some hb), cv] := (hgrow2.block tb K.out.lt.1 (fun e => (K0.out.2.e4 tb e.symm).2.2 rfl)).trans K.out.2.tab
    exact hb2.cell 3 _ rfl
  have hcf : w2.frozen? ⟨tb, 3, none⟩ = false := by
    have hb2 : BlkAt w2 tb 57 #[.int .i64 s.size, .map (some eb), .map (some hb), cv] := (hgrow2.block tb K.out.lt.1 (fun e => (K0.out.2.e4 tb e.symm).2.2 rfl)).trans K.out.2.tab
    exact hb2.frozen 3
  refine hK.out _ _ (fun h_ _ => absurd h_ (by decide)) ?_
  clear hK K_
  try simp only [List.getElem_toArray, List.getElem_cons_zero, List.getElem_cons_succ, Act.put, List.setIfInBounds_toArray, List.set_cons_zero, List.set_cons_succ]
  clear K
  refine wpG_pure (i := 9) (v := ?_) rfl (by kernel_rfl) (by kernel_rfl) (by kernel_rfl) (fun _ _ _ h => h) (Or.inl ⟨by rfl, ?_⟩) ?_
  rotate_left
  · (intro w_ hS; clear hS; go_simp; try with_reducible rfl)
  try simp only [List.getElem_toArray, List.getElem_cons_zero, List.getElem_cons_succ, Act.put, List.setIfInBounds_toArray, List.set_cons_zero, List.set_cons_succ]
  refine wpG_pure (i := 10) (v := ?_) rfl (by kernel_rfl) (by kernel_rfl) (by kernel_rfl) (fun _ _ _ h => h) (Or.inl ⟨by rfl, ?_⟩) ?_
  rotate_left
  · (intro w_ hS; clear hS; go_simp; try with_reducible rfl)
  try simp only [List.getElem_toArray, List.getElem_cons_zero, List.getElem_cons_succ, Act.put, List.setIfInBounds_toArray, List.set_cons_zero, List.set_cons_succ]
  refine wpG_ready (i := 11) rfl (by kernel_rfl) (fun K_ hK => ?_)
  go_simp
  refine hK.out _ _ (fun h_ _ => absurd h_ (by decide)) ?_
  clear hK K_
  try simp only [List.getElem_toArray, List.getElem_cons_zero, List.getElem_cons_succ, Act.put, List.setIfInBounds_toArray, List.set_cons_zero, List.set_cons_succ]
  refine wpG_done (by kernel_rfl) ?_ _
  refine NoPanic.normal ?_
  obtain ⟨n1, hn1⟩ : ∃ n1, n1 = s.costs.length + 1 := ⟨_, rfl⟩
  obtain ⟨s1, hs1⟩ : ∃ s1 : TopS, s1 = ⟨s.size, s.ends, s.homes, s.costs ++ [c]⟩ := ⟨_, rfl⟩
  have HN1 : Hid (n1 = s1.costs.length) := Lib.hid (by rw [hs1, hn1]; simp)
  have KC2 : Hid (TS B w [(w.heap.size, 52, #[.int .i64 a, .int .i64 pa, .int .i64 b, .int .i64 pb, .float .f64 c])] tb eb hb (.slice (some ⟨gc, 0, none⟩) n1 cpc) s1 _) := Lib.hid (by rw [hs1, hn1]; exact KC.out)
  rw [← hn1]
  rw [← hn1] at KC2
  rw [← hs1] at HJ
  have K := KC2
  clear KC2
  generalize w2.setCell ⟨tb, 3, none⟩ (.slice (some ⟨gc, 0, none⟩) n1 cpc) = W1 at *
  clear KC hat2 hlt2 hgrow2 hown2 HO2 hct hcf hi hz0 hz1 hz2 K0 hn1 hs1 hlen HOw
  go_upto_region 2 with fail
  go_cut [5, 6] from 24 (fun p5 p6 wx => ∃ g5 g6, p5 = ptr g5 ∧ p6 = ptr g6 ∧ (g5 ≠ eb ∧ g5 ≠ hb ∧ g6 ≠ eb ∧ g6 ≠ hb) ∧ Hid (TS B w [(g6, 65, #[.int .i64 b, .int .i64 pb]), (g5, 65, #[.int .i64 a, .int .i64 pa]), (w.heap.size, 52, #[.int .i64 a, .int .i64 pa, .int .i64 b, .int .i64 pb, .float .f64 c])] tb eb hb (.slice (some ⟨gc, 0, none⟩) n1 cpc) s1 wx))
  case first =>
    refine wp_region_noPanic ?_
    refine wp_region_G 14 (TS B w [(w.heap.size, 52, #[.int .i64 a, .int .i64 pa, .int .i64 b, .int .i64 pb, .float .f64 c])] tb eb hb (.slice (some ⟨gc, 0, none⟩) n1 cpc) s1) (by kernel_rfl) ?_
    change wpG _ _ _ _ _ 14 #[false, false, false, false, false, false, false, false, false, false, false, false, false, false] _ (World.drew _)
    replace K := Lib.hid K.out.drew
    refine wpG_pure (i := 0) (v := ?_) rfl (by kernel_rfl) (by kernel_rfl) (by kernel_rfl) (fun _ _ _ h => h) (Or.inl ⟨by rfl, ?_⟩) ?_
    rotate_left
    · (intro w_ hS; clear hS; go_simp; try with_reducible rfl)
    try simp only [List.getElem_toArray, List.getElem_cons_zero, List.getElem_cons_succ, Act.put, List.setIfInBounds_toArray, List.set_cons_zero, List.set_cons_succ]
    refine wpG_take (i := 1) (v := ?_) rfl (by kernel_rfl) (by kernel_rfl) (by kernel_rfl) (fun _ _ _ h => h) (Or.inl ⟨by rfl, ?_⟩) K.out ?_
    rotate_left
    · (intro w_ hS; have cq_ := (hS.at 0 rfl).cell 0 _ rfl; clear hS; go_simp; try with_reducible rfl)
    try simp only [List.getElem_toArray, List.getElem_cons_zero, List.getElem_cons_succ, Act.put, List.setIfInBounds_toArray, List.set_cons_zero, List.set_cons_succ]
    refine wpG_pure (i := 2) (v := ?_) rfl (by kernel_rfl) (by kernel_rfl) (by kernel_rfl) (fun _ _ _ h => h) (Or.inl ⟨by rfl, ?_⟩) ?_
    rotate_left
    · (intro w_ hS; clear hS; go_simp; try with_reducible rfl)
    try simp only [List.getElem_toArray, List.getElem_cons_zero, List.getElem_cons_succ, Act.put, List.setIfInBounds_toArray, List.set_cons_zero, List.set_cons_succ]
    refine wpG_take (i := 3) (v := ?_) rfl (by kernel_rfl) (by kernel_rfl) (by kernel_rfl) (fun _ _ _ h => h) (Or.inl ⟨by rfl, ?_⟩) K.out ?_
    rotate_left
    · (intro w_ hS; have cq_ := (hS.at 0 rfl).cell 1 _ rfl; clear hS; go_simp; try with_reducible rfl)
    try simp only [List.getElem_toArray, List.getElem_cons_zero, List.getElem_cons_succ, Act.put, List.setIfInBounds_toArray, List.set_cons_zero, List.set_cons_succ]
    refine wpG_pure (i := 4) (v := ?_) rfl (by kernel_rfl) (by kernel_rfl) (by kernel_rfl) (fun _ _ _ h => h) (Or.inl ⟨by rfl, ?_⟩) ?_
    rotate_left
    · (intro w_ hS; clear hS; go_simp; try with_reducible rfl)
    try simp only [List.getElem_toArray, List.getElem_cons_zero, List.getElem_cons_succ, Act.put, List.setIfInBounds_toArray, List.set_cons_zero, List.set_cons_succ]
    refine wpG_pure (i := 5) (v := ?_) rfl (by kernel_rfl) (by kernel_rfl) (by kernel_rfl) (fun _ _ _ h => h) (Or.inl ⟨by rfl, ?_⟩) ?_
    rotate_left
    · (intro w_ hS; clear hS; go_simp; try with_reducible rfl)
    try simp only [List.getElem_toArray, List.getElem_cons_zero, List.getElem_cons_succ, Act.put, List.setIfInBounds_toArray, List.set_cons_zero, List.set_cons_succ]
    refine wpG_take (i := 6) (v := ?_) rfl (by kernel_rfl) (by kernel_rfl) (by kernel_rfl) (fun _ _ _ h => h) (Or.inl ⟨by rfl, ?_⟩) K.out ?_
    rotate_left
    · (intro w_ hS; have cq_ := (hS.at 0 rfl).cell 2 _ rfl; clear hS; go_simp; try with_reducible rfl)
    try simp only [List.getElem_toArray, List.getElem_cons_zero, List.getElem_cons_succ, Act.put, List.setIfInBounds_toArray, List.set_cons_zero, List.set_cons_succ]
    refine wpG_pure (i := 7) (v := ?_) rfl (by kernel_rfl) (by kernel_rfl) (by kernel_rfl) (fun _ _ _ h => h) (Or.inl ⟨by rfl, ?_⟩) ?_
    rotate_left
    · (intro w_ hS; clear hS; go_simp; try with_reducible rfl)
    try simp only [List.getElem_toArray, List.getElem_cons_zero, List.getElem_cons_succ, Act.put, List.setIfInBounds_toArray, List.set_cons_zero, List.set_cons_succ]
    refine wpG_take (i := 8) (v := ?_) rfl (by kernel_rfl) (by kernel_rfl) (by kernel_rfl) (fun _ _ _ h => h) (Or.inl ⟨by rfl, ?_⟩) K.out ?_
    rotate_left
    · (intro w_ hS; have cq_ := (hS.at 0 rfl).cell 3 _ rfl; clear hS; go_simp; try with_reducible rfl)
    try simp only [List.getElem_toArray, List.getElem_cons_zero, List.getElem_cons_succ, Act.put, List.setIfInBounds_toArray, List.set_cons_zero, List.set_cons_succ]
    refine wpG_pure (i := 9) (v := ?_) rfl (by kernel_rfl) (by kernel_rfl) (by kernel_rfl) (fun _ _ _ h => h) (Or.inl ⟨by rfl, ?_⟩) ?_
    rotate_left
    · (intro w_ hS; clear hS; go_simp; try with_reducible rfl)
    try simp only [List.getElem_toArray, List.getElem_cons_zero, List.getElem_cons_succ, Act.put, List.setIfInBounds_toArray, List.set_cons_zero, List.set_cons_succ]
    have K0 := K
    have HF := Lib.hid (fun (g : Nat) (hg : W1.drew.heap.size ≤ g) => K0.out.far hg)
    refine wpG_two (i := 10) (j := 11) rfl rfl (by kernel_rfl) (fun K_ hK => ?_) (fun K_ hK => ?_)
    · go_simp
      replace K := Lib.hid (K.out.new 65 #[.int .i64 0, .int .i64 0])
      refine hK.out _ _ (fun h_ _ => K.out.sub (fun x hx => .tail _ hx)) ?_
      clear hK K_
      try simp only [List.getElem_toArray, List.getElem_cons_zero, List.getElem_cons_succ, Act.put, List.setIfInBounds_toArray, List.set_cons_zero, List.set_cons_succ]
      refine wpG_ready (i := 11) rfl (by kernel_rfl) (fun K_ hK => ?_)
      go_simp
      replace K := Lib.hid (K.out.new 65 #[.int .i64 0, .int .i64 0])
      refine hK.out _ _ (fun h_ _ => K.out.sub (fun x hx => .tail _ (.tail _ hx))) ?_
      clear hK K_
      try simp only [List.getElem_toArray, List.getElem_cons_zero, List.getElem_cons_succ, Act.put, List.setIfInBounds_toArray, List.set_cons_zero, List.set_cons_succ]
      have hq1 : (W1.drew.alloc (.cells #[.int .i64 0, .int .i64 0] 65)).heap.size = W1.heap.size + 1 := by simp
      rw [hq1] at K
      refine wpG_ready (i := 12) rfl (by kernel_rfl) (fun K_ hK => ?_)
      rw [if_pos (by rfl)]
      refine wp_store_row 65 _ _ rfl _ rfl #[.int .i64 a, .int .i64 pa] rfl _ _ (K.out.at 1 rfl) rfl (by kernel_rfl) (by simp [Value.oneCell']) ?_
      intro wx hx1 hx2
      have K2 : Hid (TS B w ((W1.heap.size, 65, #[.int .i64 a, .int .i64 pa]) :: (W1.heap.size + 1, 65, #[.int .i64 0, .int .i64 0]) :: [(w.heap.size, 52, #[.int .i64 a, .int .i64 pa, .int .i64 b, .int .i64 pb, .float .f64 c])]) tb eb hb (.slice (some ⟨gc, 0, none⟩) n1 cpc) s1 wx) := Lib.hid (K.out.box1 hx2 hx1 (HF.out _ (Nat.le_refl _)).1 (fun x hx => by rcases List.mem_cons.1 hx with rfl | hx; exact .head _; exact .tail _ (.tail _ hx)) (fun x hx => by rcases List.mem_cons.1 hx with rfl | hx; (simp only; omega); exact (HF.out _ (Nat.le_refl _)).2 x hx))
      clear hx1 hx2 K
      have K := K2
      clear K2
      refine hK.out _ _ (fun h_ _ => K.out.sub (fun x hx => .tail _ (.tail _ hx))) ?_
      clear hK K_
      try simp only [List.getElem_toArray, List.getElem_cons_zero, List.getElem_cons_succ, Act.put, List.setIfInBounds_toArray, List.set_cons_zero, List.set_cons_succ]
      refine wpG_ready (i := 13) rfl (by kernel_rfl) (fun K_ hK => ?_)
      rw [if_pos (by rfl)]
      refine wp_store_row 65 _ _ rfl _ rfl #[.int .i64 b, .int .i64 pb] rfl _ _ (K.out.at 1 rfl) rfl (by kernel_rfl) (by simp [Value.oneCell']) ?_
      intro wy hx1 hx2
      have K2 : Hid (TS B w ((W1.heap.size + 1, 65, #[.int .i64 b, .int .i64 pb]) :: (W1.heap.size, 65, #[.int .i64 a, .int .i64 pa]) :: [(w.heap.size, 52, #[.int .i64 a, .int .i64 pa, .int .i64 b, .int .i64 pb, .float .f64 c])]) tb eb hb (.slice (some ⟨gc, 0, none⟩) n1 cpc) s1 wy) := Lib.hid (K.out.box1 hx2 hx1 (HF.out _ (Nat.le_succ _)).1 (fun x hx => by rcases List.mem_cons.1 hx with rfl | hx; exact .head _; exact .tail _ (.tail _ hx)) (fun x hx => by rcases List.mem_cons.1 hx with rfl | hx; (simp only; omega); exact (HF.out _ (Nat.le_succ _)).2 x hx))
      refine hK.out _ _ (fun h_ _ => K2.out.sub (fun x hx => .tail _ (.tail _ hx))) ?_
      clear hK K_ hx1 hx2 K
      try simp only [List.getElem_toArray, List.getElem_cons_zero, List.getElem_cons_succ, Act.put, List.setIfInBounds_toArray, List.set_cons_zero, List.set_cons_succ]
      refine wpG_done (by kernel_rfl) ?_ _
      refine NoPanic.normal ?_
      go_wp2_with fail
      go_meet
      case rel => exact ⟨_, _, rfl, rfl, ⟨(HF.out _ (Nat.le_refl _)).1.2.1.2.1, (HF.out _ (Nat.le_refl _)).1.2.1.2.2, (HF.out _ (Nat.le_succ _)).1.2.1.2.1, (HF.out _ (Nat.le_succ _)).1.2.1.2.2⟩, K2⟩
    · go_simp
      replace K := Lib.hid (K.out.new 65 #[.int .i64 0, .int .i64 0])
      refine hK.out _ _ (fun h_ _ => K.out.sub (fun x hx => .tail _ hx)) ?_
      clear hK K_
      try simp only [List.getElem_toArray, List.getElem_cons_zero, List.getElem_cons_succ, Act.put, List.setIfInBounds_toArray, List.set_cons_zero, List.set_cons_succ]
      refine wpG_ready (i := 10) rfl (by kernel_rfl) (fun K_ hK => ?_)
      go_simp
      replace K := Lib.hid (K.out.new 65 #[.int .i64 0, .int .i64 0])
      refine hK.out _ _ (fun h_ _ => K.out.sub (fun x hx => .tail _ (.tail _ hx))) ?_
      clear hK K_
      try simp only [List.getElem_toArray, List.getElem_cons_zero, List.getElem_cons_succ, Act.put, List.setIfInBounds_toArray, List.set_cons_zero, List.set_cons_succ]
      have hq1 : (W1.drew.alloc (.cells #[.int .i64 0, .int .i64 0] 65)).heap.size = W1.heap.size + 1 := by simp
      rw [hq1] at K
      refine wpG_ready (i := 12) rfl (by kernel_rfl) (fun K_ hK => ?_)
      rw [if_pos (by rfl)]
      refine wp_store_row 65 _ _ rfl _ rfl #[.int .i64 a, .int .i64 pa] rfl _ _ (K.out.at 0 rfl) rfl (by kernel_rfl) (by simp [Value.oneCell']) ?_
      intro wx hx1 hx2
      have K2 : Hid (TS B w ((W1.heap.size + 1, 65, #[.int .i64 a, .int .i64 pa]) :: (W1.heap.size, 65, #[.int .i64 0, .int .i64 0]) :: [(w.heap.size, 52, #[.int .i64 a, .int .i64 pa, .int .i64 b, .int .i64 pb, .float .f64 c])]) tb eb hb (.slice (some ⟨gc, 0, none⟩) n1 cpc) s1 wx) := Lib.hid (K.out.box1 hx2 hx1 (HF.out _ (Nat.le_succ _)).1 (fun x hx => .tail _ hx) (fun x hx => by rcases List.mem_cons.1 hx with rfl | hx; (simp only; omega); exact (HF.out _ (Nat.le_succ _)).2 x hx))
      clear hx1 hx2 K
      have K := K2
      clear K2
      refine hK.out _ _ (fun h_ _ => K.out.sub (fun x hx => .tail _ (.tail _ hx))) ?_
      clear hK K_
      try simp only [List.getElem_toArray, List.getElem_cons_zero, List.getElem_cons_succ, Act.put, List.setIfInBounds_toArray, List.set_cons_zero, List.set_cons_succ]
      refine wpG_ready (i := 13) rfl (by kernel_rfl) (fun K_ hK => ?_)
      rw [if_pos (by rfl)]
      refine wp_store_row 65 _ _ rfl _ rfl #[.int .i64 b, .int .i64 pb] rfl _ _ (K.out.at 1 rfl) rfl (by kernel_rfl) (by simp [Value.oneCell']) ?_
      intro wy hx1 hx2
      have K2 : Hid (TS B w ((W1.heap.size, 65, #[.int .i64 b, .int .i64 pb]) :: (W1.heap.size + 1, 65, #[.int .i64 a, .int .i64 pa]) :: [(w.heap.size, 52, #[.int .i64 a, .int .i64 pa, .int .i64 b, .int .i64 pb, .float .f64 c])]) tb eb hb (.slice (some ⟨gc, 0, none⟩) n1 cpc) s1 wy) := Lib.hid (K.out.box1 hx2 hx1 (HF.out _ (Nat.le_refl _)).1 (fun x hx => by rcases List.mem_cons.1 hx with rfl | hx; exact .head _; exact .tail _ (.tail _ hx)) (fun x hx => by rcases List.mem_cons.1 hx with rfl | hx; (simp only; omega); exact (HF.out _ (Nat.le_refl _)).2 x hx))
      refine hK.out _ _ (fun h_ _ => K2.out.sub (fun x hx => .tail _ (.tail _ hx))) ?_
      clear hK K_ hx1 hx2 K
      try simp only [List.getElem_toArray, List.getElem_cons_zero, List.getElem_cons_succ, Act.put, List.setIfInBounds_toArray, List.set_cons_zero, List.set_cons_succ]
      refine wpG_done (by kernel_rfl) ?_ _
      refine NoPanic.normal ?_
      go_wp2_with fail
      go_meet
      case rel => exact ⟨_, _, rfl, rfl, ⟨(HF.out _ (Nat.le_succ _)).1.2.1.2.1, (HF.out _ (Nat.le_succ _)).1.2.1.2.2, (HF.out _ (Nat.le_refl _)).1.2.1.2.1, (HF.out _ (Nat.le_refl _)).1.2.1.2.2⟩, K2⟩
  case rest =>
    obtain ⟨g5, g6, rfl, rfl, hgs, K3⟩ := hcut
    clear K
    have K := K3
    have HGs := Lib.hid hgs
    clear K3 hgs
    go_upto_region 3 with fail
    refine wp_region_noPanic ?_
    refine wp_region_G 12 (TS B w [(g6, 65, #[.int .i64 b, .int .i64 pb]), (g5, 65, #[.int .i64 a, .int .i64 pa]), (w.heap.size, 52, #[.int .i64 a, .int .i64 pa, .int .i64 b, .int .i64 pb, .float .f64 c])] tb eb hb (.slice (some ⟨gc, 0, none⟩) n1 cpc) s1) (by kernel_rfl) ?_
    change wpG _ _ _ _ _ 12 #[false, false, false, false, false, false, false, false, false, false, false, false] _ (World.drew _)
    replace K := Lib.hid K.out.drew
    refine wpG_pure (i := 0) (v := ?_) rfl (by kernel_rfl) (by kernel_rfl) (by kernel_rfl) (fun _ _ _ h => h) (Or.inl ⟨by rfl, ?_⟩) ?_
    rotate_left
    · (intro w_ hS; clear hS; go_simp; try with_reducible rfl)
    try simp only [List.getElem_toArray, List.getElem_cons_zero, List.getElem_cons_succ, Act.put, List.setIfInBounds_toArray, List.set_cons_zero, List.set_cons_succ]
    refine wpG_pure (i := 1) (v := ?_) rfl (by kernel_rfl) (by kernel_rfl) (by kernel_rfl) (fun _ _ _ h => h) (Or.inl ⟨by rfl, ?_⟩) ?_
    rotate_left
    · (intro w_ hS; clear hS; go_simp; try with_reducible rfl)
    try simp only [List.getElem_toArray, List.getElem_cons_zero, List.getElem_cons_succ, Act.put, List.setIfInBounds_toArray, List.set_cons_zero, List.set_cons_succ]
    refine wpG_pure (i := 2) (v := ?_) rfl (by kernel_rfl) (by kernel_rfl) (by kernel_rfl) (fun _ _ _ h => h) (Or.inl ⟨by rfl, ?_⟩) ?_
    rotate_left
    · (intro w_ hS; clear hS; go_simp; try with_reducible rfl)
    try simp only [List.getElem_toArray, List.getElem_cons_zero, List.getElem_cons_succ, Act.put, List.setIfInBounds_toArray, List.set_cons_zero, List.set_cons_succ]
    refine wpG_take (i := 3) (v := ?_) rfl (by kernel_rfl) (by kernel_rfl) (by kernel_rfl) (fun _ _ _ h => h) (Or.inl ⟨by rfl, ?_⟩) K.out ?_
    rotate_left
    · (intro w_ hS; have cq_ := hS.2.tab.cell 1 _ rfl; clear hS; go_simp; try with_reducible rfl)
    try simp only [List.getElem_toArray, List.getElem_cons_zero, List.getElem_cons_succ, Act.put, List.setIfInBounds_toArray, List.set_cons_zero, List.set_cons_succ]
    refine wpG_take (i := 4) rfl (by kernel_rfl) (by kernel_rfl) (by kernel_rfl) (fun _ _ _ h => h) (Or.inl ⟨by rfl, fun w_ hS => exec_row 65 _ rfl _ rfl _ (run_loadVar_row w_ _ _ 65 _ (0, 0) _ (hS.at 1 rfl) Try.underlying65 rfl (by kernel_rfl))⟩) K.out ?_
    try simp only [List.getElem_toArray, List.getElem_cons_zero, List.getElem_cons_succ, Act.put, List.setIfInBounds_toArray, List.set_cons_zero, List.set_cons_succ]
    refine wpG_take (i := 5) (v := ?_) rfl (by kernel_rfl) (by kernel_rfl) (by kernel_rfl) (fun _ _ _ h => h) (Or.inl ⟨by rfl, ?_⟩) K.out ?_
    rotate_left
    · (intro w_ hS; have cq_ := hS.2.lookEt a pa HWa.out HWpa.out; clear hS; go_simp; try with_reducible rfl)
    try simp only [List.getElem_toArray, List.getElem_cons_zero, List.getElem_cons_succ, Act.put, List.setIfInBounds_toArray, List.set_cons_zero, List.set_cons_succ]
    refine wpG_pure (i := 6) (v := ?_) rfl (by kernel_rfl) (by kernel_rfl) (by kernel_rfl) (fun _ _ _ h => h) (Or.inl ⟨by rfl, ?_⟩) ?_
    rotate_left
    · (intro w_ hS; clear hS; go_simp; try with_reducible rfl)
    try simp only [List.getElem_toArray, List.getElem_cons_zero, List.getElem_cons_succ, Act.put, List.setIfInBounds_toArray, List.set_cons_zero, List.set_cons_succ]
    refine wpG_pure (i := 7) (v := ?_) rfl (by kernel_rfl) (by kernel_rfl) (by kernel_rfl) (fun _ _ _ h => h) (Or.inl ⟨by rfl, ?_⟩) ?_
    rotate_left
    · (intro w_ hS; clear hS; go_simp; try with_reducible rfl)
    try simp only [List.getElem_toArray, List.getElem_cons_zero, List.getElem_cons_succ, Act.put, List.setIfInBounds_toArray, List.set_cons_zero, List.set_cons_succ]
    refine wpG_pure (i := 8) (v := ?_) rfl (by kernel_rfl) (by kernel_rfl) (by kernel_rfl) (fun _ _ _ h => h) (Or.inl ⟨by rfl, ?_⟩) ?_
    rotate_left
    · (intro w_ hS; clear hS; go_simp; try with_reducible rfl)
    try simp only [List.getElem_toArray, List.getElem_cons_zero, List.getElem_cons_succ, Act.put, List.setIfInBounds_toArray, List.set_cons_zero, List.set_cons_succ]
    have K0 := K
    refine wpG_ready (i := 9) rfl (by kernel_rfl) (fun K_ hK => ?_)
    go_simp
    replace K := Lib.hid (K.out.new 67 #[.int .i64 0, .int .i64 0, .int .i64 0])
    refine hK.out _ _ (fun h_ _ => K.out.sub (fun x hx => .tail _ hx)) ?_
    clear hK K_
    try simp only [List.getElem_toArray, List.getElem_cons_zero, List.getElem_cons_succ, Act.put, List.setIfInBounds_toArray, List.set_cons_zero, List.set_cons_succ]
    refine wpG_ready (i := 10) rfl (by kernel_rfl) (fun K_ hK => ?_)
    rw [if_pos (by rfl)]
    refine wp_store_row 67 _ _ rfl _ rfl #[.int .i64 (peerF s1 (a, pa)).1, .int .i64 (peerF s1 (a, pa)).2.1, .int .i64 (peerF s1 (a, pa)).2.2] rfl _ _ (K.out.at 0 rfl) rfl (by kernel_rfl) (by simp [Value.oneCell']) ?_
    intro wx hx1 hx2
    replace K := Lib.hid (K0.out.away hx2)
    refine hK.out _ _ (fun h_ _ => K.out) ?_
    clear hK K_ hx1 hx2 K0
    try simp only [List.getElem_toArray, List.getElem_cons_zero, List.getElem_cons_succ, Act.put, List.setIfInBounds_toArray, List.set_cons_zero, List.set_cons_succ]
    refine wpG_pure (i := 11) (v := ?_) rfl (by kernel_rfl) (by kernel_rfl) (by kernel_rfl) (fun _ _ _ h => h) (Or.inl ⟨by rfl, ?_⟩) ?_
    rotate_left
    · (intro w_ hS; clear hS; go_simp; try with_reducible rfl)
    try simp only [List.getElem_toArray, List.getElem_cons_zero, List.getElem_cons_succ, Act.put, List.setIfInBounds_toArray, List.set_cons_zero, List.set_cons_succ]
    refine wpG_done (by kernel_rfl) ?_ _
    refine NoPanic.normal ?_
    generalize wx = W3 at *
    obtain ⟨T, hT⟩ : ∃ T, T = (lookL s1.ends (a, pa)).isSome := ⟨_, rfl⟩
    rw [← hT]
    have HT := Lib.hid hT
    clear hT
    by_cases hb0 : b < 0
    · have tb0 : decide (b < 0) = true := decide_eq_true hb0
      have cb := (K.out.at 2 rfl).cell 2 _ rfl
      have hng : IntKind.i64.wrap (-b) = -b := IntWalk.i64_in _ (by omega)
      have hnb : wfI (-b) := wfI_of (by omega) (by omega)
      have HNb := Lib.hid hnb
      clear hnb
      go_upto_region 5 with fail
      clear cb
      refine wp_region_noPanic ?_
      refine wp_region_G 14 (TS B w [(g6, 65, #[.int .i64 b, .int .i64 pb]), (g5, 65, #[.int .i64 a, .int .i64 pa]), (w.heap.size, 52, #[.int .i64 a, .int .i64 pa, .int .i64 b, .int .i64 pb, .float .f64 c])] tb eb hb (.slice (some ⟨gc, 0, none⟩) n1 cpc) s1) (by kernel_rfl) ?_
      change wpG _ _ _ _ _ 14 #[false, false, false, false, false, false, false, false, false, false, false, false, false, false] _ (World.drew _)
      replace K := Lib.hid K.out.drew
      refine wpG_pure (i := 0) (v := ?_) rfl (by kernel_rfl) (by kernel_rfl) (by kernel_rfl) (fun _ _ _ h => h) (Or.inl ⟨by rfl, ?_⟩) ?_
      rotate_left
      · (intro w_ hS; clear hS; go_simp; try with_reducible rfl)
      try simp only [List.getElem_toArray, List.getElem_cons_zero, List.getElem_cons_succ, Act.put, List.setIfInBounds_toArray, List.set_cons_zero, List.set_cons_succ]
      refine wpG_pure (i := 1) (v := ?_) rfl (by kernel_rfl) (by kernel_rfl) (by kernel_rfl) (fun _ _ _ h => h) (Or.inl ⟨by rfl, ?_⟩) ?_
      rotate_left
      · (intro w_ hS; clear hS; go_simp; try with_reducible rfl)
      try simp only [List.getElem_toArray, List.getElem_cons_zero, List.getElem_cons_succ, Act.put, List.setIfInBounds_toArray, List.set_cons_zero, List.set_cons_succ]
      refine wpG_pure (i := 2) (v := ?_) rfl (by kernel_rfl) (by kernel_rfl) (by kernel_rfl) (fun _ _ _ h => h) (Or.inl ⟨by rfl, ?_⟩) ?_
      rotate_left
      · (intro w_ hS; clear hS; go_simp; try with_reducible rfl)
      try simp only [List.getElem_toArray, List.getElem_cons_zero, List.getElem_cons_succ, Act.put, List.setIfInBounds_toArray, List.set_cons_zero, List.set_cons_succ]
      refine wpG_take (i := 3) (v := ?_) rfl (by kernel_rfl) (by kernel_rfl) (by kernel_rfl) (fun _ _ _ h => h) (Or.inl ⟨by rfl, ?_⟩) K.out ?_
      rotate_left
      · (intro w_ hS; have cq_ := hS.2.tab.cell 2 _ rfl; clear hS; go_simp; try with_reducible rfl)
      try simp only [List.getElem_toArray, List.getElem_cons_zero, List.getElem_cons_succ, Act.put, List.setIfInBounds_toArray, List.set_cons_zero, List.set_cons_succ]
      refine wpG_pure (i := 4) (v := ?_) rfl (by kernel_rfl) (by kernel_rfl) (by kernel_rfl) (fun _ _ _ h => h) (Or.inl ⟨by rfl, ?_⟩) ?_
      rotate_left
      · (intro w_ hS; clear hS; go_simp; try with_reducible rfl)
      try simp only [List.getElem_toArray, List.getElem_cons_zero, List.getElem_cons_succ, Act.put, List.setIfInBounds_toArray, List.set_cons_zero, List.set_cons_succ]
      refine wpG_take (i := 5) (v := ?_) rfl (by kernel_rfl) (by kernel_rfl) (by kernel_rfl) (fun _ _ _ h => h) (Or.inl ⟨by rfl, ?_⟩) K.out ?_
      rotate_left
      · (intro w_ hS; have cq_ := (hS.at 2 rfl).cell 2 _ rfl; clear hS; go_simp; try with_reducible rfl)
      try simp only [List.getElem_toArray, List.getElem_cons_zero, List.getElem_cons_succ, Act.put, List.setIfInBounds_toArray, List.set_cons_zero, List.set_cons_succ]
      refine wpG_pure (i := 6) (v := ?_) rfl (by kernel_rfl) (by kernel_rfl) (by kernel_rfl) (fun _ _ _ h => h) (Or.inl ⟨by rfl, ?_⟩) ?_
      rotate_left
      · (intro w_ hS; clear hS; go_simp; try with_reducible rfl)
      try simp only [List.getElem_toArray, List.getElem_cons_zero, List.getElem_cons_succ, Act.put, List.setIfInBounds_toArray, List.set_cons_zero, List.set_cons_succ]
      refine wpG_take (i := 7) (v := ?_) rfl (by kernel_rfl) (by kernel_rfl) (by kernel_rfl) (fun _ _ _ h => h) (Or.inl ⟨by rfl, ?_⟩) K.out ?_
      rotate_left
      · (intro w_ hS; have cq_ := hS.2.lookHt (-b) HNb.out; clear hS; go_simp; try with_reducible rfl)
      try simp only [List.getElem_toArray, List.getElem_cons_zero, List.getElem_cons_succ, Act.put, List.setIfInBounds_toArray, List.set_cons_zero, List.set_cons_succ]
      refine wpG_pure (i := 8) (v := ?_) rfl (by kernel_rfl) (by kernel_rfl) (by kernel_rfl) (fun _ _ _ h => h) (Or.inl ⟨by rfl, ?_⟩) ?_
      rotate_left
      · (intro w_ hS; clear hS; go_simp; try with_reducible rfl)
      try simp only [List.getElem_toArray, List.getElem_cons_zero, List.getElem_cons_succ, Act.put, List.setIfInBounds_toArray, List.set_cons_zero, List.set_cons_succ]
      refine wpG_pure (i := 9) (v := ?_) rfl (by kernel_rfl) (by kernel_rfl) (by kernel_rfl) (fun _ _ _ h => h) (Or.inl ⟨by rfl, ?_⟩) ?_
      rotate_left
      · (intro w_ hS; clear hS; go_simp; try with_reducible rfl)
      try simp only [List.getElem_toArray, List.getElem_cons_zero, List.getElem_cons_succ, Act.put, List.setIfInBounds_toArray, List.set_cons_zero, List.set_cons_succ]
      refine wpG_pure (i := 10) (v := ?_) rfl (by kernel_rfl) (by kernel_rfl) (by kernel_rfl) (fun _ _ _ h => h) (Or.inl ⟨by rfl, ?_⟩) ?_
      rotate_left
      · (intro w_ hS; clear hS; go_simp; try with_reducible rfl)
      try simp only [List.getElem_toArray, List.getElem_cons_zero, List.getElem_cons_succ, Act.put, List.setIfInBounds_toArray, List.set_cons_zero, List.set_cons_succ]
      have K0 := K
      refine wpG_ready (i := 11) rfl (by kernel_rfl) (fun K_ hK => ?_)
      go_simp
      replace K := Lib.hid (K.out.new 65 #[.int .i64 0, .int .i64 0])
      refine hK.out _ _ (fun h_ _ => K.out.sub (fun x hx => .tail _ hx)) ?_
      clear hK K_
      try simp only [List.getElem_toArray, List.getElem_cons_zero, List.getElem_cons_succ, Act.put, List.setIfInBounds_toArray, List.set_cons_zero, List.set_cons_succ]
      refine wpG_ready (i := 12) rfl (by kernel_rfl) (fun K_ hK => ?_)
      rw [if_pos (by rfl)]
      refine wp_store_row 65 _ _ rfl _ rfl #[.int .i64 (homeF s1 (-b)).1, .int .i64 (homeF s1 (-b)).2] rfl _ _ (K.out.at 0 rfl) rfl (by kernel_rfl) (by simp [Value.oneCell']) ?_
      intro wx hx1 hx2
      replace K := Lib.hid (K0.out.away hx2)
      refine hK.out _ _ (fun h_ _ => K.out) ?_
      clear hK K_ hx1 hx2 K0
      try simp only [List.getElem_toArray, List.getElem_cons_zero, List.getElem_cons_succ, Act.put, List.setIfInBounds_toArray, List.set_cons_zero, List.set_cons_succ]
      refine wpG_pure (i := 13) (v := ?_) rfl (by kernel_rfl) (by kernel_rfl) (by kernel_rfl) (fun _ _ _ h => h) (Or.inl ⟨by rfl, ?_⟩) ?_
      rotate_left
      · (intro w_ hS; clear hS; go_simp; try with_reducible rfl)
      try simp only [List.getElem_toArray, List.getElem_cons_zero, List.getElem_cons_succ, Act.put, List.setIfInBounds_toArray, List.set_cons_zero, List.set_cons_succ]
      refine wpG_done (by kernel_rfl) ?_ _
      refine NoPanic.normal ?_
      generalize wx = W4 at *
      obtain ⟨U, hU⟩ : ∃ U, U = (lookL s1.homes (-b)).isSome := ⟨_, rfl⟩
      rw [← hU]
      have HU := Lib.hid hU
      clear hU
      cases T
      · cases U
        · go_upto_region 8 with fail
          refine wp_region_noPanic ?_
          refine wp_region_G 8 (TS B w [(g6, 65, #[.int .i64 b, .int .i64 pb]), (g5, 65, #[.int .i64 a, .int .i64 pa]), (w.heap.size, 52, #[.int .i64 a, .int .i64 pa, .int .i64 b, .int .i64 pb, .float .f64 c])] tb eb hb (.slice (some ⟨gc, 0, none⟩) n1 cpc) s1) (by kernel_rfl) ?_
          change wpG _ _ _ _ _ 9 #[false, false, false, false, false, false, false, false, false] _ (World.drew _)
          replace K := Lib.hid K.out.drew
          refine wpG_pure (i := 0) (v := ?_) rfl (by kernel_rfl) (by kernel_rfl) (by kernel_rfl) (fun _ _ _ h => h) (Or.inl ⟨by rfl, ?_⟩) ?_
          rotate_left
          · (intro w_ hS; clear hS; go_simp; try with_reducible rfl)
          try simp only [List.getElem_toArray, List.getElem_cons_zero, List.getElem_cons_succ, Act.put, List.setIfInBounds_toArray, List.set_cons_zero, List.set_cons_succ]
          refine wpG_pure (i := 1) (v := ?_) rfl (by kernel_rfl) (by kernel_rfl) (by kernel_rfl) (fun _ _ _ h => h) (Or.inl ⟨by rfl, ?_⟩) ?_
          rotate_left
          · (intro w_ hS; clear hS; go_simp; try with_reducible rfl)
          try simp only [List.getElem_toArray, List.getElem_cons_zero, List.getElem_cons_succ, Act.put, List.setIfInBounds_toArray, List.set_cons_zero, List.set_cons_succ]
          refine wpG_pure (i := 2) (v := ?_) rfl (by kernel_rfl) (by kernel_rfl) (by kernel_rfl) (fun _ _ _ h => h) (Or.inl ⟨by rfl, ?_⟩) ?_
          rotate_left
          · (intro w_ hS; clear hS; go_simp; try with_reducible rfl)
          try simp only [List.getElem_toArray, List.getElem_cons_zero, List.getElem_cons_succ, Act.put, List.setIfInBounds_toArray, List.set_cons_zero, List.set_cons_succ]
          refine wpG_take (i := 3) (v := ?_) rfl (by kernel_rfl) (by kernel_rfl) (by kernel_rfl) (fun _ _ _ h => h) (Or.inl ⟨by rfl, ?_⟩) K.out ?_
          rotate_left
          · (intro w_ hS; have cq_ := hS.2.tab.cell 2 _ rfl; clear hS; go_simp; try with_reducible rfl)
          try simp only [List.getElem_toArray, List.getElem_cons_zero, List.getElem_cons_succ, Act.put, List.setIfInBounds_toArray, List.set_cons_zero, List.set_cons_succ]
          refine wpG_pure (i := 4) (v := ?_) rfl (by kernel_rfl) (by kernel_rfl) (by kernel_rfl) (fun _ _ _ h => h) (Or.inl ⟨by rfl, ?_⟩) ?_
          rotate_left
          · (intro w_ hS; clear hS; go_simp; try with_reducible rfl)
          try simp only [List.getElem_toArray, List.getElem_cons_zero, List.getElem_cons_succ, Act.put, List.setIfInBounds_toArray, List.set_cons_zero, List.set_cons_succ]
          refine wpG_take (i := 5) (v := ?_) rfl (by kernel_rfl) (by kernel_rfl) (by kernel_rfl) (fun _ _ _ h => h) (Or.inl ⟨by rfl, ?_⟩) K.out ?_
          rotate_left
          · (intro w_ hS; have cq_ := (hS.at 2 rfl).cell 2 _ rfl; clear hS; go_simp; try with_reducible rfl)
          try simp only [List.getElem_toArray, List.getElem_cons_zero, List.getElem_cons_succ, Act.put, List.setIfInBounds_toArray, List.set_cons_zero, List.set_cons_succ]
          refine wpG_pure (i := 6) (v := ?_) rfl (by kernel_rfl) (by kernel_rfl) (by kernel_rfl) (fun _ _ _ h => h) (Or.inl ⟨by rfl, ?_⟩) ?_
          rotate_left
          · (intro w_ hS; clear hS; go_simp; try with_reducible rfl)
          try simp only [List.getElem_toArray, List.getElem_cons_zero, List.getElem_cons_succ, Act.put, List.setIfInBounds_toArray, List.set_cons_zero, List.set_cons_succ]
          refine wpG_take (i := 7) rfl (by kernel_rfl) (by kernel_rfl) (by kernel_rfl) (fun _ _ _ h => h) (Or.inl ⟨by rfl, fun w_ hS => exec_row 65 _ rfl _ rfl _ (run_loadVar_row w_ _ _ 65 _ (0, 0) _ (hS.at 1 rfl) Try.underlying65 rfl (by kernel_rfl))⟩) K.out ?_
          try simp only [List.getElem_toArray, List.getElem_cons_zero, List.getElem_cons_succ, Act.put, List.setIfInBounds_toArray, List.set_cons_zero, List.set_cons_succ]
          obtain ⟨W5, hup, hT5⟩ := K.out.homes_set (-b) a pa HNb.out HU.out.symm (by
            intro x hx
            have h1 := HGs.out
            have h2 := HLt.out
            rcases List.mem_cons.1 hx with rfl | hx
            · exact h1.2.2.2
            rcases List.mem_cons.1 hx with rfl | hx
            · exact h1.2.1
            obtain rfl := List.mem_singleton.1 hx
            simp only
            omega)
          clear K
          have K := Lib.hid hT5
          clear hT5
          refine wpG_ready (i := 8) rfl (by kernel_rfl) (fun K_ hK => ?_)
          go_simp
          refine hK.out _ _ (fun h_ _ => absurd h_ (by decide)) ?_
          clear hK K_
          try simp only [List.getElem_toArray, List.getElem_cons_zero, List.getElem_cons_succ, Act.put, List.setIfInBounds_toArray, List.set_cons_zero, List.set_cons_succ]
          refine wpG_done (by kernel_rfl) ?_ _
          refine NoPanic.normal ?_
          clear hup
          go_upto_region 13 with fail
          refine wp_region_noPanic ?_
          refine wp_region_G 12 (TS B w [(g6, 65, #[.int .i64 b, .int .i64 pb]), (g5, 65, #[.int .i64 a, .int .i64 pa]), (w.heap.size, 52, #[.int .i64 a, .int .i64 pa, .int .i64 b, .int .i64 pb, .float .f64 c])] tb eb hb (.slice (some ⟨gc, 0, none⟩) n1 cpc) ⟨s1.size, s1.ends, s1.homes ++ [(-b, (a, pa))], s1.costs⟩) (by kernel_rfl) ?_
          change wpG _ _ _ _ _ 13 #[false, false, false, false, false, false, false, false, false, false, false, false, false] _ (World.drew _)
          replace K := Lib.hid K.out.drew
          refine wpG_pure (i := 0) (v := ?_) rfl (by kernel_rfl) (by kernel_rfl) (by kernel_rfl) (fun _ _ _ h => h) (Or.inl ⟨by rfl, ?_⟩) ?_
          rotate_left
          · (intro w_ hS; clear hS; go_simp; try with_reducible rfl)
          try simp only [List.getElem_toArray, List.getElem_cons_zero, List.getElem_cons_succ, Act.put, List.setIfInBounds_toArray, List.set_cons_zero, List.set_cons_succ]
          refine wpG_pure (i := 1) (v := ?_) rfl (by kernel_rfl) (by kernel_rfl) (by kernel_rfl) (fun _ _ _ h => h) (Or.inl ⟨by rfl, ?_⟩) ?_
          rotate_left
          · (intro w_ hS; clear hS; go_simp; try with_reducible rfl)
          try simp only [List.getElem_toArray, List.getElem_cons_zero, List.getElem_cons_succ, Act.put, List.setIfInBounds_toArray, List.set_cons_zero, List.set_cons_succ]
          refine wpG_pure (i := 2) (v := ?_) rfl (by kernel_rfl) (by kernel_rfl) (by kernel_rfl) (fun _ _ _ h => h) (Or.inl ⟨by rfl, ?_⟩) ?_
          rotate_left
          · (intro w_ hS; clear hS; go_simp; try with_reducible rfl)
          try simp only [List.getElem_toArray, List.getElem_cons_zero, List.getElem_cons_succ, Act.put, List.setIfInBounds_toArray, List.set_cons_zero, List.set_cons_succ]
          refine wpG_take (i := 3) (v := ?_) rfl (by kernel_rfl) (by kernel_rfl) (by kernel_rfl) (fun _ _ _ h => h) (Or.inl ⟨by rfl, ?_⟩) K.out ?_
          rotate_left
          · (intro w_ hS; have cq_ := hS.2.tab.cell 1 _ rfl; clear hS; go_simp; try with_reducible rfl)
          try simp only [List.getElem_toArray, List.getElem_cons_zero, List.getElem_cons_succ, Act.put, List.setIfInBounds_toArray, List.set_cons_zero, List.set_cons_succ]
          refine wpG_take (i := 4) rfl (by kernel_rfl) (by kernel_rfl) (by kernel_rfl) (fun _ _ _ h => h) (Or.inl ⟨by rfl, fun w_ hS => exec_row 65 _ rfl _ rfl _ (run_loadVar_row w_ _ _ 65 _ (0, 0) _ (hS.at 1 rfl) Try.underlying65 rfl (by kernel_rfl))⟩) K.out ?_
          try simp only [List.getElem_toArray, List.getElem_cons_zero, List.getElem_cons_succ, Act.put, List.setIfInBounds_toArray, List.set_cons_zero, List.set_cons_succ]
          refine wpG_take (i := 5) rfl (by kernel_rfl) (by kernel_rfl) (by kernel_rfl) (fun _ _ _ h => h) (Or.inl ⟨by rfl, fun w_ hS => exec_row 65 _ rfl _ rfl _ (run_loadVar_row w_ _ _ 65 _ (0, 0) _ (hS.at 0 rfl) Try.underlying65 rfl (by kernel_rfl))⟩) K.out ?_
          try simp only [List.getElem_toArray, List.getElem_cons_zero, List.getElem_cons_succ, Act.put, List.setIfInBounds_toArray, List.set_cons_zero, List.set_cons_succ]
          refine wpG_pure (i := 6) (v := ?_) rfl (by kernel_rfl) (by kernel_rfl) (by kernel_rfl) (fun _ _ _ h => h) (Or.inl ⟨by rfl, ?_⟩) ?_
          rotate_left
          · (intro w_ hS; clear hS; go_simp; try with_reducible rfl)
          try simp only [List.getElem_toArray, List.getElem_cons_zero, List.getElem_cons_succ, Act.put, List.setIfInBounds_toArray, List.set_cons_zero, List.set_cons_succ]
          refine wpG_pure (i := 7) (v := ?_) rfl (by kernel_rfl) (by kernel_rfl) (by kernel_rfl) (fun _ _ _ h => h) (Or.inl ⟨by rfl, ?_⟩) ?_
          rotate_left
          · (intro w_ hS; clear hS; go_simp; try with_reducible rfl)
          try simp only [List.getElem_toArray, List.getElem_cons_zero, List.getElem_cons_succ, Act.put, List.setIfInBounds_toArray, List.set_cons_zero, List.set_cons_succ]
          refine wpG_pure (i := 8) (v := ?_) rfl (by kernel_rfl) (by kernel_rfl) (by kernel_rfl) (fun _ _ _ h => h) (Or.inl ⟨by rfl, ?_⟩) ?_
          rotate_left
          · (intro w_ hS; clear hS; go_simp; try with_reducible rfl)
          try simp only [List.getElem_toArray, List.getElem_cons_zero, List.getElem_cons_succ, Act.put, List.setIfInBounds_toArray, List.set_cons_zero, List.set_cons_succ]
          refine wpG_take (i := 9) (v := ?_) rfl (by kernel_rfl) (by kernel_rfl) (by kernel_rfl) (fun _ _ _ h => h) (Or.inl ⟨by rfl, ?_⟩) K.out ?_
          rotate_left
          · (intro w_ hS; have cq_ := hS.2.tab.cell 3 _ rfl; clear hS; go_simp; try with_reducible rfl)
          try simp only [List.getElem_toArray, List.getElem_cons_zero, List.getElem_cons_succ, Act.put, List.setIfInBounds_toArray, List.set_cons_zero, List.set_cons_succ]
          refine wpG_pure (i := 10) (v := ?_) rfl (by kernel_rfl) (by kernel_rfl) (by kernel_rfl) (fun _ _ _ h => h) (Or.inl ⟨by rfl, ?_⟩) ?_
          rotate_left
          · (intro w_ hS; clear hS; go_simp; try with_reducible rfl)
          try simp only [List.getElem_toArray, List.getElem_cons_zero, List.getElem_cons_succ, Act.put, List.setIfInBounds_toArray, List.set_cons_zero, List.set_cons_succ]
          refine wpG_pure (i := 11) (v := ?_) rfl (by kernel_rfl) (by kernel_rfl) (by kernel_rfl) (fun _ _ _ h => h) (Or.inl ⟨by rfl, ?_⟩) ?_
          rotate_left
          · (intro w_ hS; clear hS; go_simp; try with_reducible rfl)
          try simp only [List.getElem_toArray, List.getElem_cons_zero, List.getElem_cons_succ, Act.put, List.setIfInBounds_toArray, List.set_cons_zero, List.set_cons_succ]
          obtain ⟨W6, hup, hT6⟩ := K.out.ends_set a pa HWa.out HWpa.out b pb (n1 : Int) HT.out.symm (by
            intro x hx
            have h1 := HGs.out
            have h2 := HLt.out
            rcases List.mem_cons.1 hx with rfl | hx
            · exact h1.2.2.1
            rcases List.mem_cons.1 hx with rfl | hx
            · exact h1.1
            obtain rfl := List.mem_singleton.1 hx
            simp only
            omega)
          clear K
          have K := Lib.hid hT6
          clear hT6
          refine wpG_ready (i := 12) rfl (by kernel_rfl) (fun K_ hK => ?_)
          go_simp
          refine hK.out _ _ (fun h_ _ => absurd h_ (by decide)) ?_
          clear hK K_
          try simp only [List.getElem_toArray, List.getElem_cons_zero, List.getElem_cons_succ, Act.put, List.setIfInBounds_toArray, List.set_cons_zero, List.set_cons_succ]
          refine wpG_done (by kernel_rfl) ?_ _
          refine NoPanic.normal ?_
          clear hup
          go_wp2_with fail
          go_ret
          have hj : J = some ⟨s1.size, s1.ends ++ [((a, pa), ((b, pb), (n1 : Int)))], s1.homes ++ [(-b, (a, pa))], s1.costs⟩ := by
            rw [HJ.out]; unfold joinT
            rw [if_neg (by rw [← HT.out]; decide), if_pos hb0, if_neg (by rw [← HU.out]; decide), ← HN1.out]
          exact ⟨by rw [hj]; rfl, K.out.below, fun s' hs => by rw [hj] at hs; cases hs; exact ⟨_, K.out.2⟩⟩
        · have hj : J = none := by
            rw [HJ.out]; unfold joinT
            rw [if_neg (by rw [← HT.out]; decide), if_pos hb0, if_pos HU.out.symm]
          have HJN := Lib.hid hj
          clear hj
          go_wp2_with fail
          go_ret
          exact ⟨by rw [HJN.out]; rfl, K.out.below, fun s' hs => by rw [HJN.out] at hs; cases hs⟩
      · have hj : J = none := by
          rw [HJ.out]; unfold joinT
          rw [if_pos HT.out.symm]
        cases U
        · have HJN := Lib.hid hj
          clear hj
          go_wp2_with fail
          go_ret
          exact ⟨by rw [HJN.out]; rfl, K.out.below, fun s' hs => by rw [HJN.out] at hs; cases hs⟩
        · have HJN := Lib.hid hj
          clear hj
          go_wp2_with fail
          go_ret
          exact ⟨by rw [HJN.out]; rfl, K.out.below, fun s' hs => by rw [HJN.out] at hs; cases hs⟩
    · have tb0 : decide (b < 0) = false := decide_eq_false hb0
      have cb := (K.out.at 2 rfl).cell 2 _ rfl
      go_upto_region 9 with fail
      clear cb
      refine wp_region_noPanic ?_
      refine wp_region_G 12 (TS B w [(g6, 65, #[.int .i64 b, .int .i64 pb]), (g5, 65, #[.int .i64 a, .int .i64 pa]), (w.heap.size, 52, #[.int .i64 a, .int .i64 pa, .int .i64 b, .int .i64 pb, .float .f64 c])] tb eb hb (.slice (some ⟨gc, 0, none⟩) n1 cpc) s1) (by kernel_rfl) ?_
      change wpG _ _ _ _ _ 12 #[false, false, false, false, false, false, false, false, false, false, false, false] _ (World.drew _)
      replace K := Lib.hid K.out.drew
      refine wpG_pure (i := 0) (v := ?_) rfl (by kernel_rfl) (by kernel_rfl) (by kernel_rfl) (fun _ _ _ h => h) (Or.inl ⟨by rfl, ?_⟩) ?_
      rotate_left
      · (intro w_ hS; clear hS; go_simp; try with_reducible rfl)
      try simp only [List.getElem_toArray, List.getElem_cons_zero, List.getElem_cons_succ, Act.put, List.setIfInBounds_toArray, List.set_cons_zero, List.set_cons_succ]
      refine wpG_pure (i := 1) (v := ?_) rfl (by kernel_rfl) (by kernel_rfl) (by kernel_rfl) (fun _ _ _ h => h) (Or.inl ⟨by rfl, ?_⟩) ?_
      rotate_left
      · (intro w_ hS; clear hS; go_simp; try with_reducible rfl)
      try simp only [List.getElem_toArray, List.getElem_cons_zero, List.getElem_cons_succ, Act.put, List.setIfInBounds_toArray, List.set_cons_zero, List.set_cons_succ]
      refine wpG_pure (i := 2) (v := ?_) rfl (by kernel_rfl) (by kernel_rfl) (by kernel_rfl) (fun _ _ _ h => h) (Or.inl ⟨by rfl, ?_⟩) ?_
      rotate_left
      · (intro w_ hS; clear hS; go_simp; try with_reducible rfl)
      try simp only [List.getElem_toArray, List.getElem_cons_zero, List.getElem_cons_succ, Act.put, List.setIfInBounds_toArray, List.set_cons_zero, List.set_cons_succ]
      refine wpG_take (i := 3) (v := ?_) rfl (by kernel_rfl) (by kernel_rfl) (by kernel_rfl) (fun _ _ _ h => h) (Or.inl ⟨by rfl, ?_⟩) K.out ?_
      rotate_left
      · (intro w_ hS; have cq_ := hS.2.tab.cell 1 _ rfl; clear hS; go_simp; try with_reducible rfl)
      try simp only [List.getElem_toArray, List.getElem_cons_zero, List.getElem_cons_succ, Act.put, List.setIfInBounds_toArray, List.set_cons_zero, List.set_cons_succ]
      refine wpG_take (i := 4) rfl (by kernel_rfl) (by kernel_rfl) (by kernel_rfl) (fun _ _ _ h => h) (Or.inl ⟨by rfl, fun w_ hS => exec_row 65 _ rfl _ rfl _ (run_loadVar_row w_ _ _ 65 _ (0, 0) _ (hS.at 0 rfl) Try.underlying65 rfl (by kernel_rfl))⟩) K.out ?_
      try simp only [List.getElem_toArray, List.getElem_cons_zero, List.getElem_cons_succ, Act.put, List.setIfInBounds_toArray, List.set_cons_zero, List.set_cons_succ]
      refine wpG_take (i := 5) (v := ?_) rfl (by kernel_rfl) (by kernel_rfl) (by kernel_rfl) (fun _ _ _ h => h) (Or.inl ⟨by rfl, ?_⟩) K.out ?_
      rotate_left
      · (intro w_ hS; have cq_ := hS.2.lookEt b pb HWb.out HWpb.out; clear hS; go_simp; try with_reducible rfl)
      try simp only [List.getElem_toArray, List.getElem_cons_zero, List.getElem_cons_succ, Act.put, List.setIfInBounds_toArray, List.set_cons_zero, List.set_cons_succ]
      refine wpG_pure (i := 6) (v := ?_) rfl (by kernel_rfl) (by kernel_rfl) (by kernel_rfl) (fun _ _ _ h => h) (Or.inl ⟨by rfl, ?_⟩) ?_
      rotate_left
      · (intro w_ hS; clear hS; go_simp; try with_reducible rfl)
      try simp only [List.getElem_toArray, List.getElem_cons_zero, List.getElem_cons_succ, Act.put, List.setIfInBounds_toArray, List.set_cons_zero, List.set_cons_succ]
      refine wpG_pure (i := 7) (v := ?_) rfl (by kernel_rfl) (by kernel_rfl) (by kernel_rfl) (fun _ _ _ h => h) (Or.inl ⟨by rfl, ?_⟩) ?_
      rotate_left
      · (intro w_ hS; clear hS; go_simp; try with_reducible rfl)
      try simp only [List.getElem_toArray, List.getElem_cons_zero, List.getElem_cons_succ, Act.put, List.setIfInBounds_toArray, List.set_cons_zero, List.set_cons_succ]
      refine wpG_pure (i := 8) (v := ?_) rfl (by kernel_rfl) (by kernel_rfl) (by kernel_rfl) (fun _ _ _ h => h) (Or.inl ⟨by rfl, ?_⟩) ?_
      rotate_left
      · (intro w_ hS; clear hS; go_simp; try with_reducible rfl)
      try simp only [List.getElem_toArray, List.getElem_cons_zero, List.getElem_cons_succ, Act.put, List.setIfInBounds_toArray, List.set_cons_zero, List.set_cons_succ]
      have K0 := K
      refine wpG_ready (i := 9) rfl (by kernel_rfl) (fun K_ hK => ?_)
      go_simp
      replace K := Lib.hid (K.out.new 67 #[.int .i64 0, .int .i64 0, .int .i64 0])
      refine hK.out _ _ (fun h_ _ => K.out.sub (fun x hx => .tail _ hx)) ?_
      clear hK K_
      try simp only [List.getElem_toArray, List.getElem_cons_zero, List.getElem_cons_succ, Act.put, List.setIfInBounds_toArray, List.set_cons_zero, List.set_cons_succ]
      refine wpG_ready (i := 10) rfl (by kernel_rfl) (fun K_ hK => ?_)
      rw [if_pos (by rfl)]
      refine wp_store_row 67 _ _ rfl _ rfl #[.int .i64 (peerF s1 (b, pb)).1, .int .i64 (peerF s1 (b, pb)).2.1, .int .i64 (peerF s1 (b, pb)).2.2] rfl _ _ (K.out.at 0 rfl) rfl (by kernel_rfl) (by simp [Value.oneCell']) ?_
      intro wx hx1 hx2
      replace K := Lib.hid (K0.out.away hx2)
      refine hK.out _ _ (fun h_ _ => K.out) ?_
      clear hK K_ hx1 hx2 K0
      try simp only [List.getElem_toArray, List.getElem_cons_zero, List.getElem_cons_succ, Act.put, List.setIfInBounds_toArray, List.set_cons_zero, List.set_cons_succ]
      refine wpG_pure (i := 11) (v := ?_) rfl (by kernel_rfl) (by kernel_rfl) (by kernel_rfl) (fun _ _ _ h => h) (Or.inl ⟨by rfl, ?_⟩) ?_
      rotate_left
      · (intro w_ hS; clear hS; go_simp; try with_reducible rfl)
      try simp only [List.getElem_toArray, List.getElem_cons_zero, List.getElem_cons_succ, Act.put, List.setIfInBounds_toArray, List.set_cons_zero, List.set_cons_succ]
      refine wpG_done (by kernel_rfl) ?_ _
      refine NoPanic.normal ?_
      generalize wx = W4 at *
      obtain ⟨U, hU⟩ : ∃ U, U = (lookL s1.ends (b, pb)).isSome := ⟨_, rfl⟩
      rw [← hU]
      have HU := Lib.hid hU
      clear hU
      cases T
      · cases U
        · go_upto_region 12 with fail
          refine wp_region_noPanic ?_
          refine wp_region_G 12 (TS B w [(g6, 65, #[.int .i64 b, .int .i64 pb]), (g5, 65, #[.int .i64 a, .int .i64 pa]), (w.heap.size, 52, #[.int .i64 a, .int .i64 pa, .int .i64 b, .int .i64 pb, .float .f64 c])] tb eb hb (.slice (some ⟨gc, 0, none⟩) n1 cpc) s1) (by kernel_rfl) ?_
          change wpG _ _ _ _ _ 13 #[false, false, false, false, false, false, false, false, false, false, false, false, false] _ (World.drew _)
          replace K := Lib.hid K.out.drew
          refine wpG_pure (i := 0) (v := ?_) rfl (by kernel_rfl) (by kernel_rfl) (by kernel_rfl) (fun _ _ _ h => h) (Or.inl ⟨by rfl, ?_⟩) ?_
          rotate_left
          · (intro w_ hS; clear hS; go_simp; try with_reducible rfl)
          try simp only [List.getElem_toArray, List.getElem_cons_zero, List.getElem_cons_succ, Act.put, List.setIfInBounds_toArray, List.set_cons_zero, List.set_cons_succ]
          refine wpG_pure (i := 1) (v := ?_) rfl (by kernel_rfl) (by kernel_rfl) (by kernel_rfl) (fun _ _ _ h => h) (Or.inl ⟨by rfl, ?_⟩) ?_
          rotate_left
          · (intro w_ hS; clear hS; go_simp; try with_reducible rfl)
          try simp only [List.getElem_toArray, List.getElem_cons_zero, List.getElem_cons_succ, Act.put, List.setIfInBounds_toArray, List.set_cons_zero, List.set_cons_succ]
          refine wpG_pure (i := 2) (v := ?_) rfl (by kernel_rfl) (by kernel_rfl) (by kernel_rfl) (fun _ _ _ h => h) (Or.inl ⟨by rfl, ?_⟩) ?_
          rotate_left
          · (intro w_ hS; clear hS; go_simp; try with_reducible rfl)
          try simp only [List.getElem_toArray, List.getElem_cons_zero, List.getElem_cons_succ, Act.put, List.setIfInBounds_toArray, List.set_cons_zero, List.set_cons_succ]
          refine wpG_take (i := 3) (v := ?_) rfl (by kernel_rfl) (by kernel_rfl) (by kernel_rfl) (fun _ _ _ h => h) (Or.inl ⟨by rfl, ?_⟩) K.out ?_
          rotate_left
          · (intro w_ hS; have cq_ := hS.2.tab.cell 1 _ rfl; clear hS; go_simp; try with_reducible rfl)
          try simp only [List.getElem_toArray, List.getElem_cons_zero, List.getElem_cons_succ, Act.put, List.setIfInBounds_toArray, List.set_cons_zero, List.set_cons_succ]
          refine wpG_take (i := 4) rfl (by kernel_rfl) (by kernel_rfl) (by kernel_rfl) (fun _ _ _ h => h) (Or.inl ⟨by rfl, fun w_ hS => exec_row 65 _ rfl _ rfl _ (run_loadVar_row w_ _ _ 65 _ (0, 0) _ (hS.at 0 rfl) Try.underlying65 rfl (by kernel_rfl))⟩) K.out ?_
          try simp only [List.getElem_toArray, List.getElem_cons_zero, List.getElem_cons_succ, Act.put, List.setIfInBounds_toArray, List.set_cons_zero, List.set_cons_succ]
          refine wpG_take (i := 5) rfl (by kernel_rfl) (by kernel_rfl) (by kernel_rfl) (fun _ _ _ h => h) (Or.inl ⟨by rfl, fun w_ hS => exec_row 65 _ rfl _ rfl _ (run_loadVar_row w_ _ _ 65 _ (0, 0) _ (hS.at 1 rfl) Try.underlying65 rfl (by kernel_rfl))⟩) K.out ?_
          try simp only [List.getElem_toArray, List.getElem_cons_zero, List.getElem_cons_succ, Act.put, List.setIfInBounds_toArray, List.set_cons_zero, List.set_cons_succ]
          refine wpG_pure (i := 6) (v := ?_) rfl (by kernel_rfl) (by kernel_rfl) (by kernel_rfl) (fun _ _ _ h => h) (Or.inl ⟨by rfl, ?_⟩) ?_
          rotate_left
          · (intro w_ hS; clear hS; go_simp; try with_reducible rfl)
          try simp only [List.getElem_toArray, List.getElem_cons_zero, List.getElem_cons_succ, Act.put, List.setIfInBounds_toArray, List.set_cons_zero, List.set_cons_succ]
          refine wpG_pure (i := 7) (v := ?_) rfl (by kernel_rfl) (by kernel_rfl) (by kernel_rfl) (fun _ _ _ h => h) (Or.inl ⟨by rfl, ?_⟩) ?_
          rotate_left
          · (intro w_ hS; clear hS; go_simp; try with_reducible rfl)
          try simp only [List.getElem_toArray, List.getElem_cons_zero, List.getElem_cons_succ, Act.put, List.setIfInBounds_toArray, List.set_cons_zero, List.set_cons_succ]
          refine wpG_pure (i := 8) (v := ?_) rfl (by kernel_rfl) (by kernel_rfl) (by kernel_rfl) (fun _ _ _ h => h) (Or.inl ⟨by rfl, ?_⟩) ?_
          rotate_left
          · (intro w_ hS; clear hS; go_simp; try with_reducible rfl)
          try simp only [List.getElem_toArray, List.getElem_cons_zero, List.getElem_cons_succ, Act.put, List.setIfInBounds_toArray, List.set_cons_zero, List.set_cons_succ]
          refine wpG_take (i := 9) (v := ?_) rfl (by kernel_rfl) (by kernel_rfl) (by kernel_rfl) (fun _ _ _ h => h) (Or.inl ⟨by rfl, ?_⟩) K.out ?_
          rotate_left
          · (intro w_ hS; have cq_ := hS.2.tab.cell 3 _ rfl; clear hS; go_simp; try with_reducible rfl)
          try simp only [List.getElem_toArray, List.getElem_cons_zero, List.getElem_cons_succ, Act.put, List.setIfInBounds_toArray, List.set_cons_zero, List.set_cons_succ]
          refine wpG_pure (i := 10) (v := ?_) rfl (by kernel_rfl) (by kernel_rfl) (by kernel_rfl) (fun _ _ _ h => h) (Or.inl ⟨by rfl, ?_⟩) ?_
          rotate_left
          · (intro w_ hS; clear hS; go_simp; try with_reducible rfl)
          try simp only [List.getElem_toArray, List.getElem_cons_zero, List.getElem_cons_succ, Act.put, List.setIfInBounds_toArray, List.set_cons_zero, List.set_cons_succ]
          refine wpG_pure (i := 11) (v := ?_) rfl (by kernel_rfl) (by kernel_rfl) (by kernel_rfl) (fun _ _ _ h => h) (Or.inl ⟨by rfl, ?_⟩) ?_
          rotate_left
          · (intro w_ hS; clear hS; go_simp; try with_reducible rfl)
          try simp only [List.getElem_toArray, List.getElem_cons_zero, List.getElem_cons_succ, Act.put, List.setIfInBounds_toArray, List.set_cons_zero, List.set_cons_succ]
          obtain ⟨W5, hup, hT5⟩ := K.out.ends_set b pb HWb.out HWpb.out a pa (n1 : Int) HU.out.symm (by
            intro x hx
            have h1 := HGs.out
            have h2 := HLt.out
            rcases List.mem_cons.1 hx with rfl | hx
            · exact h1.2.2.1
            rcases List.mem_cons.1 hx with rfl | hx
            · exact h1.1
            obtain rfl := List.mem_singleton.1 hx
            simp only
            omega)
          clear K
          have K := Lib.hid hT5
          clear hT5
          refine wpG_ready (i := 12) rfl (by kernel_rfl) (fun K_ hK => ?_)
          go_simp
          refine hK.out _ _ (fun h_ _ => absurd h_ (by decide)) ?_
          clear hK K_
          try simp only [List.getElem_toArray, List.getElem_cons_zero, List.getElem_cons_succ, Act.put, List.setIfInBounds_toArray, List.set_cons_zero, List.set_cons_succ]
          refine wpG_done (by kernel_rfl) ?_ _
          refine NoPanic.normal ?_
          clear hup
          go_upto_region 13 with fail
          refine wp_region_noPanic ?_
          refine wp_region_G 12 (TS B w [(g6, 65, #[.int .i64 b, .int .i64 pb]), (g5, 65, #[.int .i64 a, .int .i64 pa]), (w.heap.size, 52, #[.int .i64 a, .int .i64 pa, .int .i64 b, .int .i64 pb, .float .f64 c])] tb eb hb (.slice (some ⟨gc, 0, none⟩) n1 cpc) ⟨s1.size, s1.ends ++ [((b, pb), ((a, pa), (n1 : Int)))], s1.homes, s1.costs⟩) (by kernel_rfl) ?_
          change wpG _ _ _ _ _ 13 #[false, false, false, false, false, false, false, false, false, false, false, false, false] _ (World.drew _)
          replace K := Lib.hid K.out.drew
          refine wpG_pure (i := 0) (v := ?_) rfl (by kernel_rfl) (by kernel_rfl) (by kernel_rfl) (fun _ _ _ h => h) (Or.inl ⟨by rfl, ?_⟩) ?_
          rotate_left
          · (intro w_ hS; clear hS; go_simp; try with_reducible rfl)
          try simp only [List.getElem_toArray, List.getElem_cons_zero, List.getElem_cons_succ, Act.put, List.setIfInBounds_toArray, List.set_cons_zero, List.set_cons_succ]
          refine wpG_pure (i := 1) (v := ?_) rfl (by kernel_rfl) (by kernel_rfl) (by kernel_rfl) (fun _ _ _ h => h) (Or.inl ⟨by rfl, ?_⟩) ?_
          rotate_left
          · (intro w_ hS; clear hS; go_simp; try with_reducible rfl)
          try simp only [List.getElem_toArray, List.getElem_cons_zero, List.getElem_cons_succ, Act.put, List.setIfInBounds_toArray, List.set_cons_zero, List.set_cons_succ]
          refine wpG_pure (i := 2) (v := ?_) rfl (by kernel_rfl) (by kernel_rfl) (by kernel_rfl) (fun _ _ _ h => h) (Or.inl ⟨by rfl, ?_⟩) ?_
          rotate_left
          · (intro w_ hS; clear hS; go_simp; try with_reducible rfl)
          try simp only [List.getElem_toArray, List.getElem_cons_zero, List.getElem_cons_succ, Act.put, List.setIfInBounds_toArray, List.set_cons_zero, List.set_cons_succ]
          refine wpG_take (i := 3) (v := ?_) rfl (by kernel_rfl) (by kernel_rfl) (by kernel_rfl) (fun _ _ _ h => h) (Or.inl ⟨by rfl, ?_⟩) K.out ?_
          rotate_left
          · (intro w_ hS; have cq_ := hS.2.tab.cell 1 _ rfl; clear hS; go_simp; try with_reducible rfl)
          try simp only [List.getElem_toArray, List.getElem_cons_zero, List.getElem_cons_succ, Act.put, List.setIfInBounds_toArray, List.set_cons_zero, List.set_cons_succ]
          refine wpG_take (i := 4) rfl (by kernel_rfl) (by kernel_rfl) (by kernel_rfl) (fun _ _ _ h => h) (Or.inl ⟨by rfl, fun w_ hS => exec_row 65 _ rfl _ rfl _ (run_loadVar_row w_ _ _ 65 _ (0, 0) _ (hS.at 1 rfl) Try.underlying65 rfl (by kernel_rfl))⟩) K.out ?_
          try simp only [List.getElem_toArray, List.getElem_cons_zero, List.getElem_cons_succ, Act.put, List.setIfInBounds_toArray, List.set_cons_zero, List.set_cons_succ]
          refine wpG_take (i := 5) rfl (by kernel_rfl) (by kernel_rfl) (by kernel_rfl) (fun _ _ _ h => h) (Or.inl ⟨by rfl, fun w_ hS => exec_row 65 _ rfl _ rfl _ (run_loadVar_row w_ _ _ 65 _ (0, 0) _ (hS.at 0 rfl) Try.underlying65 rfl (by kernel_rfl))⟩) K.out ?_
          try simp only [List.getElem_toArray, List.getElem_cons_zero, List.getElem_cons_succ, Act.put, List.setIfInBounds_toArray, List.set_cons_zero, List.set_cons_succ]
          refine wpG_pure (i := 6) (v := ?_) rfl (by kernel_rfl) (by kernel_rfl) (by kernel_rfl) (fun _ _ _ h => h) (Or.inl ⟨by rfl, ?_⟩) ?_
          rotate_left
          · (intro w_ hS; clear hS; go_simp; try with_reducible rfl)
          try simp only [List.getElem_toArray, List.getElem_cons_zero, List.getElem_cons_succ, Act.put, List.setIfInBounds_toArray, List.set_cons_zero, List.set_cons_succ]
          refine wpG_pure (i := 7) (v := ?_) rfl (by kernel_rfl) (by kernel_rfl) (by kernel_rfl) (fun _ _ _ h => h) (Or.inl ⟨by rfl, ?_⟩) ?_
          rotate_left
          · (intro w_ hS; clear hS; go_simp; try with_reducible rfl)
          try simp only [List.getElem_toArray, List.getElem_cons_zero, List.getElem_cons_succ, Act.put, List.setIfInBounds_toArray, List.set_cons_zero, List.set_cons_succ]
          refine wpG_pure (i := 8) (v := ?_) rfl (by kernel_rfl) (by kernel_rfl) (by kernel_rfl) (fun _ _ _ h => h) (Or.inl ⟨by rfl, ?_⟩) ?_
          rotate_left
          · (intro w_ hS; clear hS; go_simp; try with_reducible rfl)
          try simp only [List.getElem_toArray, List.getElem_cons_zero, List.getElem_cons_succ, Act.put, List.setIfInBounds_toArray, List.set_cons_zero, List.set_cons_succ]
          refine wpG_take (i := 9) (v := ?_) rfl (by kernel_rfl) (by kernel_rfl) (by kernel_rfl) (fun _ _ _ h => h) (Or.inl ⟨by rfl, ?_⟩) K.out ?_
          rotate_left
          · (intro w_ hS; have cq_ := hS.2.tab.cell 3 _ rfl; clear hS; go_simp; try with_reducible rfl)
          try simp only [List.getElem_toArray, List.getElem_cons_zero, List.getElem_cons_succ, Act.put, List.setIfInBounds_toArray, List.set_cons_zero, List.set_cons_succ]
          refine wpG_pure (i := 10) (v := ?_) rfl (by kernel_rfl) (by kernel_rfl) (by kernel_rfl) (fun _ _ _ h => h) (Or.inl ⟨by rfl, ?_⟩) ?_
          rotate_left
          · (intro w_ hS; clear hS; go_simp; try with_reducible rfl)
          try simp only [List.getElem_toArray, List.getElem_cons_zero, List.getElem_cons_succ, Act.put, List.setIfInBounds_toArray, List.set_cons_zero, List.set_cons_succ]
          refine wpG_pure (i := 11) (v := ?_) rfl (by kernel_rfl) (by kernel_rfl) (by kernel_rfl) (fun _ _ _ h => h) (Or.inl ⟨by rfl, ?_⟩) ?_
          rotate_left
          · (intro w_ hS; clear hS; go_simp; try with_reducible rfl)
          try simp only [List.getElem_toArray, List.getElem_cons_zero, List.getElem_cons_succ, Act.put, List.setIfInBounds_toArray, List.set_cons_zero, List.set_cons_succ]
          obtain ⟨W6, hup, hT6⟩ := K.out.ends_set a pa HWa.out HWpa.out b pb (n1 : Int) (by
            have h0 : lookL s1.ends (a, pa) = none := by simpa using HT.out.symm
            simp only
            rw [lookL_snoc h0 (fun e => HNe.out (Prod.mk.inj e).1.symm)]
            rfl) (by
            intro x hx
            have h1 := HGs.out
            have h2 := HLt.out
            rcases List.mem_cons.1 hx with rfl | hx
            · exact h1.2.2.1
            rcases List.mem_cons.1 hx with rfl | hx
            · exact h1.1
            obtain rfl := List.mem_singleton.1 hx
            simp only
            omega)
          clear K
          have K := Lib.hid hT6
          clear hT6
          refine wpG_ready (i := 12) rfl (by kernel_rfl) (fun K_ hK => ?_)
          go_simp
          refine hK.out _ _ (fun h_ _ => absurd h_ (by decide)) ?_
          clear hK K_
          try simp only [List.getElem_toArray, List.getElem_cons_zero, List.getElem_cons_succ, Act.put, List.setIfInBounds_toArray, List.set_cons_zero, List.set_cons_succ]
          refine wpG_done (by kernel_rfl) ?_ _
          refine NoPanic.normal ?_
          clear hup
          go_wp2_with fail
          go_ret
          have hj : J = some ⟨s1.size, s1.ends ++ [((b, pb), ((a, pa), (n1 : Int))), ((a, pa), ((b, pb), (n1 : Int)))], s1.homes, s1.costs⟩ := by
            rw [HJ.out]; unfold joinT
            rw [if_neg (by rw [← HT.out]; decide), if_neg (show ¬ b < 0 by omega), if_neg (by rw [← HU.out]; decide), ← HN1.out]
          exact ⟨by rw [hj]; rfl, K.out.below, fun s' hs => by
            rw [hj] at hs; cases hs
            have := K.out.2
            simp only [List.append_assoc, List.cons_append, List.nil_append] at this
            exact ⟨_, this⟩⟩
        · have hj : J = none := by
            rw [HJ.out]; unfold joinT
            rw [if_neg (by rw [← HT.out]; decide), if_neg (show ¬ b < 0 by omega), if_pos HU.out.symm]
          have HJN := Lib.hid hj
          clear hj
          go_wp2_with fail
          go_ret
          exact ⟨by rw [HJN.out]; rfl, K.out.below, fun s' hs => by rw [HJN.out] at hs; cases hs⟩
      · have hj : J = none := by
          rw [HJ.out]; unfold joinT
          rw [if_pos HT.out.symm]
        cases U
        · have HJN := Lib.hid hj
          clear hj
          go_wp2_with fail
          go_ret
          exact ⟨by rw [HJN.out]; rfl, K.out.below, fun s' hs => by rw [HJN.out] at hs; cases hs⟩
        · have HJN := Lib.hid hj
          clear hj
          go_wp2_with fail
          go_ret
          exact ⟨by rw [HJN.out]; rfl, K.out.below, fun s' hs => by rw [HJN.out] at hs; cases hs⟩
end Go.Proofs.Ytggcmhjeflofmaa
