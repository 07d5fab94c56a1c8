/- A topology in memory: the law of its parts while it is made. -/
import Derived.Test.YtggcmhjeflofmaaTopoD
import Derived.Test.YtggcmhjeflofmaaHeldRow
import Derived.Deep.AppendLies
namespace Go.Proofs.Ytggcmhjeflofmaa
open Go.RowKit Go.Maps
set_option linter.unusedVariables false
set_option linter.unusedSimpArgs false

/-- What join makes of a topology; none: it may not be laid. -/
def joinS (s : TopS) (x : Link) : Option TopS :=
  if (lookL s.ends (x.fA, x.fPortA)).isSome = true then none
  else if x.fB < 0 then
    (if (lookL s.homes (-x.fB)).isSome = true then none
     else some ⟨s.size, s.ends ++ [((x.fA, x.fPortA), ((x.fB, x.fPortB), (s.costs.length : Int) + 1))], s.homes ++ [(-x.fB, (x.fA, x.fPortA))], s.costs ++ [x.fCost]⟩)
  else if (lookL s.ends (x.fB, x.fPortB)).isSome = true then none
  else some ⟨s.size, s.ends ++ [((x.fB, x.fPortB), ((x.fA, x.fPortA), (s.costs.length : Int) + 1)), ((x.fA, x.fPortA), ((x.fB, x.fPortB), (s.costs.length : Int) + 1))], s.homes, s.costs ++ [x.fCost]⟩
/-- The class of worlds: boxes that stay, and the topology. -/
def TS (B : Nat) (w : World) (l : List (Nat × TypeId × Array Value)) (tb eb hb : Nat) (cv : Value) (s : TopS) (W : World) : Prop := KR B w l W ∧ TopoW W B tb eb hb cv s
section
variable {B tb eb hb : Nat} {w W W' : World} {l : List (Nat × TypeId × Array Value)} {cv : Value} {s : TopS}
theorem TS.at (h : TS B w l tb eb hb cv s W) (i : Nat) {g : Nat} {t : TypeId} {cs : Array Value} (hi : l[i]? = some (g, t, cs)) : BlkAt W g t cs := h.1.at i hi
theorem TS.call (h : TS B w l tb eb hb cv s W) (hb' : Below W.heap.size W W') : TS B w l tb eb hb cv s W' := ⟨h.1.call hb', h.2.below hb' (Nat.le_refl _)⟩
theorem TS.drew (h : TS B w l tb eb hb cv s W) : TS B w l tb eb hb cv s W.drew := ⟨h.1.drew, h.2.drew⟩
theorem TS.alloc (h : TS B w l tb eb hb cv s W) (o : Obj) : TS B w l tb eb hb cv s (W.alloc o) := h.call ((Below.refl _ _).alloc (Nat.le_refl _) o)
theorem TS.below (h : TS B w l tb eb hb cv s W) : Below B w W := h.1.below
theorem TS.size (h : TS B w l tb eb hb cv s W) : B ≤ W.heap.size := h.1.size
theorem TS.new (h : TS B w l tb eb hb cv s W) (t : TypeId) (cs : Array Value) : TS B w ((W.heap.size, t, cs) :: l) tb eb hb cv s (W.alloc (.cells cs t)) := ⟨h.1.box t cs, (h.alloc _).2⟩
theorem TS.sub (h : TS B w l tb eb hb cv s W) {l' : List (Nat × TypeId × Array Value)} (hs : ∀ x ∈ l', x ∈ l) : TS B w l' tb eb hb cv s W := ⟨h.1.sub hs, h.2⟩
/-- A block of one's own is written that is none of the topology's. -/
theorem TopoW.other {w w' : World} (h : TopoW w B tb eb hb cv s) {g : Nat} (hbar : Bar g w w') (h1 : g ≠ tb) (h2 : g ≠ eb) (h3 : g ≠ hb) (h4 : ∀ k, cv.ownBlock = some k → k ≠ g) : TopoW w' B tb eb hb cv s :=
  { h with
    tab := h.tab.bar hbar (Ne.symm h1)
    ends := h.ends.bar hbar (Ne.symm h2)
    homes := h.homes.bar hbar (Ne.symm h3)
    own := h.own.bar hbar h4 }
theorem TS.lt (h : TS B w l tb eb hb cv s W) : tb < W.heap.size ∧ eb < W.heap.size ∧ hb < W.heap.size ∧ ∀ k, cv.ownBlock = some k → k < W.heap.size :=
  ⟨h.2.tab.lt, h.2.ends.lt, h.2.homes.lt, fun k hk => (h.2.own.block k hk).2⟩
/-- A box that is newer than the topology is written. -/
theorem TS.into (h : TS B w l tb eb hb cv s W) {t : TypeId} {A cs : Array Value} (hbar : Bar W.heap.size (W.alloc (.cells A t)) W') (hb' : BlkAt W' W.heap.size t cs) : TS B w ((W.heap.size, t, cs) :: l) tb eb hb cv s W' := by
  obtain ⟨h1, h2, h3, h4⟩ := h.lt
  exact ⟨h.1.into hbar hb', (h.alloc (.cells A t)).2.other hbar (by omega) (by omega) (by omega) (fun k hk => by have := h4 k hk; omega)⟩
theorem TS.box0 {g : Nat} {t : TypeId} {cs cs' : Array Value} (h : TS B w ((g, t, cs) :: l) tb eb hb cv s W) (hbar : Bar g W W') (hw : BlkAt W' g t cs') (hg : B ≤ g) (hne : ∀ x ∈ l, x.1 ≠ g) (ht : g ≠ tb ∧ g ≠ eb ∧ g ≠ hb) (hc : ∀ k, cv.ownBlock = some k → k ≠ g) : TS B w ((g, t, cs') :: l) tb eb hb cv s W' :=
  ⟨h.1.bar0 hbar hw hg hne, h.2.other hbar ht.1 ht.2.1 ht.2.2 hc⟩
/-- Behind the new cost. -/
theorem TS.cost {W0 : World} (h : TS B w l tb eb hb cv s W0) (hg : W0.grownBy W cv.ownBlock) {c g cap : Nat} (hown : OwnL W B 41 1 encF (.slice (some ⟨g, 0, none⟩) (s.costs.length + 1) cap) (s.costs ++ [c])) (hat : cv.ownBlock = some g ∨ W0.heap.size ≤ g)
    (hl : ∀ x ∈ l, some x.1 ≠ cv.ownBlock ∧ x.1 ≠ tb) (hlt : ∀ x ∈ l, x.1 < W0.heap.size) :
    TS B w l tb eb hb (.slice (some ⟨g, 0, none⟩) (s.costs.length + 1) cap) { s with costs := s.costs ++ [c] } (W.setCell ⟨tb, 3, none⟩ (.slice (some ⟨g, 0, none⟩) (s.costs.length + 1) cap)) := by
  obtain ⟨t1, t2, t3, t4⟩ := h.lt
  have hT := h.2
  have e4 := hT.e4
  have same : ∀ k, k < W0.heap.size → cv.ownBlock ≠ some k → W.heap[k]? = W0.heap[k]? := fun k hk hne => hg.block k hk (fun e => hne e.symm)
  have bar : Bar tb W (W.setCell ⟨tb, 3, none⟩ (.slice (some ⟨g, 0, none⟩) (s.costs.length + 1) cap)) := (Bar.refl _ _).set 3 _
  have gne : g ≠ tb ∧ g ≠ eb ∧ g ≠ hb := by
    rcases hat with ha | ha
    · have := e4 g ha; exact ⟨this.2.2, this.1, this.2.1⟩
    · exact ⟨by omega, by omega, by omega⟩
  have tne : cv.ownBlock ≠ some tb := fun e => (e4 tb e).2.2 rfl
  have tab2 : BlkAt W tb 57 #[.int .i64 s.size, .map (some eb), .map (some hb), cv] := (same tb t1 tne).trans hT.tab
  refine ⟨?_, ?_⟩
  · refine KR.barOut ?_ bar hT.bt (fun x hx => (hl x hx).2)
    refine ⟨fun x hx => (hg.block x.1 (hlt x hx) (hl x hx).1).trans (h.1.1 x hx), h.1.below.grown hg h.1.size (fun k hk => (hT.own.block k hk).1), Nat.le_trans h.1.size hg.size⟩
  · exact {
      tab := by have := tab2.set 3 (.slice (some ⟨g, 0, none⟩) (s.costs.length + 1) cap); exact this
      ends := (hT.ends.of_block (same eb t2 (fun e => (e4 eb e).1 rfl))).bar bar (Ne.symm (by have := hT.e2; omega))
      homes := (hT.homes.of_block (same hb t3 (fun e => (e4 hb e).2.1 rfl))).bar bar (Ne.symm (by have := hT.e3; omega))
      own := hown.bar bar (fun k hk => by cases hk; exact gne.1)
      be := hT.be, bh := hT.bh, bt := hT.bt, e1 := hT.e1, e2 := hT.e2, e3 := hT.e3
      e4 := fun k hk => by cases hk; exact ⟨gne.2.1, gne.2.2, gne.1⟩
      kend := hT.kend, khome := hT.khome }
/-- An end is laid. -/
theorem TS.end_ (h : TS B w l tb eb hb cv s W) (hbar : Bar eb W W') (p : Place) (e : Hop) (hp : wfP p) (hm : MapL W' eb placeV endV (putL s.ends p e)) (hn : lookL s.ends p = none) (hl : ∀ x ∈ l, x.1 ≠ eb) : TS B w l tb eb hb cv { s with ends := s.ends ++ [(p, e)] } W' := by
  have hT := h.2
  unfold putL at hm
  rw [if_pos hn] at hm
  exact ⟨h.1.barOut hbar hT.be hl, {
    tab := hT.tab.bar hbar (Ne.symm hT.e2), ends := hm, homes := hT.homes.bar hbar (Ne.symm hT.e1), own := hT.own.bar hbar (fun k hk => (hT.e4 k hk).1)
    be := hT.be, bh := hT.bh, bt := hT.bt, e1 := hT.e1, e2 := hT.e2, e3 := hT.e3, e4 := hT.e4
    kend := fun q hq => by
      rcases List.mem_append.1 hq with hq | hq
      · exact hT.kend q hq
      · obtain rfl := List.mem_singleton.1 hq; exact hp
    khome := hT.khome }⟩
/-- A home is laid. -/
theorem TS.home (h : TS B w l tb eb hb cv s W) (hbar : Bar hb W W') (n : Int) (p : Place) (hp : wfI n) (hm : MapL W' hb keyI placeV (putL s.homes n p)) (hn : lookL s.homes n = none) (hl : ∀ x ∈ l, x.1 ≠ hb) : TS B w l tb eb hb cv { s with homes := s.homes ++ [(n, p)] } W' := by
  have hT := h.2
  unfold putL at hm
  rw [if_pos hn] at hm
  exact ⟨h.1.barOut hbar hT.bh hl, {
    tab := hT.tab.bar hbar (Ne.symm hT.e3), ends := hT.ends.bar hbar hT.e1, homes := hm, own := hT.own.bar hbar (fun k hk => (hT.e4 k hk).2.1)
    be := hT.be, bh := hT.bh, bt := hT.bt, e1 := hT.e1, e2 := hT.e2, e3 := hT.e3, e4 := hT.e4
    kend := hT.kend
    khome := fun q hq => by
      rcases List.mem_append.1 hq with hq | hq
      · exact hT.khome q hq
      · obtain rfl := List.mem_singleton.1 hq; exact hp }⟩
end
end Go.Proofs.Ytggcmhjeflofmaa
