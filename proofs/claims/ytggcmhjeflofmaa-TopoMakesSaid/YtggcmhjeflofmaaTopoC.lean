/- A topology in memory: Size, Peer, Home, Cost. -/
import Derived.Test.YtggcmhjeflofmaaTopoB
import Derived.Test.YtggcmhjeflofmaaReadX
namespace Go.Proofs.Ytggcmhjeflofmaa
open Go.RowKit Go.Maps
set_option linter.unusedVariables false
set_option linter.unusedSimpArgs false

abbrev Hop := Place × Int
def endV (e : Hop) : Value := .agg #[.int .i64 e.1.1, .int .i64 e.1.2, .int .i64 e.2]
def encF (c : Nat) : List Value := [.float .f64 c]
theorem encF_len (c : Nat) : (encF c).length = 1 := rfl
theorem encF_one (c : Nat) : ∀ u ∈ encF c, u.oneCell' = true := by intro u hu; simp [encF] at hu; subst hu; rfl
structure TopS where
  size : Int
  ends : List (Place × Hop)
  homes : List (Int × Place)
  costs : List Nat
structure TopoW (w : World) (B tb eb hb : Nat) (cv : Value) (s : TopS) : Prop where
  tab : BlkAt w tb 57 #[.int .i64 s.size, .map (some eb), .map (some hb), cv]
  ends : MapL w eb placeV endV s.ends
  homes : MapL w hb keyI placeV s.homes
  own : OwnL w B 41 1 encF cv s.costs
  be : B ≤ eb
  bh : B ≤ hb
  bt : B ≤ tb
  e1 : eb ≠ hb
  e2 : eb ≠ tb
  e3 : hb ≠ tb
  e4 : ∀ k, cv.ownBlock = some k → k ≠ eb ∧ k ≠ hb ∧ k ≠ tb
  kend : ∀ p ∈ s.ends, wfP p.1
  khome : ∀ p ∈ s.homes, wfI p.1
theorem TopoW.below {w w' : World} {B tb eb hb : Nat} {cv : Value} {s : TopS} (h : TopoW w B tb eb hb cv s) {C : Nat} (hb' : Below C w w') (hC : w.heap.size ≤ C) : TopoW w' B tb eb hb cv s :=
  { h with
    tab := h.tab.below hb' (Nat.lt_of_lt_of_le h.tab.lt hC)
    ends := h.ends.below hb' (Nat.lt_of_lt_of_le h.ends.lt hC)
    homes := h.homes.below hb' (Nat.lt_of_lt_of_le h.homes.lt hC)
    own := h.own.below hb' (fun k hk => Nat.lt_of_lt_of_le (h.own.block k hk).2 hC) }
theorem TopoW.drew {w : World} {B tb eb hb : Nat} {cv : Value} {s : TopS} (h : TopoW w B tb eb hb cv s) : TopoW w.drew B tb eb hb cv s := h.below (Below.refl _ _).drew (Nat.le_refl _)
theorem zeroEnd (w : World) : (zeroValue 67).run Try.prog w = .ok (.agg #[.int .i64 0, .int .i64 0, .int .i64 0]) w := by kernel_rfl
theorem zeroPlace (w : World) : (zeroValue 65).run Try.prog w = .ok (.agg #[.int .i64 0, .int .i64 0]) w := by kernel_rfl
/-- What a port leads to. -/
def peerF (s : TopS) (p : Place) : Int × Int × Int := match lookL s.ends p with
  | some e => (e.1.1, e.1.2, e.2)
  | none => (0, 0, 0)
def homeF (s : TopS) (h : Int) : Int × Int := match lookL s.homes h with
  | some p => p
  | none => (0, 0)
def costF (s : TopS) (n : Int) : Nat := if n < 1 ∨ (s.costs.length : Int) < n then 0 else s.costs.getD (n.toNat - 1) 0
section
variable {w : World} {B tb eb hb : Nat} {cv : Value} {s : TopS}
theorem TopoW.lookE (h : TopoW w B tb eb hb cv s) (p : Place) (hp : wfP p) (c : Bool) : (Instr.lookup 53 (.map (some eb)) (.agg #[.int .i64 p.1, .int .i64 p.2]) c).run Try.prog w =
    .ok (if c then .tuple #[.agg #[.int .i64 (peerF s p).1, .int .i64 (peerF s p).2.1, .int .i64 (peerF s p).2.2], .bool (lookL s.ends p).isSome] else .agg #[.int .i64 (peerF s p).1, .int .i64 (peerF s p).2.1, .int .i64 (peerF s p).2.2]) w := by
  have := h.ends.look keyE_place (T := 53) (E := 67) Try.underlying53 zeroEnd h.kend p hp c
  unfold peerF
  rw [show (Value.agg #[.int .i64 p.1, .int .i64 p.2]) = placeV p from rfl]
  cases hq : lookL s.ends p <;> rw [hq] at this <;> simpa [endV] using this
theorem TopoW.lookH (h : TopoW w B tb eb hb cv s) (p : Int) (hp : wfI p) (c : Bool) : (Instr.lookup 54 (.map (some hb)) (.int .i64 p) c).run Try.prog w =
    .ok (if c then .tuple #[.agg #[.int .i64 (homeF s p).1, .int .i64 (homeF s p).2], .bool (lookL s.homes p).isSome] else .agg #[.int .i64 (homeF s p).1, .int .i64 (homeF s p).2]) w := by
  have := h.homes.look keyE_int (T := 54) (E := 65) Try.underlying54 zeroPlace h.khome p hp c
  unfold homeF
  cases hq : lookL s.homes p <;> rw [hq] at this <;> simpa [placeV, keyI] using this
end
/-- The pointer to it. -/
abbrev ptr (b : Nat) : Value := .pointer (some ⟨b, 0, none⟩)

set_option maxRecDepth 100000 in
theorem Size_any (w : World) (B tb eb hb : Nat) (cv : Value) (s : TopS) (h : TopoW w B tb eb hb cv s) : Calls Try.prog 17 #[ptr tb] w fun e w' => e = .returned (.int .i64 s.size) ∧ Below w.heap.size w w' := by
  have c0 := h.tab.cell 0 _ rfl
  have K := Lib.hid (Below.refl w.heap.size w)
  clear h
  go_enter Try.func17, Try.ntmps17
  go_wp2_with fail
  go_ret
  exact ⟨rfl, K.out⟩
set_option maxRecDepth 100000 in
theorem Size_nil (w : World) : Calls Try.prog 17 #[.pointer none] w fun e w' => e = .returned (.int .i64 0) ∧ Below w.heap.size w w' := by
  have K := Lib.hid (Below.refl w.heap.size w)
  go_enter Try.func17, Try.ntmps17
  go_wp2_with fail
  go_ret
  exact ⟨rfl, K.out⟩
set_option maxRecDepth 100000 in
set_option maxHeartbeats 4000000 in
theorem Peer_any (w : World) (B tb eb hb : Nat) (cv : Value) (s : TopS) (h : TopoW w B tb eb hb cv s) (sw port : Int) (h1 : wfI sw) (h2 : wfI port) :
    Calls Try.prog 23 #[ptr tb, .int .i64 sw, .int .i64 port] w fun e w' => e = .returned (.tuple #[.int .i64 (peerF s (sw, port)).1, .int .i64 (peerF s (sw, port)).2.1, .int .i64 (peerF s (sw, port)).2.2]) ∧ Below w.heap.size w w' := by
  have c1 := h.tab.cell 1 _ rfl
  have hlk := h.lookE (sw, port) ⟨h1, h2⟩ false
  simp only [Bool.false_eq_true, if_false] at hlk
  have K : Hid (KR w.heap.size w [] w) := Lib.hid (KR.start (Below.refl _ _) (Nat.le_refl _))
  generalize peerF s (sw, port) = R at *
  obtain ⟨r1, r2, r3⟩ := R
  simp only at *
  clear h h1 h2
  go_enter Try.func23, Try.ntmps23
  go_wp2_with (first
    | (refine wpList_store_row rfl 67 _ _ rfl _ rfl #[.int .i64 r1, .int .i64 r2, .int .i64 r3] rfl _ _ ((K.out.box _ _).at 0 rfl) rfl (by kernel_rfl) (by simp [Value.oneCell']) ?_)
    | fail)
  intro Wi hbi hbari
  replace K := Lib.hid (K.out.into hbari hbi)
  clear hbi hbari hlk c1
  haveI : Nonempty (Keep (KR w.heap.size w [(w.heap.size, 67, #[.int .i64 r1, .int .i64 r2, .int .i64 r3])])) := ⟨⟨_, K.out⟩⟩
  have kc0 := fun q : Keep (KR w.heap.size w [(w.heap.size, 67, #[.int .i64 r1, .int .i64 r2, .int .i64 r3])]) => (KR.at q.h 0 rfl).cell 0 _ rfl
  have kc1 := fun q : Keep (KR w.heap.size w [(w.heap.size, 67, #[.int .i64 r1, .int .i64 r2, .int .i64 r3])]) => (KR.at q.h 0 rfl).cell 1 _ rfl
  have kc2 := fun q : Keep (KR w.heap.size w [(w.heap.size, 67, #[.int .i64 r1, .int .i64 r2, .int .i64 r3])]) => (KR.at q.h 0 rfl).cell 2 _ rfl
  go_upto_region 4 with fail
  refine wp_region_keep2 (Cl := KR w.heap.size w [(w.heap.size, 67, #[.int .i64 r1, .int .i64 r2, .int .i64 r3])]) (by kernel_rfl) (by kernel_rfl) K.out.drew ?_
  intro y' hy'
  clear hy' K
  repeat
    first
      | (refine wpQ2_step (fun K hK => ?_)
         go_simp
         first
           | (refine hK _ ?_; clear hK K)
           | (apply Exists.intro
              refine ⟨fun _ => ?_, hK _ ?_⟩
              (rw [if_neg (by omega)]; exact ⟨rfl, rfl⟩)
              clear hK K))
  refine wpQ2_nil ?_
  clear kc0 kc1 kc2
  intro Wk Kk
  have K := Lib.hid Kk
  clear Kk
  go_wp2_with fail
  go_ret3
  exact ⟨rfl, K.out.below⟩
set_option maxRecDepth 100000 in
set_option maxHeartbeats 4000000 in
theorem Home_any (w : World) (B tb eb hb : Nat) (cv : Value) (s : TopS) (h : TopoW w B tb eb hb cv s) (n : Int) (h1 : wfI n) :
    Calls Try.prog 18 #[ptr tb, .int .i64 n] w fun e w' => e = .returned (.tuple #[.int .i64 (homeF s n).1, .int .i64 (homeF s n).2]) ∧ Below w.heap.size w w' := by
  have c1 := h.tab.cell 2 _ rfl
  have hlk := h.lookH n h1 false
  simp only [Bool.false_eq_true, if_false] at hlk
  have K : Hid (KR w.heap.size w [] w) := Lib.hid (KR.start (Below.refl _ _) (Nat.le_refl _))
  generalize homeF s n = R at *
  obtain ⟨r1, r2⟩ := R
  simp only at *
  clear h h1
  go_enter Try.func18, Try.ntmps18
  go_wp2_with (first
    | (refine wpList_store_row rfl 65 _ _ rfl _ rfl #[.int .i64 r1, .int .i64 r2] rfl _ _ ((K.out.box _ _).at 0 rfl) rfl (by kernel_rfl) (by simp [Value.oneCell']) ?_)
    | fail)
  intro Wi hbi hbari
  replace K := Lib.hid (K.out.into hbari hbi)
  clear hbi hbari hlk c1
  haveI : Nonempty (Keep (KR w.heap.size w [(w.heap.size, 65, #[.int .i64 r1, .int .i64 r2])])) := ⟨⟨_, K.out⟩⟩
  have kc0 := fun q : Keep (KR w.heap.size w [(w.heap.size, 65, #[.int .i64 r1, .int .i64 r2])]) => (KR.at q.h 0 rfl).cell 0 _ rfl
  have kc1 := fun q : Keep (KR w.heap.size w [(w.heap.size, 65, #[.int .i64 r1, .int .i64 r2])]) => (KR.at q.h 0 rfl).cell 1 _ rfl
  go_upto_region 4 with fail
  refine wp_region_keep2 (Cl := KR w.heap.size w [(w.heap.size, 65, #[.int .i64 r1, .int .i64 r2])]) (by kernel_rfl) (by kernel_rfl) K.out.drew ?_
  intro y' hy'
  clear hy' K
  repeat
    first
      | (refine wpQ2_step (fun K hK => ?_)
         go_simp
         first
           | (refine hK _ ?_; clear hK K)
           | (apply Exists.intro
              refine ⟨fun _ => ?_, hK _ ?_⟩
              (rw [if_neg (by omega)]; exact ⟨rfl, rfl⟩)
              clear hK K))
  refine wpQ2_nil ?_
  clear kc0 kc1
  intro Wk Kk
  have K := Lib.hid Kk
  clear Kk
  go_wp2_with fail
  go_ret2
  exact ⟨rfl, K.out.below⟩
set_option maxRecDepth 100000 in
set_option maxHeartbeats 4000000 in
theorem Cost_any (w : World) (B tb eb hb : Nat) (cv : Value) (s : TopS) (h : TopoW w B tb eb hb cv s) (n : Int) :
    Calls Try.prog 20 #[ptr tb, .int .i64 n] w fun e w' => e = .returned (.float .f64 (costF s n)) ∧ Below w.heap.size w w' := by
  have K := Lib.hid (Below.refl w.heap.size w)
  have c3 := h.tab.cell 3 _ rfl
  have HF : Hid (costF s n = if n < 1 ∨ (s.costs.length : Int) < n then 0 else s.costs.getD (n.toNat - 1) 0) := Lib.hid rfl
  have hown := h.own
  generalize costF s n = R at *
  obtain ⟨sz, en, ho, cs⟩ := s
  simp only at *
  rcases hown.form encF_len with ⟨rfl, rfl⟩ | ⟨g, cap, rfl, _, _, hcap, hmax, _, hcell⟩
  · have e : R = 0 := by rw [HF.out]; rw [if_pos (by simp; omega)]
    subst e
    by_cases h1 : n < 1
    · have t1 : decide (n < 1) = true := decide_eq_true h1
      clear h hown HF
      go_enter Try.func20, Try.ntmps20
      go_wp2_with fail
      go_ret
      exact ⟨rfl, K.out⟩
    · have t1 : decide (n < 1) = false := decide_eq_false h1
      have t2 : decide (0 < n) = true := decide_eq_true (by omega)
      clear h hown HF
      go_enter Try.func20, Try.ntmps20
      go_wp2_with fail
      go_ret
      exact ⟨rfl, K.out⟩
  · unfold maxLen at hmax
    by_cases h1 : n < 1
    · have t1 : decide (n < 1) = true := decide_eq_true h1
      have e : R = 0 := by rw [HF.out]; rw [if_pos (by omega)]
      subst e
      clear h hown HF hcell
      go_enter Try.func20, Try.ntmps20
      go_wp2_with fail
      go_ret
      exact ⟨rfl, K.out⟩
    · have t1 : decide (n < 1) = false := decide_eq_false h1
      by_cases h2 : (cs.length : Int) < n
      · have t2 : decide ((cs.length : Int) < n) = true := decide_eq_true h2
        have e : R = 0 := by rw [HF.out]; rw [if_pos (by omega)]
        subst e
        clear h hown HF hcell
        go_enter Try.func20, Try.ntmps20
        go_wp2_with fail
        go_ret
        exact ⟨rfl, K.out⟩
      · have t2 : decide ((cs.length : Int) < n) = false := decide_eq_false h2
        obtain ⟨k, rfl⟩ : ∃ k : Nat, n = k + 1 := ⟨n.toNat - 1, by omega⟩
        have hk : k < cs.length := by omega
        have e : R = cs[k] := by rw [HF.out]; rw [if_neg (by omega)]; simp [hk]
        subst e
        have c4 := hcell k 0 _ hk rfl
        simp only [Nat.mul_one, Nat.add_zero] at c4
        have v1 : (k : Int) + 1 - 1 = k := by omega
        clear h hown HF hcell
        go_enter Try.func20, Try.ntmps20
        go_wp2_with fail
        go_ret
        exact ⟨rfl, K.out⟩
end Go.Proofs.Ytggcmhjeflofmaa
