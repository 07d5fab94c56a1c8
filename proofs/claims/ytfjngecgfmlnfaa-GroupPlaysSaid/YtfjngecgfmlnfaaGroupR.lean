/- slices.Clone at ints; an append of a list of ints to one's own (printed by gen/groupr.py). -/
import Derived.Test.YtfjngecgfmlnfaaGroupQ
import Derived.Test.YtfjngecgfmlnfaaGroupD
import Derived.Deep.Upon
import Derived.Deep.AppendLies
namespace Go.Proofs.Ytfjngecgfmlnfaa
open Go.RowKit Go.Lib
set_option linter.unusedVariables false
set_option linter.unusedSimpArgs false

set_option maxRecDepth 100000 in
set_option maxHeartbeats 4000000 in
theorem cloneInt (w : World) (v : Value) (l : List Int) (h : ReadL w 1 encI v l) (h1 : ∀ x ∈ l, ∀ u ∈ encI x, u.oneCell' = true) (hl : l.length ≤ 1000000) :
    Calls Try.prog 59 #[v] w fun x w' => ∃ v', x = .returned v' ∧ OwnL w' w.heap.size 3 1 encI v' l ∧ Below w.heap.size w w' := by
  obtain ⟨a, cap, rfl, hcap, hmax, hc⟩ := h
  have q22 : ∀ (w : World) (a : Option Addr) (n c n' c' : Nat), (binOp .eql 72 (.slice a n c) (.slice none n' c')).run Try.prog w = .ok (.bool a.isNone) w := fun w a n c n' c' => Lib.run_eql_slice_nil w _ _ a n c n' c' Try.underlying72
  have hflat : (l.flatMap encI).length = l.length * 1 := by
    clear hc h1 hl hcap
    induction l with
    | nil => rfl
    | cons x xs ih => rw [List.flatMap_cons, List.length_append, ih, encI_len, List.length_cons]; omega
  have HONE : Hid (∀ u ∈ l.flatMap encI, u.oneCell' = true) := Lib.hid (fun u hu => by
    obtain ⟨x, hx, hu⟩ := List.mem_flatMap.1 hu
    exact h1 x hx u hu)
  cases a with
  | none =>
    have hn : l = [] := by
      rcases hc with h | ⟨b, off, h, _⟩
      · exact h
      · cases h
    subst hn
    clear hc HONE hflat h1
    go_enter Try.func59, Try.ntmps59
    go_wp2
    go_ret
    exact ⟨_, rfl, OwnL.nil _ _ _ _ _, Below.refl _ w⟩
  | some ad =>
    have A : Hid (∀ j u, (l.flatMap encI)[j]? = some u → w.cell? (ad.add j) = some u) := Lib.hid (fun j u hu => by
      rcases hc with h | ⟨b, off, h, _, hcell⟩
      · subst h; simp at hu
      · cases h
        have hj : j < l.length * 1 := by
          rw [← hflat]; exact (List.getElem?_eq_some_iff.1 hu).1
        have hi : j / 1 < l.length := by omega
        have e := flat_get l encI 1 encI_len (j / 1) (j % 1) hi (by omega)
        rw [show j / 1 * 1 + j % 1 = j by omega, hu] at e
        have := hcell (j / 1) (j % 1) u hi e.symm
        rw [show j / 1 * 1 + j % 1 = j by omega] at this
        rw [Addr.add_lit]
        exact this)
    clear hc h1
    obtain ⟨i0, hi, hz0, hz1, hz2⟩ := info_parts (P := Try.prog) (e := 3) (z := .int .i64 0) (size := 1) (bytes := 8) (by kernel_rfl)
    have hsz : (.int .i64 0 : Value).cells.size = 1 := rfl
    obtain ⟨news, hnews⟩ : ∃ news, news = l.flatMap encI := ⟨_, rfl⟩
    rw [← hnews] at A HONE hflat
    have HF := Lib.hid hnews
    clear hnews
    go_enter Try.func59, Try.ntmps59
    go_wp2_with (at_builtin; refine wpList_append_own _ rfl _ _ 72 rfl w.heap.size 3 i0 _ 1 8 Try.underlying72 hi hz0 hz1 hz2 hsz (by decide) _ _ _ rfl (World.ownsRow_made w #[] 0 (Nat.le_refl _) (Nat.zero_le _) (by simp)) ad l.length cap news rfl ?qc1 ?qc2 ?qc3 ?qc4 ?qc5 ?qc6 ?_)
    case qc1 => exact hflat
    case qc2 =>
      intro j u hj
      have := A.out j u hj
      exact Lib.cell?_alloc_some _ this
    case qc3 => exact HONE.out
    case qc4 => unfold maxLen; omega
    case qc5 => omega
    case qc6 => simp
    intro v' w1 hown hgrow hnil
    go_wp2
    go_ret
    refine ⟨v', rfl, ?_, ?_⟩
    · unfold OwnL
      rw [← HF.out]
      simpa using hown
    · exact ((Below.refl _ w).alloc (Nat.le_refl _) _).grown hgrow (by simp) (by intro k hk; simp [Value.ownBlock] at hk; omega)

theorem flat_cellsI {w : World} {b : Nat} : ∀ (ys : List Int) (off : Nat), (∀ i j u, (hi : i < ys.length) → (encI ys[i])[j]? = some u → w.cell? ⟨b, off + (i * 1 + j), none⟩ = some u) →
    ∀ j u, (ys.flatMap encI)[j]? = some u → w.cell? ⟨b, off + j, none⟩ = some u
  | [], off, _, j, u, h => by simp at h
  | y :: ys, off, hc, j, u, h => by
    rw [List.flatMap_cons] at h
    by_cases hj : j < 1
    · rw [List.getElem?_append_left (by rw [encI_len]; exact hj)] at h
      have := hc 0 j u (by simp) (by simpa using h)
      simpa using this
    · rw [List.getElem?_append_right (by rw [encI_len]; omega), encI_len] at h
      have := flat_cellsI ys (off + 1) (fun i j u hi hu => by
        have := hc (i + 1) j u (by simpa using hi) (by simpa using hu)
        rw [show off + 1 + (i * 1 + j) = off + ((i + 1) * 1 + j) by omega]
        exact this) (j - 1) u h
      rw [show off + j = off + 1 + (j - 1) by omega]
      exact this
theorem flat_lenI : ∀ (l : List Int), (l.flatMap encI).length = l.length * 1
  | [] => rfl
  | x :: l => by rw [List.flatMap_cons, List.length_append, flat_lenI l, encI_len, List.length_cons]; omega
theorem append_runI (w : World) (B : Nat) (vx vy : Value) (xs ys : List Int) (hx : OwnL w B 3 1 encI vx xs) (hy : ReadL w 1 encI vy ys) (hl : xs.length + ys.length ≤ 1000000) (hB : B ≤ w.heap.size) (ty : TypeId) :
    ∃ v' w', (Builtin.append_ #[72, 72] ty #[vx, vy]).run Try.prog w = .ok v' w' ∧ OwnL w' B 3 1 encI v' (xs ++ ys) ∧ w.grownBy w' vx.ownBlock ∧ (v'.ownBlock = vx.ownBlock ∨ v'.ownBlock = some w.heap.size) := by
  obtain ⟨i0, hi, hz0, hz1, hz2⟩ := info_parts intInfo
  obtain ⟨a, cap, rfl, hcap, hmax, hc⟩ := hy
  obtain ⟨ao, ac, hvx, hxc, _⟩ := hx.slice
  rcases hc with rfl | ⟨b, off, rfl, hblt, hcell⟩
  · have hn := run_append_nothing (P := Try.prog) w 72 72 ty 3 i0 Try.underlying72 hi ao xs.length ac hxc (.slice a 0 cap)
      ⟨.inl ⟨_, Try.underlying72⟩, fun w' => rfl, by cases a <;> simp [Builtin.firstCells, loadCells, loadCellsFrom], by cases a <;> simp [Builtin.firstCells, loadCells, loadCellsFrom], by simp, by simp⟩
    subst hvx
    exact ⟨_, w, hn, by simpa using hx, World.grownBy.refl _ _, .inl rfl⟩
  · by_cases hys : ys = []
    · subst hys
      have hn := run_append_nothing (P := Try.prog) w 72 72 ty 3 i0 Try.underlying72 hi ao xs.length ac hxc (.slice (some ⟨b, off, none⟩) 0 cap)
        ⟨.inl ⟨_, Try.underlying72⟩, fun w' => rfl, by simp [Builtin.firstCells, loadCells, loadCellsFrom], by simp [Builtin.firstCells, loadCells, loadCellsFrom], by simp, by simp⟩
      subst hvx
      exact ⟨_, w, hn, by simpa using hx, World.grownBy.refl _ _, .inl rfl⟩
    · have hadd : ∀ j : Nat, (⟨b, off, none⟩ : Addr).add j = ⟨b, off + j, none⟩ := fun j => by unfold Addr.add; split <;> simp_all
      obtain ⟨g, cp, w', h1, h2, h3, h4, h5⟩ := run_append_lies (P := Try.prog) w 72 ty B 3 i0 _ 1 8 Try.underlying72 hi hz0 hz1 hz2 rfl (by decide) vx xs.length (xs.flatMap encI) hx
        ⟨b, off, none⟩ ys.length cap (ys.flatMap encI) (flat_lenI ys) (fun j u hu => by rw [hadd]; exact flat_cellsI ys off hcell j u hu)
        (fun u hu => by obtain ⟨y, hy, hu⟩ := List.mem_flatMap.1 hu; exact encI_one y u hu)
        (by cases ys with | nil => exact absurd rfl hys | cons _ _ => simp) (by unfold maxLen; omega) (by omega) hB _ rfl
      refine ⟨_, w', h1, ?_, h3, ?_⟩
      · unfold OwnL
        rw [List.flatMap_append, List.length_append]
        exact h2
      · rcases h4 with h4 | h4
        · left; rw [h4]; rfl
        · right; rw [h4]; rfl
theorem wp_append_I {w : World} {o : Oper} {a : Act} {K : Act → World → Prop} {Q : Exit → Act → World → Prop} (s x : Operand)
    (ho : o.op = .call { callee := .builtin .append, args := #[s, x], argTypes := #[72, 72] }) (B : Nat) (vx vy : Value) (xs ys : List Int) (hs : a.eval s = vx) (hx0 : a.eval x = vy)
    (hx : OwnL w B 3 1 encI vx xs) (hy : ReadL w 1 encI vy ys) (hl : xs.length + ys.length ≤ 1000000) (hB : B ≤ w.heap.size)
    (h : ∀ v' w', OwnL w' B 3 1 encI v' (xs ++ ys) → w.grownBy w' vx.ownBlock → (v'.ownBlock = vx.ownBlock ∨ v'.ownBlock = some w.heap.size) → K (a.put o.dst v') w') : o.wp Try.prog a w K Q := by
  obtain ⟨v', w', hr, h2, h3, h4⟩ := append_runI w B vx vy xs ys hx hy hl hB o.type
  unfold Oper.wp execOp
  simp only [ho, resolve, invoke, builtin, Sem.run_bind, Sem.run_pure, Result.andThen_ok, List.map_toArray, List.map_cons, List.map_nil, hs, hx0, hr]
  exact h v' w' h2 h3 h4
end Go.Proofs.Ytfjngecgfmlnfaa
