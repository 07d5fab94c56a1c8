/- An append of a list of actions to one's own. -/
import Derived.Test.YtdjhbahiiabimaaInsE
import Derived.Deep.Upon
namespace Go.Proofs.Ytdjhbahiiabimaa
open Go.RowKit
set_option linter.unusedVariables false
set_option linter.unusedSimpArgs false

theorem flat_cells {w : World} {b : Nat} : ∀ (ys : List Action) (off : Nat), (∀ i j u, (hi : i < ys.length) → (encAction ys[i])[j]? = some u → w.cell? ⟨b, off + (i * 3 + j), none⟩ = some u) →
    ∀ j u, (ys.flatMap encAction)[j]? = some u → w.cell? ⟨b, off + j, none⟩ = some u
  | [], off, _, j, u, h => by simp at h
  | y :: ys, off, hc, j, u, h => by
    rw [List.flatMap_cons] at h
    by_cases hj : j < 3
    · rw [List.getElem?_append_left (by rw [encAction_len]; exact hj)] at h
      have := hc 0 j u (by simp) (by simpa using h)
      simpa using this
    · rw [List.getElem?_append_right (by rw [encAction_len]; omega), encAction_len] at h
      have := flat_cells ys (off + 3) (fun i j u hi hu => by
        have := hc (i + 1) j u (by simpa using hi) (by simpa using hu)
        rw [show off + 3 + (i * 3 + j) = off + ((i + 1) * 3 + j) by omega]
        exact this) (j - 3) u h
      rw [show off + j = off + 3 + (j - 3) by omega]
      exact this
theorem flat_len : ∀ (l : List Action), (l.flatMap encAction).length = l.length * 3
  | [] => rfl
  | x :: l => by rw [List.flatMap_cons, List.length_append, flat_len l, encAction_len, List.length_cons]; omega
theorem append_run (w : World) (B : Nat) (vx vy : Value) (xs ys : List Action) (hx : OwnL w B 67 3 encAction vx xs) (hy : ReadL w 3 encAction vy ys) (hl : xs.length + ys.length ≤ 1000000) (hB : B ≤ w.heap.size) (ty : TypeId) :
    ∃ v' w', (Builtin.append_ #[23, 23] ty #[vx, vy]).run Try.prog w = .ok v' w' ∧ OwnL w' B 67 3 encAction v' (xs ++ ys) ∧ w.grownBy w' vx.ownBlock ∧ (v'.ownBlock = vx.ownBlock ∨ v'.ownBlock = some w.heap.size) := by
  obtain ⟨i0, hi, hz0, hz1, hz2⟩ := info_parts actInfo
  obtain ⟨a, cap, rfl, hcap, hmax, hc⟩ := hy
  obtain ⟨ao, ac, hvx, hxc, _⟩ := hx.slice
  rcases hc with rfl | ⟨b, off, rfl, hblt, hcell⟩
  · have hn := run_append_nothing (P := Try.prog) w 23 23 ty 67 i0 Try.underlying23 hi ao xs.length ac hxc (.slice a 0 cap)
      ⟨.inl ⟨_, Try.underlying23⟩, fun w' => rfl, by cases a <;> simp [Builtin.firstCells, loadCells, loadCellsFrom], by cases a <;> simp [Builtin.firstCells, loadCells, loadCellsFrom], by simp, by simp⟩
    subst hvx
    exact ⟨_, w, hn, by simpa using hx, World.grownBy.refl _ _, .inl rfl⟩
  · by_cases hys : ys = []
    · subst hys
      have hn := run_append_nothing (P := Try.prog) w 23 23 ty 67 i0 Try.underlying23 hi ao xs.length ac hxc (.slice (some ⟨b, off, none⟩) 0 cap)
        ⟨.inl ⟨_, Try.underlying23⟩, fun w' => rfl, by simp [Builtin.firstCells, loadCells, loadCellsFrom], by simp [Builtin.firstCells, loadCells, loadCellsFrom], by simp, by simp⟩
      subst hvx
      exact ⟨_, w, hn, by simpa using hx, World.grownBy.refl _ _, .inl rfl⟩
    · have hadd : ∀ j : Nat, (⟨b, off, none⟩ : Addr).add j = ⟨b, off + j, none⟩ := fun j => by unfold Addr.add; split <;> simp_all
      obtain ⟨g, cp, w', h1, h2, h3, h4, h5⟩ := run_append_lies (P := Try.prog) w 23 ty B 67 i0 _ 3 24 Try.underlying23 hi hz0 hz1 hz2 rfl (by decide) vx xs.length (xs.flatMap encAction) hx
        ⟨b, off, none⟩ ys.length cap (ys.flatMap encAction) (flat_len ys) (fun j u hu => by rw [hadd]; exact flat_cells ys off hcell j u hu)
        (fun u hu => by obtain ⟨y, hy, hu⟩ := List.mem_flatMap.1 hu; exact encAction_one' y u hu)
        (by cases ys with | nil => exact absurd rfl hys | cons _ _ => simp) (by unfold maxLen; omega) (by omega) hB _ rfl
      refine ⟨_, w', h1, ?_, h3, ?_⟩
      · unfold OwnL
        rw [List.flatMap_append, List.length_append]
        exact h2
      · rcases h4 with h4 | h4
        · left; rw [h4]; rfl
        · right; rw [h4]; rfl
theorem wp_append_A {w : World} {o : Oper} {a : Act} {K : Act → World → Prop} {Q : Exit → Act → World → Prop} (s x : Operand)
    (ho : o.op = .call { callee := .builtin .append, args := #[s, x], argTypes := #[23, 23] }) (B : Nat) (vx vy : Value) (xs ys : List Action) (hs : a.eval s = vx) (hx0 : a.eval x = vy)
    (hx : OwnL w B 67 3 encAction vx xs) (hy : ReadL w 3 encAction vy ys) (hl : xs.length + ys.length ≤ 1000000) (hB : B ≤ w.heap.size)
    (h : ∀ v' w', OwnL w' B 67 3 encAction v' (xs ++ ys) → w.grownBy w' vx.ownBlock → (v'.ownBlock = vx.ownBlock ∨ v'.ownBlock = some w.heap.size) → K (a.put o.dst v') w') : o.wp Try.prog a w K Q := by
  obtain ⟨v', w', hr, h2, h3, h4⟩ := append_run w B vx vy xs ys hx hy hl hB o.type
  unfold Oper.wp execOp
  simp only [ho, resolve, invoke, builtin, Sem.run_bind, Sem.run_pure, Result.andThen_ok, List.map_toArray, List.map_cons, List.map_nil, hs, hx0, hr]
  exact h v' w' h2 h3 h4
end Go.Proofs.Ytdjhbahiiabimaa
