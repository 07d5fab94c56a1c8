/- The reference's Cost; a right cost equals itself. -/
import Derived.Test.YtggcmhjeflofmaaTopoO
namespace Go.Proofs.Ytggcmhjeflofmaa
open Go.RowKit Go.Maps
set_option linter.unusedVariables false
set_option linter.unusedSimpArgs false

theorem order_self (d e : Ieee.Datum) (h : d.order e ≠ none) : d.order d = some .eq := by
  cases d <;> cases e <;> simp_all [Ieee.Datum.order]
theorem costOk_self {c : Nat} (h : costOk c = true) : FloatKind.f64.format.order c c = some .eq := by
  unfold costOk geF ordF at h
  refine order_self _ (FloatKind.f64.format.read 0) (fun h0 => ?_)
  have h1 : FloatKind.f64.format.order c 0 = none := h0
  rw [h1] at h
  simp at h
set_option maxRecDepth 100000 in
set_option maxHeartbeats 4000000 in
theorem rCost_any (w : World) (rb : Nat) (lv : Value) (m : Int) (l : List Link) (h : RefW w rb lv m l) (n : Int) :
    Calls Try.prog 21 #[ptr rb, .int .i64 n] w fun e w' => e = .returned (.float .f64 (rCostF l n)) ∧ Below w.heap.size w w' := by
  obtain ⟨hb1, a, cap, rfl, hcap, hmax, hc⟩ := h
  have K := Lib.hid (Below.refl w.heap.size w)
  have c1 := hb1.cell 1 _ rfl
  have HF : Hid (rCostF l n = if n < 1 ∨ (l.length : Int) < n then 0 else (l.map (·.fCost)).getD (n.toNat - 1) 0) := Lib.hid rfl
  generalize rCostF l n = R at *
  unfold maxLen at hmax
  by_cases h1 : n < 1
  · have t1 : decide (n < 1) = true := decide_eq_true h1
    have e : R = 0 := by rw [HF.out]; rw [if_pos (by omega)]
    subst e
    clear HF hc hb1
    go_enter Try.func21, Try.ntmps21
    go_wp2_with fail
    go_ret
    exact ⟨rfl, K.out⟩
  have t1 : decide (n < 1) = false := decide_eq_false h1
  by_cases h2 : (l.length : Int) < n
  · have t2 : decide ((l.length : Int) < n) = true := decide_eq_true h2
    have e : R = 0 := by rw [HF.out]; rw [if_pos (by omega)]
    subst e
    clear HF hc hb1
    go_enter Try.func21, Try.ntmps21
    go_wp2_with fail
    go_ret
    exact ⟨rfl, K.out⟩
  have t2 : decide ((l.length : Int) < n) = false := decide_eq_false h2
  obtain ⟨k, rfl⟩ : ∃ k : Nat, n = k + 1 := ⟨n.toNat - 1, by omega⟩
  have hk : k < l.length := by omega
  rcases hc with hnil | ⟨b, off, rfl, hblt, hcell⟩
  · rw [hnil] at hk; simp at hk
  have c2 : w.cell? ⟨b, off + k * 5 + 4, none⟩ = some (.float .f64 l[k].fCost) := by
    have := hcell k 4 (.float .f64 l[k].fCost) hk rfl
    rw [Nat.add_assoc]; exact this
  have e : R = l[k].fCost := by
    rw [HF.out, if_neg (by omega)]
    simp [hk]
  rw [e]
  have hw1 : IntKind.i64.wrap ((k : Int) + 1 - 1) = k := IntWalk.i64_in _ (by omega) |>.trans (by omega)
  clear HF hcell hb1 e
  generalize l[k].fCost = q at *
  go_enter Try.func21, Try.ntmps21
  go_wp2_with fail
  go_ret
  exact ⟨rfl, K.out⟩
end Go.Proofs.Ytggcmhjeflofmaa
