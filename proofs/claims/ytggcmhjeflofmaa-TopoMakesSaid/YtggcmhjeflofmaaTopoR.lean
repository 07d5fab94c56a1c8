/- The reference's Has, the law's nums. -/
import Derived.Test.YtggcmhjeflofmaaTopoI
namespace Go.Proofs.Ytggcmhjeflofmaa
open Go.RowKit Go.Maps
set_option linter.unusedVariables false
set_option linter.unusedSimpArgs false

theorem read_slice' {w : World} {v : Value} {xs : List Int} (h : ReadL w 1 encI v xs) (hne : 0 < xs.length) : ∃ b off cap, v = .slice (some ⟨b, off, none⟩) xs.length cap ∧ ∀ i (hi : i < xs.length), w.cell? ⟨b, off + i, none⟩ = some (.int .i64 xs[i]) := by
  obtain ⟨b, off, cap, rfl, _, _, _, hc⟩ := h.cells hne
  exact ⟨b, off, cap, rfl, fun i hi => by have := hc i 0 (.int .i64 xs[i]) hi (by simp [encI]); simpa using this⟩
theorem contains_step {xs : List Int} {k : Nat} {n : Int} (h : k < xs.length) : (xs.drop k).contains n = (xs[k] == n || (xs.drop (k + 1)).contains n) := by
  rw [List.drop_eq_getElem_cons h, List.contains_cons]
  generalize xs[k] = x
  by_cases e : x = n
  · subst e; rfl
  · have e1 : (n == x) = false := by simpa using fun h => e h.symm
    have e2 : (x == n) = false := by simpa using e
    rw [e1, e2]
set_option maxRecDepth 100000 in
set_option maxHeartbeats 4000000 in
theorem Has_any (w : World) (v : Value) (xs : List Int) (h : ReadL w 1 encI v xs) (n : Int) :
    Calls Try.prog 16 #[v, .int .i64 n] w fun e w' => e = .returned (.bool (xs.contains n)) ∧ w = w' := by
  obtain ⟨a, cap, rfl, hcap, hmax⟩ := h.slice
  unfold maxLen at hmax
  have HRd := Lib.hid h
  have HR : Hid (xs.contains n = (xs.drop 0).contains n) := Lib.hid rfl
  generalize xs.contains n = R at *
  clear h
  go_enter Try.func16, Try.ntmps16
  go_wp2_with fail
  go_loopw [5] (fun iv wr => ∃ k : Nat, k ≤ xs.length ∧ iv = .int .i64 k ∧ Hid (R = (xs.drop k).contains n) ∧ w = wr) (fun iv _ => xs.length - (intOf iv).toNat)
  case atStart => exact ⟨0, Nat.zero_le _, rfl, HR, rfl⟩
  case round =>
    obtain ⟨k, hk, rfl, HRk, rfl⟩ := hrel
    clear HR
    by_cases hlt : k < xs.length
    · have d2 : decide (k < xs.length) = true := by simpa using hlt
      obtain ⟨b, off, cap', hv, hc⟩ := read_slice' HRd.out (by omega)
      cases hv
      have c0 := hc k hlt
      have HRx : Hid (R = (xs[k] == n || (xs.drop (k + 1)).contains n)) := Lib.hid (by rw [HRk.out, contains_step hlt])
      clear HRk hc
      generalize xs[k] = x at *
      cases hx : (x == n)
      · have HRn : Hid (R = (xs.drop (k + 1)).contains n) := Lib.hid (by rw [HRx.out, hx]; rfl)
        clear HRx
        go_wp2_with fail
        go_roundw
        case rel => exact ⟨k + 1, by omega, by go_num, HRn, by first | trivial | rfl⟩
        case measure => simp [intOf]; omega
      · have HRn : Hid (R = true) := Lib.hid (by rw [HRx.out, hx]; rfl)
        clear HRx
        go_wp2_with fail
        go_ret
        exact ⟨rbool HRn.out.symm, rfl⟩
    · have d2 : decide (k < xs.length) = false := by simpa using hlt
      have HRn : Hid (R = false) := Lib.hid (by rw [HRk.out, List.drop_eq_nil_of_le (by omega)]; rfl)
      clear HRk
      go_wp2_with fail
      go_ret
      exact ⟨rbool HRn.out.symm, rfl⟩
end Go.Proofs.Ytggcmhjeflofmaa
