/- A topology in memory: Ports. -/
import Derived.Test.YtggcmhjeflofmaaTopoC
namespace Go.Proofs.Ytggcmhjeflofmaa
open Go.RowKit Go.Maps
set_option linter.unusedVariables false
set_option linter.unusedSimpArgs false

theorem intInfo : (Try.prog.info? 3).map (fun i => (i.zero, i.size, i.bytes)) = some (some (.int .i64 0), 1, 8) := by kernel_rfl
def hasP (s : TopS) (sw p : Int) : Bool := (lookL s.ends (sw, p)).isSome
/-- The ports up to k that have a link. -/
def portsTo (s : TopS) (sw : Int) : Nat → List Int
  | 0 => []
  | k + 1 => portsTo s sw k ++ if hasP s sw ((k : Int) + 1) = true then [(k : Int) + 1] else []
theorem portsTo_len (s : TopS) (sw : Int) (k : Nat) : (portsTo s sw k).length ≤ k := by
  induction k with
  | zero => simp [portsTo]
  | succ k ih =>
    unfold portsTo
    rw [List.length_append]
    split <;> simp <;> omega
abbrev portsF (s : TopS) (sw : Int) : List Int := portsTo s sw 16

set_option maxRecDepth 100000 in
set_option maxHeartbeats 4000000 in
theorem Ports_any (w : World) (B tb eb hb : Nat) (cv : Value) (s : TopS) (h : TopoW w B tb eb hb cv s) (sw : Int) (h1 : wfI sw) :
    Calls Try.prog 22 #[ptr tb, .int .i64 sw] w fun e w' => ∃ v C, w.heap.size ≤ C ∧ e = .returned v ∧ OwnL w' C 3 1 encI v (portsF s sw) ∧ Below w.heap.size w w' := by
  have HT := Lib.hid h
  have H1 := Lib.hid h1
  clear h h1
  go_enter Try.func22, Try.ntmps22
  go_wp2_with fail
  go_loopw [5, 6] (fun ov iv wr => ∃ k : Nat, k ≤ 16 ∧ iv = .int .i64 ((k : Int) + 1) ∧ Hid (Below w.heap.size w wr) ∧ Hid (OwnL wr w.heap.size 3 1 encI ov (portsTo s sw k))) (fun _ iv _ => (17 - intOf iv).toNat)
  case atStart => exact ⟨0, by omega, rfl, Lib.hid (Below.refl _ _), Lib.hid (OwnL.nil _ _ _ _ _)⟩
  case round =>
    obtain ⟨k, hk, rfl, HB, Hown⟩ := hrel
    have HTr := Lib.hid (HT.out.below HB.out (Nat.le_refl _))
    by_cases hlt : k < 16
    · have d2 : decide ((k : Int) + 1 ≤ 16) = true := decide_eq_true (by omega)
      have c1 := HTr.out.tab.cell 1 _ rfl
      have hwf : wfI ((k : Int) + 1) := WalkArith.wf_i64 (by omega)
      have hlk := HTr.out.lookE (sw, (k : Int) + 1) ⟨H1.out, hwf⟩ true
      simp only [if_true] at hlk
      have HP : Hid (portsTo s sw (k + 1) = portsTo s sw k ++ if hasP s sw ((k : Int) + 1) = true then [(k : Int) + 1] else []) := Lib.hid rfl
      have hlen := portsTo_len s sw k
      have HH : Hid ((lookL s.ends (sw, (k : Int) + 1)).isSome = hasP s sw ((k : Int) + 1)) := Lib.hid rfl
      rw [HH.out] at hlk
      have K : Hid (KR wr.heap.size wr [] wr) := Lib.hid (KR.start (Below.refl _ _) (Nat.le_refl _))
      generalize hasP s sw ((k : Int) + 1) = F at *
      generalize peerF s (sw, (k : Int) + 1) = R at *
      obtain ⟨r1, r2, r3⟩ := R
      simp only at hlk
      clear hwf HH
      generalize portsTo s sw k = L at *
      go_wp2_with (first
        | (refine wpList_store_row rfl 67 _ _ rfl _ rfl #[.int .i64 r1, .int .i64 r2, .int .i64 r3] rfl _ _ ((K.out.box _ _).at 0 rfl) rfl (by kernel_rfl) (by simp [Value.oneCell']) ?_)
        | fail)
      intro Wi hbi hbari
      replace Hown := Lib.hid ((Hown.out.alloc _).bar hbari (fun k' hk' => by have := (Hown.out.block k' hk').2; omega))
      replace K := Lib.hid (K.out.into hbari hbi)
      replace HB := Lib.hid (HB.out.trans (K.out.below.mono HB.out.size))
      clear hbi hbari hlk c1
      cases F with
      | true =>
        rw [if_pos rfl] at HP
        go_wp2_with (at_builtin; go_must (refine app_one Hown.out ((k : Int) + 1) Try.underlying23 intInfo rfl (by decide) encI_len encI_one rfl rfl rfl rfl ?c1 ?c2 ?c3 ?_))
        case c1 => omega
        case c2 => omega
        case c3 => exact HB.out.size
        intro v' w6 hown1 hgrow _
        have HB6 := Lib.hid (below_grown HB.out hgrow HB.out.size Hown.out)
        have HOwn1 : Hid (OwnL w6 w.heap.size 3 1 encI v' (portsTo s sw (k + 1))) := Lib.hid (by rw [HP.out]; exact hown1)
        clear hown1 hgrow Hown HB
        go_wp2_with fail
        go_roundw
        case rel => exact ⟨k + 1, by omega, by go_num, HB6, HOwn1⟩
        case measure => simp [intOf]; omega
      | false =>
        rw [if_neg (by simp), List.append_nil] at HP
        have HOwn1 : Hid (OwnL Wi w.heap.size 3 1 encI u5 (portsTo s sw (k + 1))) := Lib.hid (by rw [HP.out]; exact Hown.out)
        clear Hown
        go_wp2_with fail
        go_roundw
        case rel => exact ⟨k + 1, by omega, by go_num, HB, HOwn1⟩
        case measure => simp [intOf]; omega
    · have d2 : decide ((k : Int) + 1 ≤ 16) = false := decide_eq_false (by omega)
      obtain rfl : k = 16 := by omega
      go_wp2_with fail
      go_ret
      exact ⟨_, w.heap.size, Nat.le_refl _, rfl, Hown.out, HB.out⟩
end Go.Proofs.Ytggcmhjeflofmaa
