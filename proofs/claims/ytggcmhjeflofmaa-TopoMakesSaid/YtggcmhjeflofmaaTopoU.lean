/- A topology in memory: Hosts. -/
import Derived.Test.YtggcmhjeflofmaaTopoD
import Derived.Test.YtggcmhjeflofmaaTopoH
import Derived.Test.YtggcmhjeflofmaaMapR
import Derived.Handy
namespace Go.Proofs.Ytggcmhjeflofmaa
open Go.RowKit Go.Maps
set_option linter.unusedVariables false
set_option linter.unusedSimpArgs false

theorem insertion_nil (W : World) (a : Option Addr) (cap : Nat) : Calls Try.prog 37 #[.slice a 0 cap, .int .i64 0, .int .i64 0] W fun e w' => e = .returned (.tuple #[]) ∧ Below W.heap.size W w' := by
  have K : Hid (Below W.heap.size W W) := Lib.hid (Below.refl _ _)
  go_enter Try.func37, Try.ntmps37
  go_wp2_with fail
  refine wp_loop_rounds 1 ?_
  rw [rounds_succ]
  go_wp2_with fail
  go_returns
  exact ⟨rfl, K.out⟩
set_option maxHeartbeats 2000000 in
theorem pdq_nil (W : World) (a : Option Addr) (cap : Nat) : Calls Try.prog 35 #[.slice a 0 cap, .int .i64 0, .int .i64 0, .int .i64 0] W fun e w' => e = .returned (.tuple #[]) ∧ Below W.heap.size W w' := by
  have K : Hid (Below W.heap.size W W) := Lib.hid (Below.refl _ _)
  go_enter Try.func35, Try.ntmps35
  go_wp2_with fail
  refine wp_loop_rounds 1 ?_
  rw [rounds_succ]
  go_wp2_with fail
  refine (insertion_nil W a cap).mono ?_
  rintro e w' ⟨rfl, hb⟩
  clear K
  have K := Lib.hid hb
  clear hb
  go_wp2_with fail
  go_returns
  exact ⟨rfl, K.out⟩
theorem blen64_nil (W : World) : Calls Try.prog 47 #[.int .u64 0] W fun e w' => e = .returned (.int .i64 0) ∧ w' = W := by
  go_enter Try.func47, Try.ntmps47
  go_wp2_with fail
  go_ret
  exact ⟨by kernel_rfl, rfl⟩
theorem blen_nil (W : World) : Calls Try.prog 36 #[.int .u64 0] W fun e w' => e = .returned (.int .i64 0) ∧ w' = W := by
  go_enter Try.func36, Try.ntmps36
  go_wp2_with fail
  refine (blen64_nil W).mono ?_
  rintro e w' ⟨rfl, hw⟩
  subst hw
  go_wp2_with fail
  go_ret
  exact ⟨rfl, rfl⟩
theorem sort_nil (W : World) (a : Option Addr) (cap : Nat) : Calls Try.prog 33 #[.slice a 0 cap] W fun e w' => e = .returned (.tuple #[]) ∧ Below W.heap.size W w' := by
  go_enter Try.func33, Try.ntmps33
  go_wp2_with fail
  refine (blen_nil W).mono ?_
  rintro e w' ⟨rfl, hw⟩
  subst hw
  go_wp2_with fail
  refine (pdq_nil _ a cap).mono ?_
  rintro e w' ⟨rfl, hb⟩
  have K := Lib.hid hb
  clear hb
  go_wp2_with fail
  go_returns
  exact ⟨rfl, K.out⟩

def hostsF (s : TopS) : List Int := sortI (s.homes.map (·.1))
theorem cons_erase {α : Type} : ∀ (l : List α) (i : Nat) (hi : i < l.length), (l[i] :: l.eraseIdx i).Perm l
  | [], i, hi => by simp at hi
  | x :: l, 0, _ => .refl _
  | x :: l, i + 1, hi => by
    simp only [List.getElem_cons_succ, List.eraseIdx_cons_succ]
    exact (List.Perm.swap _ _ _).trans ((cons_erase l i (by simpa using hi)).cons x)
theorem perm_done {lf : List (Int × Place)} {done all : List Int} (h : (done ++ lf.map (·.1)).Perm all) (i : Nat) (hi : i < lf.length) : ((done ++ [lf[i].1]) ++ (lf.eraseIdx i).map (·.1)).Perm all := by
  refine List.Perm.trans ?_ h
  rw [List.append_assoc]
  refine List.Perm.append_left _ ?_
  rw [List.singleton_append]
  exact (cons_erase lf i hi).map (·.1)
theorem sortI_perm {a b : List Int} (h : a.Perm b) : sortI a = sortI b := by
  have pw : ∀ l : List Int, (sortI l).Pairwise (fun x y => decide (x ≤ y) = true) := fun l =>
    List.pairwise_mergeSort (le := fun x y : Int => decide (x ≤ y)) (fun a b c h1 h2 => by simp at *; omega) (fun a b => by simp; omega) l
  exact List.Perm.eq_of_pairwise (le := fun x y : Int => decide (x ≤ y) = true) (fun x y _ _ h1 h2 => by simp at h1 h2; omega) (pw a) (pw b)
    (((List.mergeSort_perm _ _).trans h).trans (List.mergeSort_perm _ _).symm)
def lenOf : Value → Nat
  | .slice _ n _ => n
  | _ => 0
set_option maxRecDepth 100000 in
set_option maxHeartbeats 4000000 in
theorem Hosts_any (w : World) (B tb eb hb : Nat) (cv : Value) (s : TopS) (h : TopoW w B tb eb hb cv s) (hs : s.homes.length ≤ 64) :
    Calls Try.prog 26 #[ptr tb] w fun e w' => ∃ v C, w.heap.size ≤ C ∧ e = .returned v ∧ OwnL w' C 3 1 encI v (hostsF s) ∧ Below w.heap.size w w' := by
  have HT := Lib.hid h
  have c2 := h.tab.cell 2 _ rfl
  have hm := h.homes
  have hbl := h.homes.lt
  have HBl := Lib.hid hbl
  have HS := Lib.hid hs
  clear h hs
  go_enter Try.func26, Try.ntmps26
  go_wp2_with (first | (at_range; refine wpList_range_L rfl _ _ rfl Try.underlying54 rfl hm ?_; intro ob hit) | fail)
  go_frame
  go_loopw [3, 4] (fun ov hv wr => ∃ (lf : List (Int × Place)) (done : List Int), Hid ((done ++ lf.map (·.1)).Perm (s.homes.map (·.1))) ∧ Hid (IterL wr hb w.heap.size keyI placeV s.homes lf) ∧ Hid (OwnL wr (w.heap.size + 1) 3 1 encI ov done) ∧ Hid (Below w.heap.size w wr)) (fun ov _ _ => s.homes.length - lenOf ov)
  case atStart => exact ⟨s.homes, [], Lib.hid (List.Perm.refl _), Lib.hid hit, Lib.hid (OwnL.nil _ _ _ _ _), Lib.hid ((Below.refl _ _).alloc (Nat.le_refl _) _)⟩
  case round =>
    obtain ⟨lf, done, HP, HI, Hown, HB⟩ := hrel
    clear hit
    have hit := HI.out
    obtain ⟨a, cap, hov, hn1, hn2⟩ := Hown.out.slice
    go_wp2_with (first | (at_next; refine wpList_next_L rfl _ rfl rfl hit ?_ ?_) | fail)
    · intro h0
      subst h0
      have HPd : Hid (hostsF s = sortI done) := Lib.hid (by
        have := HP.out
        simp only [List.map_nil, List.append_nil] at this
        exact (sortI_perm this).symm)
      have hlen : done.length = s.homes.length := by
        have := HP.out.length_eq
        simpa using this
      have hle : done.length ≤ 64 := by have := HS.out; omega
      clear HP hit HI hlen
      by_cases hne : done = []
      · subst hne
        simp only [List.length_nil] at hov
        subst hov
        have HB1 := HB
        go_wp2_with fail
        refine (sort_nil wr a cap).mono ?_
        rintro e w2 ⟨rfl, hb2⟩
        have HB2 := Lib.hid (HB.out.trans (hb2.mono HB.out.size))
        have HO2 := Lib.hid (Hown.out.belowAll hb2)
        clear hb2 Hown
        go_wp2_with fail
        go_ret
        exact ⟨_, w.heap.size + 1, by omega, rfl, by rw [HPd.out, show sortI [] = [] from by simp [sortI]]; exact HO2.out, HB2.out⟩
      · subst hov
        have HNe := Lib.hid hne
        clear hne
        go_wp2_with fail
        refine (sort_any wr (w.heap.size + 1) _ done Hown.out HNe.out (by omega)).mono ?_
        rintro e w2 ⟨rfl, hown2, hg⟩
        have HB2 := Lib.hid (HB.out.grown hg HB.out.size (fun k hk => Nat.le_of_succ_le (Hown.out.block k hk).1))
        have HO2 := Lib.hid hown2
        clear hown2 hg Hown
        go_wp2_with fail
        go_ret
        exact ⟨_, w.heap.size + 1, by omega, rfl, by rw [HPd.out]; exact HO2.out, HB2.out⟩
    · intro i hi w1 hit1 hbar hsz hen
      have HP1 := Lib.hid (perm_done HP.out i hi)
      have HI1 := Lib.hid hit1
      have Hown1 := Lib.hid (Hown.out.bar hbar (fun k hk => by have := (Hown.out.block k hk).1; omega))
      have HB1 := Lib.hid (hbar.below HB.out (Nat.le_refl _) HB.out.size)
      have hlt : done.length + 1 ≤ 64 := by
        have h1 := HP.out.length_eq
        have h2 := HS.out
        simp only [List.length_append, List.length_map] at h1
        omega
      have hlt2 : done.length + 1 ≤ s.homes.length := by
        have h1 := HP.out.length_eq
        simp only [List.length_append, List.length_map] at h1
        omega
      have hw1 : w.heap.size + 1 ≤ w1.heap.size := by
        have := hit1.lt.2
        omega
      clear HP hit HI Hown HB hit1 hbar hsz
      generalize lf.eraseIdx i = lf1 at *
      generalize lf[i] = p at *
      obtain ⟨h, pl⟩ := p
      simp only [keyI] at hen HP1
      simp only [keyI]
      subst hov
      go_wp2_with (first | (at_builtin; go_must (refine app_one Hown1.out h Try.underlying23 intInfo rfl (by decide) encI_len encI_one rfl rfl rfl rfl ?c1 ?c2 ?c3 ?_)) | fail)
      case c1 => omega
      case c2 => omega
      case c3 => exact hw1
      intro v' w6 hown1 hgrow _
      have HB6 := Lib.hid (HB1.out.grown hgrow HB1.out.size (fun k hk => Nat.le_of_succ_le (Hown1.out.block k hk).1))
      have HOwn6 := Lib.hid hown1
      have HI6 := Lib.hid (HI1.out.grown hgrow (fun hk => by have := (Hown1.out.block _ hk).1; have := HBl.out; omega) (fun hk => by have := (Hown1.out.block _ hk).1; omega))
      obtain ⟨a6, cap6, hv6, _, _⟩ := hown1.slice
      clear hown1 hgrow Hown1 HB1 HI1
      go_wp2_with fail
      go_roundw
      case rel => exact ⟨lf1, done ++ [h], HP1, HI6, HOwn6, HB6⟩
      case measure =>
        simp only [hv6, lenOf, List.length_append, List.length_cons, List.length_nil]
        omega
end Go.Proofs.Ytggcmhjeflofmaa
