/- TopoHomes: where hosts are, and what links cost. -/
import Derived.Test.YtggcmhjeflofmaaTopoT
namespace Go.Proofs.Ytggcmhjeflofmaa
open Go.RowKit Go.Maps
set_option linter.unusedVariables false
set_option linter.unusedSimpArgs false

theorem rAll_cost {size : Int} : ∀ (l pre : List Link), rAll size pre l = true → ∀ x ∈ l, costOk x.fCost = true
  | [], _, _, x, hx => by cases hx
  | y :: l, pre, h, x, hx => by
    unfold rAll at h
    simp only [Bool.and_eq_true] at h
    rcases List.mem_cons.1 hx with rfl | hx
    · have h1 := h.1
      unfold rightL at h1
      simp only [Bool.and_eq_true] at h1
      exact h1.1.2
    · exact rAll_cost l _ h.2.2 x hx
theorem rCost_self {size : Int} {l : List Link} (h : rNewF size l = true) (n : Int) : FloatKind.f64.format.order (rCostF l n) (rCostF l n) = some .eq := by
  unfold rCostF
  split
  · kernel_rfl
  · rename_i hn
    unfold rNewF at h
    simp only [Bool.and_eq_true] at h
    have hk : n.toNat - 1 < l.length := by omega
    have := rAll_cost l [] h.2 _ (List.getElem_mem hk)
    have e : (l.map (·.fCost)).getD (n.toNat - 1) 0 = l[n.toNat - 1].fCost := by simp [hk]
    rw [e]
    exact costOk_self this

set_option maxRecDepth 100000 in
set_option maxHeartbeats 8000000 in
theorem TopoHomes_walk (w : World) (n : Int) (wn : (Lit.int .i64 n).wf = true) (v : Value) (l : List Link) (hv : ReadL w 5 encLink v l) (okl : ∀ x ∈ l, okLink w x) (m : Int) (wm : (Lit.int .i64 m).wf = true) :
    Calls Try.prog 6 #[.int .i64 n, v, .int .i64 m] w fun x w' => x = .returned (.bool true) ∧ Below w.heap.size w w' := by
  have HV := Lib.hid hv
  have HWm : Hid (wfI m) := Lib.hid wm
  obtain ⟨a, cap, rfl, hcap, hmax⟩ := hv.slice
  clear hv okl wn wm
  unfold maxLen at hmax
  by_cases hx : (100 : Int) < l.length
  · have t1 : decide ((100 : Int) < (l.length : Int)) = true := decide_eq_true hx
    go_enter Try.func6, Try.ntmps6
    go_wp2_with fail
    refine (awake_any _).mono ?_
    rintro e w8 ⟨rfl, hb⟩
    have HB := Lib.hid hb
    clear hb
    go_wp2_with fail
    go_ret
    exact ⟨rfl, HB.out⟩
  have t1 : decide ((100 : Int) < (l.length : Int)) = false := decide_eq_false hx
  have HRp := Lib.hid (newF_rep (size := n) (l := l))
  have HCs := Lib.hid (fun h => rCost_self (size := n) (l := l) h m)
  clear hx
  go_enter Try.func6, Try.ntmps6
  go_wp2_with fail
  refine (New_any w n _ l HV.out).mono ?_
  rintro e w1 ⟨hb1, hr1⟩
  have HB := Lib.hid hb1
  have HV1 := Lib.hid (HV.out.below hb1 (Nat.le_refl _))
  have HN : Hid (∀ W : World, Below w1.heap.size w1 W → _) := Lib.hid (fun W hb => rNew_any W n _ l (HV1.out.below hb (Nat.le_refl _)))
  clear hb1 t1 HV
  rcases hr1 with ⟨h0, rfl⟩ | ⟨s, tb, eb, hb, cv, h0, rfl, hT⟩
  · have hF : rNewF n l = false := by rw [← HRp.out.1, h0]; rfl
    clear HRp HCs h0
    go_wp2_with fail
    refine (HN.out w1 (Below.refl _ _)).mono ?_
    rintro e w2 ⟨hb2, hr2⟩
    have HB2 := Lib.hid (HB.out.trans (hb2.mono HB.out.size))
    rw [hF] at hr2
    rcases hr2 with ⟨_, rfl⟩ | ⟨h, _⟩
    · clear hb2 HN HB hF
      go_wp2_with fail
      refine (awake_any _).mono ?_
      rintro e w8 ⟨rfl, hb⟩
      replace HB2 := Lib.hid (HB2.out.trans (hb.mono HB2.out.size))
      clear hb
      go_wp2_with fail
      go_ret
      exact ⟨rfl, HB2.out⟩
    · cases h
  · have hF : rNewF n l = true := by rw [← HRp.out.1, h0]; rfl
    have HRep := Lib.hid (HRp.out.2 s h0)
    have ho := HCs.out hF
    have hlen : l.length ≤ 64 := by
      have h1 := hF
      unfold rNewF badNew at h1
      simp at h1
      omega
    have HLen := Lib.hid hlen
    clear HRp HCs h0 hlen
    have HT1 := Lib.hid hT
    clear hT
    go_wp2_with fail
    refine (HN.out w1 (Below.refl _ _)).mono ?_
    rintro e w2 ⟨hb2, hr2⟩
    have HB2 := Lib.hid (HB.out.trans (hb2.mono HB.out.size))
    have HT2 := Lib.hid (HT1.out.below hb2 (Nat.le_refl _))
    rw [hF] at hr2
    rcases hr2 with ⟨h, _⟩ | ⟨_, rb, lv, rfl, hR⟩
    · cases h
    have HR2 := Lib.hid hR
    clear hb2 HN HB HT1 hR hF
    go_wp2_with fail
    refine (Home_any w2 _ tb eb hb cv s HT2.out m HWm.out).mono ?_
    rintro e w3 ⟨rfl, hb3⟩
    rw [homeF_rep HRep.out]
    have HB3 := Lib.hid (HB2.out.trans (hb3.mono HB2.out.size))
    have HT3 := Lib.hid (HT2.out.below hb3 (Nat.le_refl _))
    have HR3 := Lib.hid (HR2.out.below hb3 (Nat.le_refl _))
    clear hb3 HB2 HT2 HR2
    go_wp2_with fail
    refine (rHome_any w3 rb lv n l HR3.out HLen.out m HWm.out).mono ?_
    rintro e w4 ⟨rfl, hb4⟩
    have HB4 := Lib.hid (HB3.out.trans (hb4.mono HB3.out.size))
    have HT4 := Lib.hid (HT3.out.below hb4 (Nat.le_refl _))
    have HR4 := Lib.hid (HR3.out.below hb4 (Nat.le_refl _))
    clear hb4 HB3 HT3 HR3
    generalize rHomeF l m = hm at *
    go_wp2_with fail
    refine (Cost_any w4 _ tb eb hb cv s HT4.out m).mono ?_
    rintro e w5 ⟨rfl, hb5⟩
    rw [costF_rep HRep.out]
    have HB5 := Lib.hid (HB4.out.trans (hb5.mono HB4.out.size))
    have HR5 := Lib.hid (HR4.out.below hb5 (Nat.le_refl _))
    clear hb5 HB4 HT4 HR4
    go_wp2_with fail
    refine (rCost_any w5 rb lv n l HR5.out m).mono ?_
    rintro e w6 ⟨rfl, hb6⟩
    have HB6 := Lib.hid (HB5.out.trans (hb6.mono HB5.out.size))
    clear hb6 HB5 HR5
    generalize rCostF l m = cm at *
    go_wp2_with fail
    refine (awake_any _).mono ?_
    rintro e w8 ⟨rfl, hb⟩
    replace HB6 := Lib.hid (HB6.out.trans (hb.mono HB6.out.size))
    clear hb
    go_wp2_with fail
    go_ret
    exact ⟨rfl, HB6.out⟩
end Go.Proofs.Ytggcmhjeflofmaa
