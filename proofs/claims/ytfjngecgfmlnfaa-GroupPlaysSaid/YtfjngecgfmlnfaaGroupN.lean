/- The groups that one leads to. -/
import Derived.Test.YtfjngecgfmlnfaaGroupM
namespace Go.Proofs.Ytfjngecgfmlnfaa
open Go.RowKit
set_option linter.unusedVariables false
set_option linter.unusedSimpArgs false

def leadsA (l : List Action) : List Int := (l.filter fun a => decide (a.fKind = 2)).map Action.fValue
def leadsF (l : List Core) : List Int := l.flatMap fun c => leadsA c.2.2
theorem leadsA_snoc (l : List Action) (j : Nat) (hj : j < l.length) : leadsA (l.take (j + 1)) = leadsA (l.take j) ++ if l[j].fKind = 2 then [l[j].fValue] else [] := by
  unfold leadsA
  rw [List.take_succ_eq_append_getElem hj, List.filter_append, List.map_append]
  by_cases h : l[j].fKind = 2 <;> simp [h]
theorem leadsA_len (l : List Action) : (leadsA l).length ≤ l.length := by
  unfold leadsA
  rw [List.length_map]
  exact List.length_filter_le _ _
theorem leadsF_snoc (l : List Core) (k : Nat) (hk : k < l.length) : leadsF (l.take (k + 1)) = leadsF (l.take k) ++ leadsA l[k].2.2 := by
  unfold leadsF
  rw [List.take_succ_eq_append_getElem hk, List.flatMap_append]
  simp
/-- What is asked of a group for it. -/
def leadOk (l : List Core) : Prop := l.length ≤ 20 ∧ ∀ c ∈ l, c.2.2.length ≤ 20 ∧ ∀ a ∈ c.2.2, a.fKind = 2 → 0 ≤ a.fValue ∧ a.fValue ≤ 4294967295
theorem leadsF_len (l : List Core) (h : leadOk l) (k : Nat) : (leadsF (l.take k)).length ≤ k * 20 := by
  induction k with
  | zero => simp [leadsF]
  | succ k ih =>
    by_cases hk : k < l.length
    · rw [leadsF_snoc l k hk, List.length_append]
      have := leadsA_len l[k].2.2
      have := (h.2 _ (List.getElem_mem hk)).1
      omega
    · rw [List.take_of_length_le (by omega)]
      rw [List.take_of_length_le (by omega)] at ih
      omega
theorem KR.grown {B : Nat} {w W W' : World} {l : List (Nat × TypeId × Array Value)} (h : KR B w l W) {row : Option Nat} (hg : W.grownBy W' row) (hne : ∀ x ∈ l, some x.1 ≠ row) (hr : ∀ k, row = some k → B ≤ k) : KR B w l W' :=
  ⟨fun x hx => (hg.block _ (h.1 x hx).lt (hne x hx)).trans (h.1 x hx), h.2.1.grown hg h.2.2 (fun k hk => hr k hk), Nat.le_trans h.2.2 hg.size⟩
theorem intInfo : (Try.prog.info? 3).map (fun i => (i.zero, i.size, i.bytes)) = some (some (.int .i64 0), 1, 8) := by kernel_rfl

set_option maxRecDepth 100000 in
set_option maxHeartbeats 8000000 in
theorem leads_any (w : World) (g : Group) (h : okGroup w g) (hl : leadOk (g.fBuckets.map coreB)) :
    Calls Try.prog 43 #[valGroup g] w fun e w' => ∃ v B, w.heap.size ≤ B ∧ e = .returned v ∧ OwnL w' B 3 1 encI v (leadsF (g.fBuckets.map coreB)) ∧ Below w.heap.size w w' := by
  obtain ⟨gi, gk, gv, bs⟩ := g
  obtain ⟨_, _, ⟨hR, hB⟩, _⟩ := h
  simp only at *
  have HOk := Lib.hid hB
  have HL := Lib.hid hl
  have hlen : bs.length ≤ 20 := by have := hl.1; simpa using this
  obtain ⟨a, cap, hgv, hcap, hmax, hc⟩ := hR
  subst hgv
  unfold maxLen at hmax
  have HC := Lib.hid hc
  have HSn := Lib.hid (fun k (hk : k < bs.length) => (by
    have := leadsF_snoc (bs.map coreB) k (by simpa using hk)
    rwa [List.getElem_map] at this : leadsF ((bs.map coreB).take (k + 1)) = leadsF ((bs.map coreB).take k) ++ leadsA bs[k].fActions))
  clear hc hB hl
  go_enter Try.func43, Try.ntmps43
  go_upto_region 1 with fail
  refine one_box_wp ?_
  intro W hb1 hbel hsz
  have K : Hid (KR w.heap.size w [(w.heap.size, 24, #[.int .i64 gi, .int .i64 gk, .slice a bs.length cap])] W) := Lib.hid ((KR.start hbel hbel.size).add hb1)
  obtain ⟨B, hB⟩ : ∃ B, B = W.heap.size := ⟨_, rfl⟩
  have HBs : Hid (w.heap.size + 1 ≤ B) := Lib.hid (by rw [hB]; exact hsz.out)
  have HBW : Hid (B ≤ W.heap.size) := Lib.hid (by rw [hB]; exact Nat.le_refl _)
  clear hb1 hbel hsz hB
  have c2 := (K.out.at 0 rfl).cell 2 _ rfl
  go_wp2_with fail
  clear c2
  go_loopw [3, 11] (fun ov iv wr => ∃ k : Nat, k ≤ bs.length ∧ iv = .int .i64 k ∧ Hid (KR w.heap.size w [(w.heap.size, 24, #[.int .i64 gi, .int .i64 gk, .slice a bs.length cap])] wr) ∧ Hid (B ≤ wr.heap.size) ∧ Hid (OwnL wr B 3 1 encI ov (leadsF ((bs.map coreB).take k)))) (fun _ iv _ => bs.length - (intOf iv).toNat)
  case atStart => exact ⟨0, Nat.zero_le _, rfl, K, HBW, Lib.hid (OwnL.nil _ _ _ _ _)⟩
  case round =>
    obtain ⟨k, hk, rfl, K, HBW, Hown⟩ := hrel
    by_cases hlt : k < bs.length
    · have d2 : decide (k < bs.length) = true := by simpa using hlt
      rcases HC.out with hnil | ⟨b, off, rfl, hblt, hcell⟩
      · rw [hnil] at hlt; simp at hlt
      have r1 := range_of hcell K.out.below hblt k hlt
      have hok := HOk.out _ (List.getElem_mem hlt)
      have hx1 : oneB bs[k] := encBucket_ok hok
      obtain ⟨xa, xc, hxv, hxc, hxm⟩ := okBucket_slice hok
      have hlx := HL.out.2 (coreB bs[k]) (List.mem_map_of_mem (List.getElem_mem hlt))
      have hl1 := leadsF_len _ HL.out k
      have hSn := HSn.out k hlt
      have hacts := hok.2.2.1.1
      clear hcell HC HSn HL hok HOk
      generalize bs[k] = x at *
      obtain ⟨x1, x2, x3, acts⟩ := x
      simp only [coreB] at hlx hSn hxv hxc hacts hx1 r1
      subst hxv
      have HSn := Lib.hid hSn
      have HLx := Lib.hid hlx.2
      have hla : acts.length ≤ 20 := hlx.1
      have hx2 : ∀ v ∈ #[Value.int .i64 x1, Value.int .i64 x2, .slice xa acts.length xc].toList, v.oneCell' = true := by simpa [encBucket, oneB] using hx1
      simp only [encBucket] at r1
      generalize leadsF ((bs.map coreB).take k) = L0 at *
      unfold maxLen at hxm
      obtain ⟨_, _, hsl, _, _, hac⟩ := hacts
      obtain ⟨rfl, rfl⟩ := (by simpa using hsl : xa = _ ∧ xc = _)
      have HAc := Lib.hid hac
      clear hlx hSn hx1 hac hsl
      go_wp2_with (first
        | (refine wpList_load_mid rfl 30 _ rfl _ _ rfl _ _ r1 Try.underlying30 rfl (by kernel_rfl) ?_)
        | (refine wpList_store_row rfl 30 _ _ rfl _ rfl #[.int .i64 x1, .int .i64 x2, .slice xa acts.length xc] rfl _ _ ((K.out.box _ _).at 0 rfl) rfl (by kernel_rfl) hx2 ?_)
        | fail)
      intro Wi hbi hbari
      have HBW2 : Hid (B ≤ Wi.heap.size) := Lib.hid (Nat.le_trans HBW.out (Nat.le_trans (by simp) hbari.size))
      replace Hown := Lib.hid ((Hown.out.alloc _).bar hbari (fun k' hk' => by have := (Hown.out.block k' hk').2; omega))
      replace K := Lib.hid (K.out.into hbari hbi)
      clear hbi hbari r1 hx2
      have c2 := (K.out.at 0 rfl).cell 2 _ rfl
      replace K := Lib.hid (K.out.sub (l' := [(w.heap.size, 24, #[.int .i64 gi, .int .i64 gk, .slice (some ⟨b, off, none⟩) bs.length cap])]) (by simp))
      go_wp2_with fail
      clear c2
      generalize hwr : wr.heap.size = g1 at *
      clear hwr
      obtain ⟨wo, rfl⟩ : ∃ wo : World, wo = wr := ⟨_, rfl⟩
      have hl2 : L0.length ≤ 400 := by omega
      go_loopw [3, 18] (fun ov iv wr => ∃ j : Nat, j ≤ acts.length ∧ iv = .int .i64 j ∧ Hid (KR w.heap.size w [(w.heap.size, 24, #[.int .i64 gi, .int .i64 gk, .slice (some ⟨b, off, none⟩) bs.length cap])] wr) ∧ Hid (B ≤ wr.heap.size) ∧ Hid (OwnL wr B 3 1 encI ov (L0 ++ leadsA (acts.take j)))) (fun _ iv _ => acts.length - (intOf iv).toNat)
      case atStart => exact ⟨0, Nat.zero_le _, rfl, K, HBW2, Lib.hid (by simpa [leadsA] using Hown.out)⟩
      case round =>
        obtain ⟨j, hj, rfl, K, HBW, Hown⟩ := hrel
        by_cases hjt : j < acts.length
        · have d3 : decide (j < acts.length) = true := by simpa using hjt
          rcases HAc.out with hnil | ⟨ab, aoff, rfl, hablt, hacell⟩
          · rw [hnil] at hjt; simp at hjt
          have r1 := range_of hacell K.out.below hablt j hjt
          have hy := HLx.out _ (List.getElem_mem hjt)
          have HLn := Lib.hid (leadsA_len (acts.take j))
          have HSnA := Lib.hid (leadsA_snoc acts j hjt)
          have HY := Lib.hid hy
          clear hacell HAc HLx hy
          generalize acts[j] = y at *
          obtain ⟨y1, y2, y3⟩ := y
          simp only [encAction] at r1
          simp only at HSnA HY
          have hlj : (leadsA (acts.take j)).length ≤ 20 := Nat.le_trans HLn.out (Nat.le_trans (List.length_take_le _ _) (by omega))
          generalize leadsA (acts.take j) = L1 at *
          go_wp2_with (first
            | (refine wpList_load_mid rfl 58 _ rfl _ _ rfl _ _ r1 Try.underlying58 rfl (by kernel_rfl) ?_)
            | (refine wpList_store_row rfl 58 _ _ rfl _ rfl #[.int .i64 y1, .int .i64 y2, .int .u64 y3] rfl _ _ ((K.out.box _ _).at 0 rfl) rfl (by kernel_rfl) (by simp [Value.oneCell']) ?_)
            | fail)
          intro Wi hbi hbari
          have HBW2 : Hid (B ≤ Wi.heap.size) := Lib.hid (Nat.le_trans HBW.out (Nat.le_trans (by simp) hbari.size))
          replace Hown := Lib.hid ((Hown.out.alloc _).bar hbari (fun k' hk' => by have := (Hown.out.block k' hk').2; omega))
          replace K := Lib.hid (K.out.into hbari hbi)
          have c0 := hbi.cell 0 _ rfl
          have c2 := hbi.cell 2 _ rfl
          replace K := Lib.hid (K.out.sub (l' := [(w.heap.size, 24, #[.int .i64 gi, .int .i64 gk, .slice (some ⟨b, off, none⟩) bs.length cap])]) (by simp))
          clear hbi hbari r1
          by_cases h2 : y1 = 2
          · subst h2
            obtain ⟨hv0, hv1⟩ := HY.out rfl
            rw [if_pos rfl] at HSnA
            go_wp2_with (at_builtin; go_must (refine app_one Hown.out y3 Try.underlying72 intInfo rfl (by decide) encI_len encI_one rfl rfl rfl rfl ?c1 ?c2 ?c3 ?_))
            case c1 => omega
            case c2 => omega
            case c3 => exact HBW2.out
            intro v' w6 hown1 hgrow _
            have HBW6 := Lib.hid (Nat.le_trans HBW2.out hgrow.size)
            replace K := Lib.hid (K.out.grown hgrow (fun x hx hr => by
              have := (Hown.out.block x.1 hr.symm).1
              have := HBs.out
              obtain rfl := List.mem_singleton.1 hx
              simp only at this; omega) (fun k' hk' => by have := (Hown.out.block k' hk').1; have := HBs.out; omega))
            have HOwn1 : Hid (OwnL w6 B 3 1 encI v' (L0 ++ leadsA (acts.take (j + 1)))) := Lib.hid (by rw [HSnA.out]; simpa [List.append_assoc] using hown1)
            clear hown1 hgrow Hown HBW2 c0 c2
            go_wp2_with fail
            go_roundw
            case rel => exact ⟨j + 1, by omega, by go_num, K, HBW6, HOwn1⟩
            case measure => simp [intOf]; omega
          · have t2 : (y1 == 2) = false := by simpa using h2
            rw [if_neg h2, List.append_nil] at HSnA
            have HOwn1 : Hid (OwnL Wi B 3 1 encI u3 (L0 ++ leadsA (acts.take (j + 1)))) := Lib.hid (by rw [HSnA.out]; exact Hown.out)
            clear Hown h2
            go_wp2_with fail
            go_roundw
            case rel => exact ⟨j + 1, by omega, by go_num, K, HBW2, HOwn1⟩
            case measure => simp [intOf]; omega
        · have d3 : decide (j < acts.length) = false := by simpa using hjt
          rw [List.take_of_length_le (by omega)] at Hown
          have HOwn1 : Hid (OwnL wr B 3 1 encI u3 (leadsF ((bs.map coreB).take (k + 1)))) := Lib.hid (by rw [HSn.out]; exact Hown.out)
          clear Hown
          go_wp2_with fail
          go_roundw
          case rel => exact ⟨k + 1, by omega, by go_num, K, HBW, HOwn1⟩
          case measure => simp [intOf]; omega
    · have d2 : decide (k < bs.length) = false := by simpa using hlt
      rw [List.take_of_length_le (by simp; omega)] at Hown
      go_wp2_with fail
      go_ret
      exact ⟨_, B, by have := HBs.out; omega, rfl, Hown.out, K.out.below⟩
end Go.Proofs.Ytfjngecgfmlnfaa
