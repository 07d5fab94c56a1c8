/- Plain: actions and parts that are encoded are decoded. Plain: an entry that is encoded is decoded. Plain: what is decoded is encoded again. -/
import Derived.Test.YtdjhbahiiabimaaInsH
namespace Go.Proofs.Ytdjhbahiiabimaa
section
open Go.RowKit
set_option linter.unusedVariables false
set_option linter.unusedSimpArgs false

theorem n2 (x y : List UInt8) (hx : x.length = 2) : numR 2 (str (x ++ y), 0) = numN x ∧ numS 2 (str (x ++ y), 0) = (str y, 0) := numR_ok x y 2 (by decide) hx
theorem n1 (x y : List UInt8) (hx : x.length = 1) : numR 1 (str (x ++ y), 0) = numN x ∧ numS 1 (str (x ++ y), 0) = (str y, 0) := numR_ok x y 1 (by decide) hx
theorem n4 (x y : List UInt8) (hx : x.length = 4) : numR 4 (str (x ++ y), 0) = numN x ∧ numS 4 (str (x ++ y), 0) = (str y, 0) := numR_ok x y 4 (by decide) hx
theorem n8 (x y : List UInt8) (hx : x.length = 8) : numR 8 (str (x ++ y), 0) = numN x ∧ numS 8 (str (x ++ y), 0) = (str y, 0) := numR_ok x y 8 (by decide) hx
theorem b4 (x y : List UInt8) (hx : x.length = 4) : bytS 4 (str (x ++ y), 0) = (str y, 0) := bytS_ok x y 4 hx
theorem numN_beI (k : Nat) (v : Int) (h0 : 0 ≤ v) (h1 : v < ((256 ^ k : Nat) : Int)) : (numN (beL k v.toNat) : Int) = v := by
  rw [numN_be, Nat.mod_eq_of_lt (by omega)]
  omega
theorem seemsA_laid (a : Action) (hr : rightX a = true) (h0 : okV a) : seemsA (str (laidX a)) = a := by
  obtain ⟨k, f, v⟩ := a
  have hv0 : 0 ≤ v := h0.1
  rcases rightA_cases hr with ⟨rfl, rfl, h1, h2⟩ | ⟨rfl, rfl, h1, h2⟩ | ⟨rfl, rfl, rfl⟩ | ⟨rfl, rfl, rfl⟩ | ⟨rfl, hf⟩
  · have h2' : v ≤ 4294967295 := h2
    have e : laidX ⟨1, 0, v⟩ = [0, 0] ++ ([0, 16] ++ (beL 4 v.toNat ++ [255, 255, 0, 0, 0, 0, 0, 0])) := rfl
    unfold seemsA
    rw [e, (n2 _ _ rfl).1, (n2 _ _ rfl).2, (n2 _ _ rfl).2, (n4 _ _ (beL_length _ _)).1, numN_beI 4 v hv0 (by simp; omega)]
    rw [if_pos (by decide)]
  · have h2' : v ≤ 4294967295 := h2
    have e : laidX ⟨2, 0, v⟩ = [0, 22] ++ ([0, 8] ++ (beL 4 v.toNat ++ [])) := by show [0, 22, 0, 8] ++ beL 4 v.toNat = _; simp
    unfold seemsA
    rw [e, (n2 _ _ rfl).1, (n2 _ _ rfl).2, (n2 _ _ rfl).2, (n4 _ _ (beL_length _ _)).1, numN_beI 4 v hv0 (by simp; omega)]
    rw [if_neg (by decide), if_pos (by decide)]
  · have : seemsA (str [0, 17, 0, 8, 129, 0, 0, 0]) = ⟨3, 0, 0⟩ := by kernel_rfl
    exact this
  · have : seemsA (str [0, 18, 0, 8, 0, 0, 0, 0]) = ⟨4, 0, 0⟩ := by kernel_rfl
    exact this
  · have main : ∀ (c n : Nat) (zs : List UInt8), laidX ⟨5, f, v⟩ = [0, 25] ++ ([0, 16] ++ ([128, 0] ++ (beL 1 c ++ (beL 1 n ++ (beL n v.toNat ++ zs))))) → c < 256 → namedA (c : Int) = f → (codeF f).2 = (n : Int) → 1 ≤ n ∧ n ≤ 8 → v < ((256 ^ n : Nat) : Int) → seemsA (str (laidX ⟨5, f, v⟩)) = ⟨5, f, v⟩ := by
      intro c n zs e hc hn hcf h18 hv
      have hx : max (codeF f).2 1 = (n : Int) := by rw [hcf]; omega
      unfold seemsA
      rw [e, (n2 _ _ rfl).1, (n2 _ _ rfl).2, (n2 _ _ rfl).2, (n2 _ _ rfl).2, (n1 _ _ (beL_length _ _)).1, (n1 _ _ (beL_length _ _)).2, (n1 _ _ (beL_length _ _)).2]
      have h1 : ((numN (beL 1 c) : Nat) : Int) = c := by rw [numN_be, Nat.mod_eq_of_lt (by simpa using hc)]
      rw [h1, hn, hx, (numR_ok _ _ n h18 (beL_length _ _)).1, numN_beI n v hv0 hv, if_neg (by decide), if_neg (by decide), if_neg (by decide), if_neg (by decide), if_pos (by decide)]
    rcases hf with ⟨rfl, h1, h2⟩ | ⟨rfl | rfl, h1⟩ | ⟨rfl | rfl, h1⟩ <;> simp only at h1 <;> (try simp only at h2)
    · exact main 12 2 [0, 0, 0, 0, 0, 0] (by rfl) (by decide) (by decide) (by decide) (by decide) (by simp; omega)
    · exact main 22 4 [0, 0, 0, 0] (by rfl) (by decide) (by decide) (by decide) (by decide) (by simp; omega)
    · exact main 24 4 [0, 0, 0, 0] (by rfl) (by decide) (by decide) (by decide) (by decide) (by simp; omega)
    · exact main 26 2 [0, 0, 0, 0, 0, 0] (by rfl) (by decide) (by decide) (by decide) (by decide) (by simp; omega)
    · exact main 28 2 [0, 0, 0, 0, 0, 0] (by rfl) (by decide) (by decide) (by decide) (by decide) (by simp; omega)
/-- The head of an action's bytes. -/
theorem laidX_head (a : Action) (hr : rightX a = true) : ∃ (x0 x1 x3 : UInt8) (t : List UInt8), laidX a = x0 :: x1 :: 0 :: x3 :: t ∧ x3.toNat = (laidX a).length ∧ 8 ≤ (laidX a).length := by
  obtain ⟨k, f, v⟩ := a
  rcases rightA_cases hr with ⟨rfl, rfl, h1, h2⟩ | ⟨rfl, rfl, h1, h2⟩ | ⟨rfl, rfl, rfl⟩ | ⟨rfl, rfl, rfl⟩ | ⟨rfl, hf⟩
  · exact ⟨0, 0, 16, beL 4 v.toNat ++ [255, 255, 0, 0, 0, 0, 0, 0], rfl, by show 16 = ([0, 0, 0, 16] ++ (beL 4 v.toNat ++ [255, 255, 0, 0, 0, 0, 0, 0])).length; simp [beL_length], by show 8 ≤ ([0, 0, 0, 16] ++ (beL 4 v.toNat ++ [255, 255, 0, 0, 0, 0, 0, 0])).length; simp [beL_length]⟩
  · exact ⟨0, 22, 8, beL 4 v.toNat, rfl, by show 8 = ([0, 22, 0, 8] ++ beL 4 v.toNat).length; simp [beL_length], by show 8 ≤ ([0, 22, 0, 8] ++ beL 4 v.toNat).length; simp [beL_length]⟩
  · exact ⟨0, 17, 8, [129, 0, 0, 0], rfl, rfl, by decide⟩
  · exact ⟨0, 18, 8, [0, 0, 0, 0], rfl, rfl, by decide⟩
  · have main : ∀ (c n : Nat) (zs : List UInt8), laidX ⟨5, f, v⟩ = 0 :: 25 :: 0 :: 16 :: ([128, 0] ++ (beL 1 c ++ (beL 1 n ++ (beL n v.toNat ++ zs)))) → n + zs.length = 8 → ∃ (x0 x1 x3 : UInt8) (t : List UInt8), laidX ⟨5, f, v⟩ = x0 :: x1 :: 0 :: x3 :: t ∧ x3.toNat = (laidX ⟨5, f, v⟩).length ∧ 8 ≤ (laidX ⟨5, f, v⟩).length := by
      intro c n zs e hn
      refine ⟨0, 25, 16, _, e, ?_, ?_⟩
      · rw [e]; simp [beL_length]; omega
      · rw [e]; simp [beL_length]; omega
    rcases hf with ⟨rfl, h1, h2⟩ | ⟨rfl | rfl, h1⟩ | ⟨rfl | rfl, h1⟩
    · exact main 12 2 [0, 0, 0, 0, 0, 0] rfl rfl
    · exact main 22 4 [0, 0, 0, 0] rfl rfl
    · exact main 24 4 [0, 0, 0, 0] rfl rfl
    · exact main 26 2 [0, 0, 0, 0, 0, 0] rfl rfl
    · exact main 28 2 [0, 0, 0, 0, 0, 0] rfl rfl
theorem lenD_head (x0 x1 x2 x3 : UInt8) (t : List UInt8) : lenD (str (x0 :: x1 :: x2 :: x3 :: t)) = x2.toNat * 256 + x3.toNat := rfl
theorem kindD_head (x0 x1 x2 x3 : UInt8) (t : List UInt8) : kindD (str (x0 :: x1 :: x2 :: x3 :: t)) = x0.toNat * 256 + x1.toNat := rfl
theorem chunk_app (X R : List UInt8) (h : lenD (str (X ++ R)) = X.length) : chunkA (str (X ++ R)) = str X ∧ (str (X ++ R)).extract (lenD (str (X ++ R))) (str (X ++ R)).size = str R := by
  unfold chunkA
  rw [h, str_extract, str_extract, str_size]
  simp
theorem decAs_enc : ∀ (l : List Action) (f : Nat) (acc : List Action), (∀ a ∈ l, rightX a = true ∧ okV a) → acc.length + l.length ≤ 32 → (encAs l).length < f → decAs f (str (encAs l)) acc = (acc ++ l, 0)
  | [], f, acc, _, _, hf => by
    cases f with
    | zero => simp at hf
    | succ f => unfold decAs; rw [if_pos (by rw [str_size]; rfl)]; simp
  | a :: l, f, acc, h, hl, hf => by
    cases f with
    | zero => simp at hf
    | succ f =>
      obtain ⟨hr, hv⟩ := h a (List.mem_cons_self ..)
      have e : encAs (a :: l) = laidX a ++ encAs l := by unfold encAs; rw [List.flatMap_cons]
      obtain ⟨x0, x1, x3, t, hx, h3, h8⟩ := laidX_head a hr
      have hlen : lenD (str (laidX a ++ encAs l)) = (laidX a).length := by
        rw [← h3, hx]
        show (0 : UInt8).toNat * 256 + x3.toNat = x3.toNat
        simp
      have hch := chunk_app _ _ hlen
      rw [e] at hf ⊢
      rw [List.length_append] at hf
      have hs : (str (laidX a ++ encAs l)).size = (laidX a).length + (encAs l).length := by rw [str_size, List.length_append]
      have hg : goodA (str (laidX a ++ encAs l)) = true := by
        unfold goodA
        rw [hch.1, seemsA_laid a hr hv, hr]
        simp
      rw [List.length_cons] at hl
      unfold decAs
      rw [if_neg (by omega), if_neg (by omega), if_neg (by omega), if_neg (by omega), if_neg (by rw [hg]; simp), if_neg (by omega), hch.2, hch.1, seemsA_laid a hr hv]
      rw [decAs_enc l f _ (fun x hx => h x (List.mem_cons_of_mem _ hx)) (by simp; omega) (by omega)]
      simp
theorem partB_eq (k : Nat) (b : List UInt8) : partB k b = beL 2 k ++ (beL 2 (4 + b.length) ++ b) := rfl
theorem restP_part (k : Nat) (b : List UInt8) : restP (str (partB k ([0, 0, 0, 0] ++ b))) = str b := by
  unfold restP
  have e : partB k ([0, 0, 0, 0] ++ b) = (beL 2 k ++ beL 2 (4 + ([0, 0, 0, 0] ++ b).length)) ++ ([0, 0, 0, 0] ++ b) := by rw [partB_eq, List.append_assoc]
  rw [e, b4 _ _ (by simp [beL_length]), b4 _ _ rfl]
  show bytR (leftR (str b) 0) (str b, 0) = str b
  unfold bytR leftR
  rw [if_pos rfl, str_size]
  have := takeR_ok b b.length (Nat.le_refl _)
  have hd : decide (0 ≤ (b.length : Int)) = true := by simp
  rw [hd]
  simp only [this, List.take_length]
theorem actsP_part (k : Nat) (l : List Action) (hE : (actEnc l).2 = 0) (hok : ∀ a ∈ l, okV a) : actsP (str (partB k ([0, 0, 0, 0] ++ (actEnc l).1))) = (l, 0) := by
  unfold actsP
  rw [restP_part]
  cases h : l.any (fun a => !rightX a)
  case true => rw [actEnc_bad h] at hE; cases hE
  by_cases h2 : (32 : Int) < l.length
  · rw [actEnc_big h h2] at hE; cases hE
  · rw [actEnc_ok h h2]
    simp only
    refine decAs_enc l _ [] (fun a ha => ⟨?_, hok a ha⟩) (by simp; omega) (by rw [str_size]; omega)
    have := List.any_eq_false.1 h a ha
    simpa using this
/-- A part's bytes: what they say, and how they begin. -/
structure IsPart (k : Nat) (X : List UInt8) (q : Part) : Prop where
  low : k < 256
  len : 8 ≤ X.length ∧ X.length < 65536
  head : ∃ b, X = beL 2 k ++ (beL 2 X.length ++ b)
  says : seemsP k (str X) = q
  raw : rawF k q = X
theorem be2 (n : Nat) (h : n < 65536) : ∃ x0 x1 : UInt8, beL 2 n = [x0, x1] ∧ x0.toNat * 256 + x1.toNat = n := by
  have h1 := beL_length 2 n
  have h2 := numN_be 2 n
  match hb : beL 2 n, h1 with
  | [x0, x1], _ =>
    refine ⟨x0, x1, rfl, ?_⟩
    rw [hb, Nat.mod_eq_of_lt (by simpa using h)] at h2
    rw [← h2]
    simp [numN]
theorem decI_part {tb : Int} {f k : Nat} {X R : List UInt8} {p q : Part} {b : Int} (h : IsPart k X q) (hp : b < placeF k) :
    decI tb (f + 1) (str (X ++ R)) p b = decI tb f (str R) (joinP p q) (placeF k) := by
  obtain ⟨hk, hl, ⟨B, hB⟩, hs, hr⟩ := h
  obtain ⟨y0, y1, hy, hyn⟩ := be2 k (by omega)
  obtain ⟨z0, z1, hz, hzn⟩ := be2 X.length hl.2
  have hX : X = y0 :: y1 :: z0 :: z1 :: B := by
    have e := hB
    rw [hy, hz] at e
    exact e
  have hlen : lenD (str (X ++ R)) = X.length := by
    rw [← hzn]
    conv => lhs; rw [hX]
    rfl
  have hkd : kindD (str (X ++ R)) = k := by
    rw [← hyn]
    conv => lhs; rw [hX]
    rfl
  have hch := chunk_app _ _ hlen
  have hsz : (str (X ++ R)).size = X.length + R.length := by rw [str_size, List.length_append]
  conv => lhs; unfold decI
  rw [if_neg (by omega), if_neg (by omega), if_neg (by omega), if_neg (by omega), hch.1, hch.2, hkd, hs, hr, if_neg (by simp), if_neg (by omega)]
theorem or_u64_zero (a : Int) (h0 : 0 ≤ a) (h1 : a ≤ 18446744073709551615) : Go.bits .or .u64 0 a = a := by
  show IntKind.u64.wrap ((BitVec.ofInt 64 0 ||| BitVec.ofInt 64 a).toNat : Int) = a
  have e : (BitVec.ofInt 64 0 ||| BitVec.ofInt 64 a) = BitVec.ofInt 64 a := by simp
  rw [e, BitVec.toNat_ofInt]
  simp [IntKind.wrap, IntKind.bits, IntKind.signed]
  omega
theorem or_u64_zero' (a : Int) (h0 : 0 ≤ a) (h1 : a ≤ 18446744073709551615) : Go.bits .or .u64 a 0 = a := by
  show IntKind.u64.wrap ((BitVec.ofInt 64 a ||| BitVec.ofInt 64 0).toNat : Int) = a
  have e : (BitVec.ofInt 64 a ||| BitVec.ofInt 64 0) = BitVec.ofInt 64 a := by simp
  rw [e, BitVec.toNat_ofInt]
  simp [IntKind.wrap, IntKind.bits, IntKind.signed]
  omega
end
section
open Go.RowKit
set_option linter.unusedVariables false
set_option linter.unusedSimpArgs false

theorem isM {mt : Int} (h : mt ≠ 0) (h0 : 0 ≤ mt) (h1 : mt ≤ 16) : IsPart 6 (encM mt) { noPart with mt := mt } := by
  have e : encM mt = partB 6 (beL 4 mt.toNat) := by unfold encM; rw [if_neg h]
  have el : (encM mt).length = 8 := by rw [e, partB_len, beL_length]
  refine ⟨by decide, by omega, ⟨beL 4 mt.toNat, ?_⟩, ?_, rfl⟩
  · rw [el, e]; show _ = _; rw [partB_eq, beL_length]
  · have e2 : encM mt = (beL 2 6 ++ beL 2 8) ++ (beL 4 mt.toNat ++ []) := by rw [e, partB_eq, beL_length]; simp
    show seemsP 6 _ = _
    unfold seemsP
    rw [if_pos rfl, e2, b4 _ _ rfl, (n4 _ _ (beL_length _ _)).1, numN_beI 4 mt h0 (by simp; omega)]
theorem isCl : IsPart 5 (encCl true) { noPart with cl := true } :=
  ⟨by decide, by decide, ⟨[0, 0, 0, 0], rfl⟩, rfl, rfl⟩
theorem isMe {me mk : Int} (h : mk ≠ 0) (h0 : 0 ≤ me) (h1 : me ≤ 18446744073709551615) (k0 : 0 ≤ mk) (k1 : mk ≤ 18446744073709551615) : IsPart 2 (encMe me mk) { noPart with me := me, ma := mk } := by
  have e : encMe me mk = partB 2 ([0, 0, 0, 0] ++ (beL 8 me.toNat ++ beL 8 mk.toNat)) := by unfold encMe; rw [if_neg h]
  have el : (encMe me mk).length = 24 := by rw [e, partB_len]; simp [beL_length]
  refine ⟨by decide, by omega, ⟨[0, 0, 0, 0] ++ (beL 8 me.toNat ++ beL 8 mk.toNat), ?_⟩, ?_, rfl⟩
  · rw [el, e]
    rw [partB_eq]
    have : 4 + ([0, 0, 0, 0] ++ (beL 8 me.toNat ++ beL 8 mk.toNat)).length = 24 := by simp [beL_length]
    rw [this]
  · have e2 : encMe me mk = (beL 2 2 ++ beL 2 24) ++ ([0, 0, 0, 0] ++ (beL 8 me.toNat ++ (beL 8 mk.toNat ++ []))) := by
      rw [e, partB_eq]
      have : 4 + ([0, 0, 0, 0] ++ (beL 8 me.toNat ++ beL 8 mk.toNat)).length = 24 := by simp [beL_length]
      rw [this]; simp
    show seemsP 2 _ = _
    unfold seemsP
    rw [if_neg (by decide), if_neg (by decide), if_neg (by decide), if_neg (by decide), if_pos rfl, e2, b4 _ _ rfl, b4 _ _ rfl, (n8 _ _ (beL_length _ _)).1, (n8 _ _ (beL_length _ _)).2, (n8 _ _ (beL_length _ _)).1,
      numN_beI 8 me h0 (by simp; omega), numN_beI 8 mk k0 (by simp; omega)]
theorem isG {gt : Int} (h : gt ≠ 0) (h0 : 0 ≤ gt) (h1 : gt ≤ 7) : IsPart 1 (encG gt) { noPart with gt := gt } := by
  have e : encG gt = partB 1 (beL 1 gt.toNat ++ [0, 0, 0]) := by unfold encG; rw [if_neg h]
  have e8 : 4 + (beL 1 gt.toNat ++ [0, 0, 0]).length = 8 := by simp [beL_length]
  have el : (encG gt).length = 8 := by rw [e, partB_len]; exact e8
  refine ⟨by decide, by omega, ⟨beL 1 gt.toNat ++ [0, 0, 0], ?_⟩, ?_, rfl⟩
  · rw [el, e, partB_eq, e8]
  · have e2 : encG gt = (beL 2 1 ++ beL 2 8) ++ (beL 1 gt.toNat ++ [0, 0, 0]) := by rw [e, partB_eq, e8]; simp
    show seemsP 1 _ = _
    unfold seemsP
    rw [if_neg (by decide), if_neg (by decide), if_neg (by decide), if_neg (by decide), if_neg (by decide), if_pos rfl, e2, b4 _ _ rfl, (n1 _ _ (beL_length _ _)).1, numN_beI 1 gt h0 (by simp; omega)]
theorem isL {k : Nat} {l : List Action} (hl : l ≠ []) (hE : (actEnc l).2 = 0) (hok : ∀ a ∈ l, okV a) (hk : k < 256) {q : Part}
    (hs : ∀ s, actsP s = (l, 0) → seemsP k s = q) (hr : rawF k q = listB k l) : IsPart k (listB k l) q := by
  have e : listB k l = partB k ([0, 0, 0, 0] ++ (actEnc l).1) := by unfold listB; rw [if_neg hl]
  have hn := actEnc_len l
  have el : (listB k l).length = 8 + (actEnc l).1.length := by rw [e, partB_len]; simp; omega
  refine ⟨hk, by omega, ⟨[0, 0, 0, 0] ++ (actEnc l).1, ?_⟩, ?_, hr⟩
  · rw [el, e, partB_eq]
    have : 4 + ([0, 0, 0, 0] ++ (actEnc l).1).length = 8 + (actEnc l).1.length := by simp; omega
    rw [this]
  · rw [e]
    exact hs _ (actsP_part k l hE hok)
theorem isA {l : List Action} (hl : l ≠ []) (hE : (actEnc l).2 = 0) (hok : ∀ a ∈ l, okV a) : IsPart 4 (listB 4 l) { noPart with pA := l } :=
  isL hl hE hok (by decide) (fun s h => by show seemsP 4 _ = _; unfold seemsP; rw [if_neg (by decide), if_neg (by decide), if_pos rfl, h]; rfl) rfl
theorem isW {l : List Action} (hl : l ≠ []) (hE : (actEnc l).2 = 0) (hok : ∀ a ∈ l, okV a) : IsPart 3 (listB 3 l) { noPart with pW := l } :=
  isL hl hE hok (by decide) (fun s h => by show seemsP 3 _ = _; unfold seemsP; rw [if_neg (by decide), if_neg (by decide), if_neg (by decide), if_pos rfl, h]; rfl) rfl
theorem decI_opt {tb : Int} {f k : Nat} {X R : List UInt8} {p q p' : Part} {b : Int} (hj : joinP p q = p') (h : (X = [] ∧ p' = p) ∨ IsPart k X q) (hp : b < placeF k) (hf : (X ++ R).length < f) :
    ∃ (f' : Nat) (b' : Int), R.length < f' ∧ b' ≤ placeF k ∧ decI tb f (str (X ++ R)) p b = decI tb f' (str R) p' b' := by
  rcases h with ⟨rfl, rfl⟩ | h
  · exact ⟨f, b, by simpa using hf, by omega, rfl⟩
  · obtain ⟨f0, rfl⟩ : ∃ n, f = n + 1 := ⟨f - 1, by omega⟩
    refine ⟨f0, placeF k, ?_, Int.le_refl _, ?_⟩
    · have := h.len; rw [List.length_append] at hf; omega
    · rw [decI_part h hp, hj]
theorem andNot_zero {a : Int} (h0 : 0 ≤ a) (h1 : a ≤ 18446744073709551615) (h : Go.bits .andNot .u64 a 0 = 0) : a = 0 := by
  have e : Go.bits .andNot .u64 a 0 = a := by
    show IntKind.u64.wrap ((BitVec.ofInt 64 a &&& ~~~ BitVec.ofInt 64 0).toNat : Int) = a
    have e : (BitVec.ofInt 64 a &&& ~~~ BitVec.ofInt 64 0) = BitVec.ofInt 64 a := by
      rw [show ~~~ BitVec.ofInt 64 0 = BitVec.allOnes 64 from by decide]
      exact BitVec.and_allOnes
    rw [e, BitVec.toNat_ofInt]
    simp [IntKind.wrap, IntKind.bits, IntKind.signed]
    omega
  rw [e] at h
  exact h
def partOf (x : Entry) : Part := ⟨x.fApply, x.fWrite, x.fClear, x.fMeta, x.fMetaMask, x.fMeter, x.fGoto⟩
theorem decI_enc (x : Entry) (hr : rightE x = 0) (okA : ∀ a ∈ x.fApply, okV a) (okW : ∀ a ∈ x.fWrite, okV a) (hm : 0 ≤ x.fMeta ∧ x.fMeta ≤ 18446744073709551615) (hk : 0 ≤ x.fMetaMask ∧ x.fMetaMask ≤ 18446744073709551615)
    (f : Nat) (hf : (encE x).length < f) : decI x.fTable f (str (encE x)) noPart 0 = (partOf x, 0) := by
  obtain ⟨hmt, htb, hgt, hmm, hA, hW⟩ := rightE_fits hr
  have e : encE x = encM x.fMeter ++ (listB 4 x.fApply ++ (encCl x.fClear ++ (listB 3 x.fWrite ++ (encMe x.fMeta x.fMetaMask ++ (encG x.fGoto ++ []))))) := by
    unfold encE; simp only [List.append_assoc, List.append_nil]
  have hre : rightE (entP x.fTable (partOf x)) = 0 := hr
  rw [e] at hf ⊢
  obtain ⟨tb, pr, vT, fT, vA, fA, vW, fW, cl, me, mk, mt, gt⟩ := x
  simp only [partOf] at *
  have q0 : max (0 : Int) mt = mt := by omega
  have q0' : max mt (0 : Int) = mt := by omega
  have q1 : max (0 : Int) gt = gt := by omega
  have q2 := or_u64_zero me hm.1 hm.2
  have q3 := or_u64_zero mk hk.1 hk.2
  have q2' := or_u64_zero' me hm.1 hm.2
  have q3' := or_u64_zero' mk hk.1 hk.2
  have q4 : Go.bits .or .u64 0 0 = 0 := by decide
  have pl6 : placeF ((6 : Nat) : Int) = 1 := by decide
  have pl4 : placeF ((4 : Nat) : Int) = 2 := by decide
  have pl5 : placeF ((5 : Nat) : Int) = 3 := by decide
  have pl3 : placeF ((3 : Nat) : Int) = 4 := by decide
  have pl2 : placeF ((2 : Nat) : Int) = 5 := by decide
  have pl1 : placeF ((1 : Nat) : Int) = 6 := by decide
  obtain ⟨f1, b1, g1, hb1, e1⟩ := decI_opt (tb := tb) (f := f) (k := 6) (X := encM mt) (p := noPart) (q := { noPart with mt := mt }) (p' := ⟨[], [], false, 0, 0, mt, 0⟩) (b := 0)
    (by simp [joinP, noPart, q0, q4]) (by
      by_cases h : mt = 0
      · subst h; exact .inl ⟨rfl, rfl⟩
      · exact .inr (isM h hmt.1 hmt.2)) (by decide) hf
  obtain ⟨f2, b2, g2, hb2, e2⟩ := decI_opt (tb := tb) (f := f1) (k := 4) (X := listB 4 fA) (p := ⟨[], [], false, 0, 0, mt, 0⟩) (q := { noPart with pA := fA }) (p' := ⟨fA, [], false, 0, 0, mt, 0⟩) (b := b1)
    (by simp [joinP, noPart, q0', q4]) (by
      by_cases h : fA = []
      · subst h; exact .inl ⟨rfl, rfl⟩
      · exact .inr (isA h hA okA)) (by omega) g1
  obtain ⟨f3, b3, g3, hb3, e3⟩ := decI_opt (tb := tb) (f := f2) (k := 5) (X := encCl cl) (p := ⟨fA, [], false, 0, 0, mt, 0⟩) (q := { noPart with cl := cl }) (p' := ⟨fA, [], cl, 0, 0, mt, 0⟩) (b := b2)
    (by simp [joinP, noPart, q0', q4]) (by
      cases cl
      · exact .inl ⟨rfl, rfl⟩
      · exact .inr isCl) (by omega) g2
  obtain ⟨f4, b4', g4, hb4, e4⟩ := decI_opt (tb := tb) (f := f3) (k := 3) (X := listB 3 fW) (p := ⟨fA, [], cl, 0, 0, mt, 0⟩) (q := { noPart with pW := fW }) (p' := ⟨fA, fW, cl, 0, 0, mt, 0⟩) (b := b3)
    (by simp [joinP, noPart, q0', q4]) (by
      by_cases h : fW = []
      · subst h; exact .inl ⟨rfl, rfl⟩
      · exact .inr (isW h hW okW)) (by omega) g3
  obtain ⟨f5, b5, g5, hb5, e5⟩ := decI_opt (tb := tb) (f := f4) (k := 2) (X := encMe me mk) (p := ⟨fA, fW, cl, 0, 0, mt, 0⟩) (q := { noPart with me := me, ma := mk }) (p' := ⟨fA, fW, cl, me, mk, mt, 0⟩) (b := b4')
    (by simp [joinP, noPart, q0', q2, q3]) (by
      by_cases h : mk = 0
      · subst h
        obtain rfl := andNot_zero hm.1 hm.2 hmm
        exact .inl ⟨rfl, rfl⟩
      · exact .inr (isMe h hm.1 hm.2 hk.1 hk.2)) (by omega) g4
  obtain ⟨f6, b6, g6, hb6, e6⟩ := decI_opt (tb := tb) (f := f5) (k := 1) (X := encG gt) (p := ⟨fA, fW, cl, me, mk, mt, 0⟩) (q := { noPart with gt := gt }) (p' := ⟨fA, fW, cl, me, mk, mt, gt⟩) (b := b5)
    (by simp [joinP, noPart, q0', q1, q2', q3']) (by
      by_cases h : gt = 0
      · subst h; exact .inl ⟨rfl, rfl⟩
      · exact .inr (isG h (by omega) (by omega))) (by omega) g5
  rw [e1, e2, e3, e4, e5, e6]
  obtain ⟨f7, rfl⟩ : ∃ n, f6 = n + 1 := ⟨f6 - 1, by omega⟩
  unfold decI
  rw [if_pos (by rw [str_size]; rfl), if_pos hre]
end
section
open Go.RowKit
set_option linter.unusedVariables false
set_option linter.unusedSimpArgs false

/-- A part has nothing of the kinds behind a place. -/
def EmptyP (p : Part) (b : Int) : Prop := (b < 1 → p.mt = 0) ∧ (b < 2 → p.pA = []) ∧ (b < 3 → p.cl = false) ∧ (b < 4 → p.pW = []) ∧ (b < 5 → p.me = 0 ∧ p.ma = 0) ∧ (b < 6 → p.gt = 0)
def ShapeP (k : Int) (q : Part) : Prop := (k = 6 → q = { noPart with mt := q.mt }) ∧ (k = 5 → q = { noPart with cl := true }) ∧ (k = 4 → q = { noPart with pA := q.pA }) ∧ (k = 3 → q = { noPart with pW := q.pW }) ∧ (k = 2 → q = { noPart with me := q.me, ma := q.ma }) ∧ (k = 1 → q = { noPart with gt := q.gt })
theorem seemsP_shape (k : Int) (s : ByteArray) : ShapeP k (seemsP k s) := by
  refine ⟨?_, ?_, ?_, ?_, ?_, ?_⟩ <;> rintro rfl <;> unfold seemsP
  · simp
  · simp
  · simp only [show ¬ (4 : Int) = 6 by decide, show ¬ (4 : Int) = 5 by decide, if_false, if_true]; split <;> rfl
  · simp only [show ¬ (3 : Int) = 6 by decide, show ¬ (3 : Int) = 5 by decide, show ¬ (3 : Int) = 4 by decide, if_false, if_true]; split <;> rfl
  · simp
  · simp
theorem encM0 : encM 0 = [] := rfl
theorem encCl0 : encCl false = [] := rfl
theorem encG0 : encG 0 = [] := rfl
theorem encMe0 : encMe 0 0 = [] := rfl
theorem listB0 (k : Nat) : listB k [] = [] := rfl
theorem max0r {a : Int} (h : 0 ≤ a) : max a 0 = a := by omega
theorem max0l {a : Int} (h : 0 ≤ a) : max 0 a = a := by omega
theorem enc_join {tb b n k : Int} {p q : Part} (hE : EmptyP p b) (hb : b < placeF k) (hb0 : 0 ≤ b) (hp : PartIn n p) (hq : PartIn 1 q) (hs : ShapeP k q) :
    encE (entP tb (joinP p q)) = encE (entP tb p) ++ rawF k q ∧ EmptyP (joinP p q) (placeF k) := by
  obtain ⟨E1, E2, E3, E4, E5, E6⟩ := hE
  obtain ⟨S6, S5, S4, S3, S2, S1⟩ := hs
  have o1 := or_u64_zero' p.me hp.me.1 hp.me.2
  have o2 := or_u64_zero' p.ma hp.ma.1 hp.ma.2
  have o3 := or_u64_zero q.me hq.me.1 hq.me.2
  have o4 := or_u64_zero q.ma hq.ma.1 hq.ma.2
  have m1 := max0r hp.mt.1
  have m2 := max0r hp.gt.1
  have m3 := max0l hq.mt.1
  have m4 := max0l hq.gt.1
  obtain ⟨pA, pW, cl, me, ma, mt, gt⟩ := p
  obtain ⟨qA, qW, qcl, qme, qma, qmt, qgt⟩ := q
  simp only at *
  clear hp hq
  by_cases k6 : k = 6
  · subst k6
    have h := S6 rfl
    have hpl : placeF 6 = 1 := rfl
    rw [hpl] at hb ⊢
    simp only [noPart, Part.mk.injEq] at h
    obtain ⟨rfl, rfl, rfl, rfl, rfl, _, rfl⟩ := h
    obtain rfl := E1 (by omega); obtain rfl := E2 (by omega); obtain rfl := E3 (by omega); obtain rfl := E4 (by omega); obtain ⟨rfl, rfl⟩ := E5 (by omega); obtain rfl := E6 (by omega)
    constructor
    · simp [encE, entP, joinP, rawF, encM0, encCl0, encG0, encMe0, listB0, m3, o1]
    · simp [EmptyP, joinP, o1]
  by_cases k4 : k = 4
  · subst k4
    have h := S4 rfl
    have hpl : placeF 4 = 2 := rfl
    rw [hpl] at hb ⊢
    simp only [noPart, Part.mk.injEq] at h
    obtain ⟨_, rfl, rfl, rfl, rfl, rfl, rfl⟩ := h
    obtain rfl := E2 (by omega); obtain rfl := E3 (by omega); obtain rfl := E4 (by omega); obtain ⟨rfl, rfl⟩ := E5 (by omega); obtain rfl := E6 (by omega)
    constructor
    · simp [encE, entP, joinP, rawF, encM0, encCl0, encG0, encMe0, listB0, m1, o1]
    · simp [EmptyP, joinP, o1]
  by_cases k5 : k = 5
  · subst k5
    have h := S5 rfl
    have hpl : placeF 5 = 3 := rfl
    rw [hpl] at hb ⊢
    simp only [noPart, Part.mk.injEq] at h
    obtain ⟨rfl, rfl, rfl, rfl, rfl, rfl, rfl⟩ := h
    obtain rfl := E3 (by omega); obtain rfl := E4 (by omega); obtain ⟨rfl, rfl⟩ := E5 (by omega); obtain rfl := E6 (by omega)
    constructor
    · simp [encE, entP, joinP, rawF, encM0, encCl0, encG0, encMe0, listB0, m1, o1, encCl]
    · simp [EmptyP, joinP, o1]
  by_cases k3 : k = 3
  · subst k3
    have h := S3 rfl
    have hpl : placeF 3 = 4 := rfl
    rw [hpl] at hb ⊢
    simp only [noPart, Part.mk.injEq] at h
    obtain ⟨rfl, _, rfl, rfl, rfl, rfl, rfl⟩ := h
    obtain rfl := E4 (by omega); obtain ⟨rfl, rfl⟩ := E5 (by omega); obtain rfl := E6 (by omega)
    constructor
    · simp [encE, entP, joinP, rawF, encM0, encCl0, encG0, encMe0, listB0, m1, o1]
    · simp [EmptyP, joinP, o1]
  by_cases k2 : k = 2
  · subst k2
    have h := S2 rfl
    have hpl : placeF 2 = 5 := rfl
    rw [hpl] at hb ⊢
    simp only [noPart, Part.mk.injEq] at h
    obtain ⟨rfl, rfl, rfl, _, _, rfl, rfl⟩ := h
    obtain ⟨rfl, rfl⟩ := E5 (by omega); obtain rfl := E6 (by omega)
    constructor
    · simp [encE, entP, joinP, rawF, encM0, encCl0, encG0, encMe0, listB0, m1, o3, o4]
    · simp [EmptyP, joinP, o1]
  by_cases k1 : k = 1
  · subst k1
    have h := S1 rfl
    have hpl : placeF 1 = 6 := rfl
    rw [hpl] at hb ⊢
    simp only [noPart, Part.mk.injEq] at h
    obtain ⟨rfl, rfl, rfl, rfl, rfl, rfl, _⟩ := h
    obtain rfl := E6 (by omega)
    constructor
    · simp [encE, entP, joinP, rawF, encM0, encCl0, encG0, encMe0, listB0, m1, m4, o1, o2]
    · simp [EmptyP, joinP, o1]
  · exfalso
    have : placeF k = 0 := by unfold placeF; rw [if_neg k6, if_neg k4, if_neg k5, if_neg k3, if_neg k2, if_neg k1]
    omega
theorem extract_two (d : ByteArray) (n : Nat) (h : n ≤ d.size) : d.data.toList = (d.extract 0 n).data.toList ++ (d.extract n d.size).data.toList := by
  have key : ∀ l : List UInt8, n ≤ l.length → l = ((str l).extract 0 n).data.toList ++ ((str l).extract n (str l).size).data.toList := by
    intro l hl
    rw [str_extract, str_extract, str_data, str_data, str_size, List.drop_zero, Nat.sub_zero, List.take_of_length_le (l := l.drop n) (by simp), List.take_append_drop]
  have := key d.data.toList (by rw [size_data]; exact h)
  rw [str_of] at this
  exact this
theorem decI_raw {tb : Int} : ∀ (f : Nat) (d : ByteArray) (p : Part) (b : Int) (r : Part), d.size < f → EmptyP p b → 0 ≤ b → PartIn b p → decI tb f d p b = (r, 0) → encE (entP tb r) = encE (entP tb p) ++ d.data.toList ∧ rightE (entP tb r) = 0
  | 0, d, p, b, r, hf, _, _, _, _ => absurd hf (Nat.not_lt_zero _)
  | f + 1, d, p, b, r, hf, hE, hb0, hp, h => by
    unfold decI at h
    split at h
    · rename_i h0
      split at h
      · rename_i hr
        obtain ⟨rfl, _⟩ := Prod.mk.inj h
        refine ⟨?_, hr⟩
        have : d.data.toList = [] := List.eq_nil_of_length_eq_zero (by rw [size_data]; exact h0)
        rw [this, List.append_nil]
      · rename_i hr; exact absurd (Prod.mk.inj h).2 hr
    · split at h
      · cases (Prod.mk.inj h).2
      · split at h
        · cases (Prod.mk.inj h).2
        · split at h
          · cases (Prod.mk.inj h).2
          · split at h
            · cases (Prod.mk.inj h).2
            · split at h
              · cases (Prod.mk.inj h).2
              · rename_i h0 h4 hn h8 hraw hpl
                have hj := enc_join (tb := tb) hE (by omega) hb0 hp (seemsP_in (kindD d) (chunkA d)) (seemsP_shape (kindD d) (chunkA d))
                have hr2 := decI_raw f _ _ _ r (by rw [ByteArray.size_extract]; omega) hj.2 (placeF_in _).1 (joinP_in hp (seemsP_in _ _) (by omega)) h
                refine ⟨?_, hr2.2⟩
                have hraw' : str (rawF (kindD d) (seemsP (kindD d) (chunkA d))) = chunkA d := Decidable.not_not.1 hraw
                rw [hr2.1, hj.1, List.append_assoc, extract_two d (lenD d) (by omega)]
                have : rawF (kindD d) (seemsP (kindD d) (chunkA d)) = (d.extract 0 (lenD d)).data.toList := by
                  have e := congrArg (fun x : ByteArray => x.data.toList) hraw'
                  rw [str_data] at e
                  exact e
                rw [this]
theorem PartIn.mono {n m : Int} {p : Part} (h : PartIn n p) (hm : n ≤ m) : PartIn m p :=
  { h with lenA := by have := h.lenA; omega, lenW := by have := h.lenW; omega }
theorem noPart_inN (m : Int) (h : 0 ≤ m) : PartIn m noPart := noPart_in.mono h
theorem decI_in {tb : Int} : ∀ (f : Nat) (d : ByteArray) (p : Part) (b : Int), PartIn b p → 0 ≤ b → b ≤ 6 → PartIn 6 (decI tb f d p b).1
  | 0, d, p, b, _, _, _ => by unfold decI; exact noPart_inN 6 (by decide)
  | f + 1, d, p, b, hp, h0, h6 => by
    have hn := noPart_inN 6 (by decide)
    unfold decI
    split
    · split
      · exact hp.mono h6
      · exact hn
    · split
      · exact hn
      · split
        · exact hn
        · split
          · exact hn
          · split
            · exact hn
            · split
              · exact hn
              · exact decI_in f _ _ _ (joinP_in hp (seemsP_in _ _) (by omega)) (placeF_in _).1 (placeF_in _).2
theorem decI_err {tb : Int} : ∀ (f : Nat) (d : ByteArray) (p : Part) (b : Int), (decI tb f d p b).2 ≠ 0 → (decI tb f d p b).1 = noPart
  | 0, d, p, b, _ => by unfold decI; rfl
  | f + 1, d, p, b, h => by
    unfold decI at h ⊢
    split
    · rename_i h0
      rw [if_pos h0] at h
      split
      · rename_i hr; rw [if_pos hr] at h; exact absurd rfl h
      · rfl
    · rename_i h0
      rw [if_neg h0] at h
      split
      · rfl
      · rename_i h1
        rw [if_neg h1] at h
        split
        · rfl
        · rename_i h2
          rw [if_neg h2] at h
          split
          · rfl
          · rename_i h3
            rw [if_neg h3] at h
            split
            · rfl
            · rename_i h4
              rw [if_neg h4] at h
              split
              · rfl
              · rename_i h5
                rw [if_neg h5] at h
                exact decI_err f _ _ _ h
end
end Go.Proofs.Ytdjhbahiiabimaa
