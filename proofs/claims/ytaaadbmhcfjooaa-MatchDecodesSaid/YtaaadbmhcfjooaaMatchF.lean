/- Matches as bytes: the plain law, and the small functions. -/
import Derived.Test.YtaaadbmhcfjooaaMatchD
import Derived.Test.YtaaadbmhcfjooaaPut
import Derived.Test.YtaaadbmhcfjooaaBuild
namespace Go.Proofs.Ytaaadbmhcfjooaa
open Go.RowKit
set_option linter.unusedVariables false
set_option linter.unusedSimpArgs false

theorem str_add (a b : List UInt8) : str a ++ str b = str (a ++ b) := by
  unfold str
  apply ByteArray.ext
  simp
theorem cat (a b : List UInt8) (h : a.length + b.length ≤ 140737488355328) (W : World) : (binOp .add 9 (.string (str a)) (.string (str b))).run Try.prog W = .ok (.string (str (a ++ b))) W := by
  have e := str_add a b
  have h1 := str_size a
  have h2 := str_size b
  have h3 : ((a.length : Int) + (b.length : Int)) ≤ 140737488355328 := by omega
  simp [go_sem, Try.underlying9, e, h1, h2]
  omega

def sizeF (f : Int) : Nat := ((widthF f).toNat + 7) / 8
theorem sizeF_val {f : Int} (h : 1 ≤ f ∧ f ≤ 9) : 1 ≤ sizeF f ∧ sizeF f ≤ 8 ∧ greatF f < 256 ^ sizeF f := by
  rcases fcases f with rfl | rfl | rfl | rfl | rfl | rfl | rfl | rfl | rfl | ⟨_, _, _, _, _, _, _, _, _, h'⟩
  case inr.inr.inr.inr.inr.inr.inr.inr.inr => omega
  all_goals decide
/-- A field's code on the wire. -/
def codeF (f p : Int) : Nat := (if f = 1 then 0 else if f = 2 then 2 else if f = 3 then 6 else if f = 4 then 5 else if f = 5 then 11 else if f = 6 then 12 else if f = 7 then 10 else if f = 8 then 13 + (if p = 17 then 2 else 0) else 14 + (if p = 17 then 2 else 0))
theorem codeF_le (f p : Int) : codeF f p ≤ 16 := by
  unfold codeF
  repeat' split
  all_goals omega

set_option maxHeartbeats 4000000 in
theorem size_any (w : World) (f : Int) : Calls Try.prog 33 #[.int .i64 f] w fun x w' => x = .returned (.int .i64 (sizeF f)) ∧ w = w' := by
  have H := Lib.hid (Width_any w f)
  rcases fcases f with rfl | rfl | rfl | rfl | rfl | rfl | rfl | rfl | rfl | ⟨h1, h2, h3, h4, h5, h6, h7, h8, h9, h⟩
  case inr.inr.inr.inr.inr.inr.inr.inr.inr =>
    rw [widthF_none h] at H
    have hg : sizeF f = 0 := by unfold sizeF; rw [widthF_none h]; rfl
    rw [hg]
    clear h hg
    go_enter Try.func33, Try.ntmps33
    go_wp2_with fail
    refine H.out.mono ?_
    rintro e w' ⟨rfl, rfl⟩
    go_wp2
    go_ret
    exact ⟨rfl, rfl⟩
  all_goals
    try rw [widthF_1] at H
    try rw [widthF_2] at H
    try rw [widthF_3] at H
    try rw [widthF_4] at H
    try rw [widthF_5] at H
    try rw [widthF_6] at H
    try rw [widthF_7] at H
    try rw [widthF_8] at H
    try rw [widthF_9] at H
    go_enter Try.func33, Try.ntmps33
    go_wp2_with fail
    refine H.out.mono ?_
    rintro e w' ⟨rfl, rfl⟩
    go_wp2
    go_ret
    exact ⟨rfl, rfl⟩

set_option maxHeartbeats 4000000 in
theorem code_any (w : World) (f p : Int) : Calls Try.prog 34 #[.int .i64 f, .int .u64 p] w fun x w' => x = .returned (.int .u64 (codeF f p)) ∧ w = w' := by
  by_cases hp : p = 17
  · subst hp
    rcases fcases f with rfl | rfl | rfl | rfl | rfl | rfl | rfl | rfl | rfl | ⟨h1, h2, h3, h4, h5, h6, h7, h8, h9, h⟩
    case inr.inr.inr.inr.inr.inr.inr.inr.inr =>
      have hg : codeF f 17 = 16 := by unfold codeF; rw [if_neg (by omega), if_neg (by omega), if_neg (by omega), if_neg (by omega), if_neg (by omega), if_neg (by omega), if_neg (by omega), if_neg (by omega)]; rfl
      rw [hg]
      clear h hg
      go_enter Try.func34, Try.ntmps34
      go_wp2
      go_ret
      exact ⟨rfl, rfl⟩
    all_goals
      go_enter Try.func34, Try.ntmps34
      go_wp2
      go_ret
      exact ⟨rfl, rfl⟩
  · have tp : (p == 17) = false := beq_eq_false_iff_ne.mpr hp
    have e0 : ∀ a : Nat, (a + (if p = 17 then 2 else 0)) = a := fun a => by rw [if_neg hp]; rfl
    have e8 : codeF 8 p = 13 := by unfold codeF; simp [hp]
    have e9 : codeF 9 p = 14 := by unfold codeF; simp [hp]
    have e10 : ∀ f : Int, (f < 1 ∨ 9 < f) → codeF f p = 14 := fun f h => by unfold codeF; rw [if_neg (by omega), if_neg (by omega), if_neg (by omega), if_neg (by omega), if_neg (by omega), if_neg (by omega), if_neg (by omega), if_neg (by omega)]; exact e0 14
    clear e0
    rcases fcases f with rfl | rfl | rfl | rfl | rfl | rfl | rfl | rfl | rfl | ⟨h1, h2, h3, h4, h5, h6, h7, h8, h9, h⟩
    case inr.inr.inr.inr.inr.inr.inr.inr.inr =>
      rw [e10 f h]
      clear h e8 e9 e10 hp
      go_enter Try.func34, Try.ntmps34
      go_wp2
      go_ret
      exact ⟨rfl, rfl⟩
    all_goals
      try rw [e8]
      try rw [e9]
      clear e8 e9 e10 hp
      go_enter Try.func34, Try.ntmps34
      go_wp2
      go_ret
      exact ⟨rfl, rfl⟩

set_option maxHeartbeats 2000000 in
theorem put_any (w : World) (n : Int) (c : Nat) (h0 : 0 ≤ n) (hc : 1 ≤ c) (hc8 : c ≤ 8) (hn : n < 256 ^ c) :
    Calls Try.prog 35 #[.int .u64 n, .int .i64 c] w fun x w' => x = .returned (.string (str (beL c n.toNat))) ∧ Below w.heap.size w w' := by
  have HP := Lib.hid (Put_yes w n c h0 hc hc8 (fun _ => (div_pow n c h0).mpr hn))
  clear h0 hc hc8 hn
  generalize beL c n.toNat = r at *
  go_enter Try.func35, Try.ntmps35
  go_wp2_with fail
  refine HP.out.mono ?_
  rintro e w' ⟨rfl, hb⟩
  go_wp2
  go_ret
  exact ⟨rfl, hb⟩

/-- A test that is right: its numbers are its field's. -/
def FitT (t : Test) : Prop := (1 ≤ t.fField ∧ t.fField ≤ 9) ∧ (0 ≤ t.fValue ∧ t.fValue ≤ greatF t.fField) ∧ (0 ≤ t.fMask ∧ t.fMask ≤ greatF t.fField)
theorem and_le {a b : Int} (ha : U64 a) (hb : U64 b) (h : bits .and .u64 a b = a) : a ≤ b := by
  obtain ⟨h1, h2⟩ := ha
  obtain ⟨h3, h4⟩ := hb
  rw [u64_and a b h1 (by omega) h3 (by omega)] at h
  have : a.toNat &&& b.toNat ≤ b.toNat := Nat.and_le_right
  omega
theorem rightC_fit {ahead : List Test} {last : Int} {t : Test} (hok : okT t) (h : rightC ahead last t = 0) : FitT t ∧ last < t.fField := by
  unfold rightC at h
  split at h
  · cases h
  rename_i hw
  split at h
  · cases h
  rename_i hb
  have hb' : badT ahead last t = false := by cases hq : badT ahead last t <;> simp_all
  unfold badT at hb'
  simp only [Bool.or_eq_false_iff, decide_eq_false_iff_not, Bool.not_eq_false', beq_iff_eq, beq_eq_false_iff_ne] at hb'
  obtain ⟨⟨⟨⟨h1, h2⟩, h3⟩, h4⟩, h5⟩ := hb'
  have hf : 1 ≤ t.fField ∧ t.fField ≤ 9 := by
    rcases fcases t.fField with e | e | e | e | e | e | e | e | e | ⟨_, _, _, _, _, _, _, _, _, h'⟩
    case inr.inr.inr.inr.inr.inr.inr.inr.inr => exact absurd (widthF_none h') hw
    all_goals omega
  have g := greatF_U64 t.fField
  have m1 := and_le hok.2 g ((andNot_iff hok.2 g).1 h3)
  have m2 := and_le hok.1 hok.2 ((andNot_iff hok.1 hok.2).1 h4)
  exact ⟨⟨hf, ⟨hok.1.1, by omega⟩, ⟨hok.2.1, m1⟩⟩, by omega⟩
theorem rightFrom_fit (ts : List Test) : ∀ (ahead : List Test) (last : Int), (∀ t ∈ ts, okT t) → last ≤ 9 → rightFrom ahead last ts = 0 → (∀ t ∈ ts, FitT t) ∧ last + ts.length ≤ 9 := by
  induction ts with
  | nil => intro ahead last _ hl _; exact ⟨fun t ht => absurd ht List.not_mem_nil, by simpa using hl⟩
  | cons t ts ih =>
    intro ahead last hok hl h
    unfold rightFrom at h
    by_cases hc : rightC ahead last t = 0
    · rw [if_pos hc] at h
      obtain ⟨f1, f2⟩ := rightC_fit (hok t List.mem_cons_self) hc
      obtain ⟨g1, g2⟩ := ih (ahead ++ [t]) t.fField (fun x hx => hok x (List.mem_cons_of_mem _ hx)) f1.1.2 h
      refine ⟨fun x hx => (List.mem_cons.1 hx).elim (fun e => e ▸ f1) (fun hx => g1 x hx), ?_⟩
      simp only [List.length_cons]
      omega
    · rw [if_neg hc] at h; exact absurd h hc
theorem right_fit {l : List Test} (hok : ∀ t ∈ l, okT t) (h : rightF l = 0) : (∀ t ∈ l, FitT t) ∧ l.length ≤ 9 := by
  have := rightFrom_fit l [] 0 hok (by decide) h
  exact ⟨this.1, by omega⟩

/-- A test's bytes. -/
def bodyB (t : Test) : List UInt8 := if t.fMask = greatF t.fField then beL (sizeF t.fField) t.fValue.toNat else beL (sizeF t.fField) t.fValue.toNat ++ beL (sizeF t.fField) t.fMask.toNat
def codeB (p : Int) (t : Test) : Nat := if t.fMask = greatF t.fField then 2 * codeF t.fField p else 2 * codeF t.fField p + 1
def testB (p : Int) (t : Test) : List UInt8 := beL 2 32768 ++ beL 1 (codeB p t) ++ beL 1 (bodyB t).length ++ bodyB t
def innerB (p : Int) (l : List Test) : List UInt8 := l.flatMap (testB p)
def headB (b : List UInt8) : List UInt8 := beL 2 1 ++ beL 2 (4 + b.length) ++ b
/-- A match's bytes. -/
def encB (l : List Test) : List UInt8 := headB (innerB (wholeF l 7).1 l) ++ List.replicate ((8 - (headB (innerB (wholeF l 7).1 l)).length % 8) % 8) 0
theorem bodyB_len {t : Test} (h : FitT t) : (bodyB t).length ≤ 16 := by
  have := sizeF_val h.1
  unfold bodyB
  split
  · rw [beL_length]; omega
  · rw [List.length_append, beL_length, beL_length]; omega
theorem testB_len {p : Int} {t : Test} (h : FitT t) : (testB p t).length ≤ 20 := by
  have := bodyB_len h
  unfold testB
  simp only [List.length_append, beL_length]
  omega
theorem innerB_len {p : Int} : ∀ (l : List Test), (∀ t ∈ l, FitT t) → (innerB p l).length ≤ 20 * l.length
  | [], _ => by simp [innerB]
  | t :: l, h => by
    have h1 := testB_len (p := p) (h t List.mem_cons_self)
    have h2 := innerB_len (p := p) l (fun x hx => h x (List.mem_cons_of_mem _ hx))
    unfold innerB at *
    rw [List.flatMap_cons, List.length_append, List.length_cons]
    omega
end Go.Proofs.Ytaaadbmhcfjooaa
