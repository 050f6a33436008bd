/- Chapter 12: several media beside each other. -/
import Derived.Test.YtpncjadhpnapnaaMq27
namespace Go.Proofs.Ytpncjadhpnapnaa.D12
open Go.RowKit Go.Maps C9
open D13 (RdI ixI is)
set_option linter.unusedVariables false

/-- a medium and where it lies -/
structure MF where
  g : Nat
  M : Med
  X : Nat → Prop
  R : Nat → Prop
/-- 'n' media of the call's own, and blocks 'Z' that stay as they were in 'wz' -/
structure HaveN (w0 w : World) (n : Nat) (F : Nat → MF) (wz : World) (Z : Nat → Prop) : Prop where
  m : ∀ i, i < n → MedW w (F i).g (F i).M (F i).X (F i).R
  b : Below w0.heap.size w0 w
  x : ∀ i, i < n → ∀ b, (F i).X b ∨ (F i).R b → w0.heap.size ≤ b
  ap : ∀ i k, i < n → k < n → i ≠ k → ∀ b, (F i).X b → ¬ ((F k).X b ∨ (F k).R b)
  xz : ∀ i, i < n → ∀ b, (F i).X b → ¬ Z b
  z : ∀ k, Z k → k < w.heap.size ∧ w.heap[k]? = wz.heap[k]?
def upd (F : Nat → MF) (i : Nat) (a : MF) : Nat → MF := fun k => if k = i then a else F k
theorem upd_same (F : Nat → MF) (i : Nat) (a : MF) : upd F i a i = a := if_pos rfl
theorem upd_other (F : Nat → MF) {i k : Nat} (a : MF) (h : k ≠ i) : upd F i a k = F k := if_neg h
section
variable {w0 w w' wz : World} {n : Nat} {F : Nat → MF} {Z : Nat → Prop} {V : Int × Med} {e : Ending}
theorem HaveN.lt (h : HaveN w0 w n F wz Z) {i : Nat} (hi : i < n) : ∀ b, (F i).X b ∨ (F i).R b → b < w.heap.size := (h.m i hi).lt
theorem HaveN.below (h : HaveN w0 w n F wz Z) (hb : Below w.heap.size w w') : HaveN w0 w' n F wz Z :=
  ⟨fun i hi => (h.m i hi).below hb, h.b.trans (hb.mono h.b.size), h.x, h.ap, h.xz, fun k hk => ⟨Nat.lt_of_lt_of_le (h.z k hk).1 hb.size, (hb.block k (h.z k hk).1).trans (h.z k hk).2⟩⟩
theorem HaveN.step (h : HaveN w0 w n F wz Z) {i : Nat} (hi : i < n) (hw : WrP V (F i).g (F i).X (F i).R w e w') :
    e = .returned (.int .i64 V.1) ∧ ∃ X2 R2, HaveN w0 w' n (upd F i ⟨(F i).g, V.2, X2, R2⟩) wz Z := by
  obtain ⟨he, X2, R2, hm, hc⟩ := hw
  have hs := h.b.size
  refine ⟨he, X2, R2, fun k hk => ?_, h.b.trans (hc.below _ hs fun b hb => h.x i hi b (.inl hb)), fun k hk b hb => ?_, fun k m hk hm2 hne b hb h2 => ?_, fun k hk b hb hz => ?_, fun k hk => ?_⟩
  · by_cases e : k = i
    · subst e; rw [upd_same]; exact hm
    · rw [upd_other _ _ e]
      exact (h.m k hk).apart hc fun b hb => h.ap i k hi hk (Ne.symm e) b hb
  · by_cases e : k = i
    · subst e
      rw [upd_same] at hb
      rcases hb with h1 | h1
      · exact (hc.x b h1).elim (fun h2 => h.x k hk b (.inl h2)) (fun h2 => Nat.le_trans hs h2)
      · exact (hc.r b h1).elim (fun h2 => h.x k hk b (.inr h2)) (fun h2 => Nat.le_trans hs h2)
    · rw [upd_other _ _ e] at hb
      exact h.x k hk b hb
  · by_cases ek : k = i
    · subst ek
      have em : m ≠ k := Ne.symm hne
      rw [upd_same] at hb
      rw [upd_other _ _ em] at h2
      rcases hc.x b hb with h3 | h3
      · exact h.ap k m hk hm2 hne b h3 h2
      · have := h.lt hm2 b h2; omega
    · rw [upd_other _ _ ek] at hb
      have hbl := h.lt hk b (.inl hb)
      by_cases em : m = i
      · subst em
        rw [upd_same] at h2
        rcases h2 with h2 | h2
        · rcases hc.x b h2 with h3 | h3
          · exact h.ap k m hk hm2 hne b hb (.inl h3)
          · omega
        · rcases hc.r b h2 with h3 | h3
          · exact h.ap k m hk hm2 hne b hb (.inr h3)
          · omega
      · rw [upd_other _ _ em] at h2
        exact h.ap k m hk hm2 hne b hb h2
  · by_cases ek : k = i
    · subst ek
      rw [upd_same] at hb
      rcases hc.x b hb with h3 | h3
      · exact h.xz k hk b h3 hz
      · have := (h.z b hz).1; omega
    · rw [upd_other _ _ ek] at hb
      exact h.xz k hk b hb hz
  · obtain ⟨h1, h2⟩ := h.z k hk
    exact ⟨Nat.lt_of_lt_of_le h1 hc.size, (hc.block k h1 fun hx => h.xz i hi k hx hk).trans h2⟩
/-- another set of blocks that stay: those that are new -/
theorem HaveN.fix (h : HaveN w0 w n F wz Z) {w1 : World} (hb : Below w.heap.size w w1) : HaveN w0 w1 n F w1 (fun k => w.heap.size ≤ k ∧ k < w1.heap.size) := by
  have h1 := h.below hb
  exact ⟨h1.m, h1.b, h1.x, h1.ap, fun i hi b hx hz => by have := h.lt hi b (.inl hx); omega, fun k hk => ⟨hk.2, rfl⟩⟩
theorem HaveN.one {g : Nat} {M : Med} {X R : Nat → Prop} (h : Have w0 w g M X R) : HaveN w0 w 1 (fun _ => ⟨g, M, X, R⟩) w (fun _ => False) :=
  ⟨fun _ _ => h.m, h.b, fun _ _ => h.x, fun i k hi hk hne => by omega, fun _ _ _ _ h => h, fun _ h => h.elim⟩
/-- a clone beside them -/
theorem HaveN.clone (h : HaveN w0 w n F wz Z) {i : Nat} (hi : i < n) (hc : CloP (F i).g (F i).M (F i).R w e w') : ∃ g2 X2 R2, e = .returned (.pointer (some ⟨g2, 0, none⟩)) ∧ HaveN w0 w' (n + 1) (upd F n ⟨g2, (F i).M, X2, R2⟩) wz Z := by
  obtain ⟨g2, X2, R2, he, hm, hb, hx2, hr2⟩ := hc
  have h1 := h.below hb
  have hs := h.b.size
  have hlt : ∀ k, k < n → ∀ b, (F k).X b ∨ (F k).R b → b < w.heap.size := fun k hk => h.lt hk
  have hri : ∀ b, R2 b → ∀ k, k < n → ¬ (F k).X b := fun b hb k hk hx => by
    rcases hr2 b hb with h2 | h2
    · by_cases e : k = i
      · subst e
        obtain ⟨L, hL⟩ := h.m k hk
        exact hL.dis b hx h2
      · exact h.ap k i hk hi e b hx (.inr h2)
    · have := hlt k hk b (.inl hx); omega
  refine ⟨g2, X2, R2, he, fun k hk => ?_, h1.b, fun k hk b hb => ?_, fun k m hk hm2 hne b hb' h2 => ?_, fun k hk b hb' hz => ?_, h1.z⟩
  · by_cases e : k = n
    · subst e; rw [upd_same]; exact hm
    · rw [upd_other _ _ e]; exact h1.m k (by omega)
  · by_cases e : k = n
    · subst e
      rw [upd_same] at hb
      rcases hb with h2 | h2
      · exact Nat.le_trans hs (hx2 b h2)
      · exact (hr2 b h2).elim (fun h3 => h.x i hi b (.inr h3)) (fun h3 => Nat.le_trans hs h3)
    · rw [upd_other _ _ e] at hb
      exact h.x k (by omega) b hb
  · by_cases ek : k = n
    · subst ek
      have em : m ≠ k := Ne.symm hne
      rw [upd_same] at hb'
      rw [upd_other _ _ em] at h2
      have := hx2 b hb'
      have := hlt m (by omega) b h2
      omega
    · rw [upd_other _ _ ek] at hb'
      have hbl := hlt k (by omega) b (.inl hb')
      by_cases em : m = n
      · subst em
        rw [upd_same] at h2
        rcases h2 with h2 | h2
        · have := hx2 b h2; omega
        · exact hri b h2 k (by omega) hb'
      · rw [upd_other _ _ em] at h2
        exact h.ap k m (by omega) (by omega) hne b hb' h2
  · by_cases ek : k = n
    · subst ek
      rw [upd_same] at hb'
      have := hx2 b hb'
      have := (h.z b hz).1
      omega
    · rw [upd_other _ _ ek] at hb'
      exact h.xz k (by omega) b hb' hz
end
/-- three media -/
def fam3 (a b c : MF) : Nat → MF := fun k => match k with | 0 => a | 1 => b | _ => c
theorem HaveN.congr {w0 w wz : World} {n : Nat} {F G : Nat → MF} {Z : Nat → Prop} (h : HaveN w0 w n F wz Z) (hG : ∀ i, i < n → G i = F i) : HaveN w0 w n G wz Z :=
  ⟨fun i hi => by rw [hG i hi]; exact h.m i hi, h.b, fun i hi => by rw [hG i hi]; exact h.x i hi, fun i k hi hk => by rw [hG i hi, hG k hk]; exact h.ap i k hi hk, fun i hi => by rw [hG i hi]; exact h.xz i hi, h.z⟩
theorem fam3_upd0 (a b c d : MF) : ∀ i, i < 3 → fam3 d b c i = upd (fam3 a b c) 0 d i := fun i hi => by
  have : i = 0 ∨ i = 1 ∨ i = 2 := by omega
  rcases this with rfl | rfl | rfl <;> rfl
theorem fam3_upd1 (a b c d : MF) : ∀ i, i < 3 → fam3 a d c i = upd (fam3 a b c) 1 d i := fun i hi => by
  have : i = 0 ∨ i = 1 ∨ i = 2 := by omega
  rcases this with rfl | rfl | rfl <;> rfl
theorem fam3_upd2 (a b c d : MF) : ∀ i, i < 3 → fam3 a b d i = upd (fam3 a b c) 2 d i := fun i hi => by
  have : i = 0 ∨ i = 1 ∨ i = 2 := by omega
  rcases this with rfl | rfl | rfl <;> rfl
theorem fam3_make (a b c : MF) (G : Nat → MF) (h : G 0 = a) : ∀ i, i < 3 → fam3 a b c i = upd (upd G 1 b) 2 c i := fun i hi => by
  have : i = 0 ∨ i = 1 ∨ i = 2 := by omega
  rcases this with rfl | rfl | rfl
  · exact h.symm
  · rfl
  · rfl
section
variable {w0 w w' wz : World} {Z : Nat → Prop} {V : Int × Med} {e : Ending} {g : Nat} {A : Med} {X R : Nat → Prop} {a b c : MF}
theorem HaveN.m0 (h : HaveN w0 w 3 (fam3 ⟨g, A, X, R⟩ b c) wz Z) : MedW w g A X R ∧ ∀ b, X b → w0.heap.size ≤ b := ⟨h.m 0 (by omega), fun b hb => h.x 0 (by omega) b (.inl hb)⟩
theorem HaveN.m1 (h : HaveN w0 w 3 (fam3 a ⟨g, A, X, R⟩ c) wz Z) : MedW w g A X R ∧ ∀ b, X b → w0.heap.size ≤ b := ⟨h.m 1 (by omega), fun b hb => h.x 1 (by omega) b (.inl hb)⟩
theorem HaveN.m2 (h : HaveN w0 w 3 (fam3 a b ⟨g, A, X, R⟩) wz Z) : MedW w g A X R ∧ ∀ b, X b → w0.heap.size ≤ b := ⟨h.m 2 (by omega), fun b hb => h.x 2 (by omega) b (.inl hb)⟩
theorem HaveN.s0 (h : HaveN w0 w 3 (fam3 ⟨g, A, X, R⟩ b c) wz Z) (hw : WrP V g X R w e w') : e = .returned (.int .i64 V.1) ∧ ∃ X2 R2, HaveN w0 w' 3 (fam3 ⟨g, V.2, X2, R2⟩ b c) wz Z := by
  obtain ⟨he, X2, R2, h2⟩ := h.step (i := 0) (by omega) hw
  exact ⟨he, X2, R2, h2.congr (fam3_upd0 _ _ _ _)⟩
theorem HaveN.s1 (h : HaveN w0 w 3 (fam3 a ⟨g, A, X, R⟩ c) wz Z) (hw : WrP V g X R w e w') : e = .returned (.int .i64 V.1) ∧ ∃ X2 R2, HaveN w0 w' 3 (fam3 a ⟨g, V.2, X2, R2⟩ c) wz Z := by
  obtain ⟨he, X2, R2, h2⟩ := h.step (i := 1) (by omega) hw
  exact ⟨he, X2, R2, h2.congr (fam3_upd1 _ _ _ _)⟩
theorem HaveN.s2 (h : HaveN w0 w 3 (fam3 a b ⟨g, A, X, R⟩) wz Z) (hw : WrP V g X R w e w') : e = .returned (.int .i64 V.1) ∧ ∃ X2 R2, HaveN w0 w' 3 (fam3 a b ⟨g, V.2, X2, R2⟩) wz Z := by
  obtain ⟨he, X2, R2, h2⟩ := h.step (i := 2) (by omega) hw
  exact ⟨he, X2, R2, h2.congr (fam3_upd2 _ _ _ _)⟩
end
theorem readR_bd (M : Med) (a : Int) : (M.readR a).2.1.length ≤ 2352 ∧ ∀ x ∈ (M.readR a).2.1, -9223372036854775808 ≤ x ∧ x ≤ 9223372036854775807 := by
  have hg : ∀ i, (M.gone i).length ≤ 2352 := fun i => by
    unfold Med.gone
    rw [List.length_map]
    exact Nat.le_trans (List.length_filter_le _ _) (by simp)
  have hn : ∀ c : Int, (([], [], c) : List UInt8 × List Int × Int).2.1.length ≤ 2352 ∧ ∀ x ∈ (([], [], c) : List UInt8 × List Int × Int).2.1, -9223372036854775808 ≤ x ∧ x ≤ 9223372036854775807 := fun c => ⟨Nat.zero_le _, fun x hx => by cases hx⟩
  by_cases hr : 0 ≤ a ∧ a < M.n
  · by_cases h0 : (M.sec a.toNat).st = 0
    · have e : M.readR a = ([], [], 8) := by unfold Med.readR; rw [if_pos hr, if_pos h0]
      rw [e]
      exact hn 8
    · by_cases h1 : (M.sec a.toNat).st = 1
      · have e : M.readR a = (M.out a.toNat, M.gone a.toNat, 0) := by unfold Med.readR; rw [if_pos hr, if_neg h0, if_pos h1]
        rw [e]
        dsimp only
        exact ⟨hg a.toNat, fun x hx => by have := gone_bd M a.toNat x hx; omega⟩
      · have e : M.readR a = ([], [], 9) := by unfold Med.readR; rw [if_pos hr, if_neg h0, if_neg h1]
        rw [e]
        exact hn 9
  · have e : M.readR a = ([], [], 2) := by unfold Med.readR; rw [if_neg hr]
    rw [e]
    exact hn 2
theorem acts_ok {M : Med} {N : Nat} (h : M.Ok N) : ∀ l : List AC, (M.acts l).Ok (N + l.length)
  | [] => h
  | a :: l => by
    have h1 := acts_ok (h.act a) l
    have e : N + (a :: l).length = N + 1 + l.length := by simp only [List.length_cons]; omega
    rw [e]
    exact h1
theorem act_n (M : Med) (a : AC) : (M.act a).2.n = M.n := by
  have hw : ∀ i st raw, (M.write i st raw).2.n = M.n := fun i st raw => by
    unfold Med.write
    split
    · rfl
    · split
      · rfl
      · split
        · exact Med.put_n _ _ _
        · exact Med.put_n _ _ _
  unfold Med.act
  split
  · unfold Med.record
    split
    · split
      · exact hw _ _ _
      · rfl
    · rfl
  · split
    · unfold Med.tear
      split
      · exact hw _ _ _
      · rfl
    · split
      · unfold Med.erase
        split
        · split
          · rfl
          · split
            · rfl
            · exact Med.put_n _ _ _
        · rfl
      · split
        · unfold Med.scratch
          split
          · rfl
          · split <;> rfl
        · unfold Med.damage
          split
          · exact Med.put_n _ _ _
          · rfl
theorem acts_n : ∀ (l : List AC) (M : Med), (M.acts l).n = M.n
  | [], M => rfl
  | a :: l, M => (acts_n l (M.act a).2).trans (act_n M a)
theorem acts_take {M : Med} {l : List AC} {k : Nat} (h : k < l.length) : M.acts (l.take (k + 1)) = ((M.acts (l.take k)).act l[k]).2 := by
  rw [List.take_succ_eq_append_getElem h, Med.acts_snoc]
end Go.Proofs.Ytpncjadhpnapnaa.D12
