/- Chapter 13: the defect table in plain words. No program is named here. -/
import Derived.Test.YtjnedcncfdpjoaaGf
namespace Go.Proofs.Ytjnedcncfdpjoaa.D13
set_option linter.unusedVariables false

/-- the home sector of block 'b' -/
def hmK (l : List Int) (b : Int) : Int := l.foldl (fun b p => if p ≤ b then b + 1 else b) b
theorem hmK_cons (p : Int) (r : List Int) (b : Int) : hmK (p :: r) b = hmK r (if p ≤ b then b + 1 else b) := rfl
theorem hmK_take (l : List Int) (b : Int) (k : Nat) (hk : k < l.length) : hmK (l.take (k + 1)) b = if l[k] ≤ hmK (l.take k) b then hmK (l.take k) b + 1 else hmK (l.take k) b := by
  rw [List.take_succ_eq_append_getElem hk]
  unfold hmK
  rw [List.foldl_append]
  rfl
/-- how many primary defects lie below 's' -/
def cnt (l : List Int) (s : Int) : Nat := (l.filter fun p => decide (p < s)).length
theorem cnt_cons (p : Int) (r : List Int) (s : Int) : cnt (p :: r) s = (if p < s then 1 else 0) + cnt r s := by
  unfold cnt
  by_cases h : p < s
  · simp [h]; omega
  · simp [h]
theorem cnt_le (l : List Int) (s : Int) : cnt l s ≤ l.length := List.length_filter_le _ _
theorem cnt_zero {l : List Int} {s : Int} (h : ∀ p ∈ l, s ≤ p) : cnt l s = 0 := by
  unfold cnt
  rw [List.length_eq_zero_iff, List.filter_eq_nil_iff]
  intro p hp
  have := h p hp
  simp; omega
theorem hmK_stay {l : List Int} {b : Int} (h : ∀ p ∈ l, b < p) : hmK l b = b := by
  induction l with
  | nil => rfl
  | cons p r ih =>
    have := h p (by simp)
    rw [hmK_cons, if_neg (by omega)]
    exact ih fun q hq => h q (by simp [hq])
theorem hmK_ge (l : List Int) : ∀ b : Int, b ≤ hmK l b := by
  induction l with
  | nil => exact fun b => Int.le_refl _
  | cons p r ih =>
    intro b
    rw [hmK_cons]
    split
    · have := ih (b + 1); omega
    · exact ih b
/-- a home is no primary defect, and of the sectors below it 'b' are none -/
theorem hmK_spec {l : List Int} (hs : l.Pairwise (· < ·)) : ∀ b : Int, hmK l b ∉ l ∧ hmK l b = b + cnt l (hmK l b) := by
  induction l with
  | nil => intro b; simp [hmK, cnt]
  | cons p r ih =>
    intro b
    rw [List.pairwise_cons] at hs
    rw [hmK_cons]
    by_cases h : p ≤ b
    · rw [if_pos h]
      obtain ⟨h1, h2⟩ := ih hs.2 (b + 1)
      have h3 := hmK_ge r (b + 1)
      refine ⟨?_, ?_⟩
      · intro hm
        rcases List.mem_cons.1 hm with e | e
        · omega
        · exact h1 e
      · rw [cnt_cons, if_pos (by omega)]
        omega
    · rw [if_neg h, hmK_stay fun q hq => by have := hs.1 q hq; omega]
      refine ⟨?_, ?_⟩
      · intro hm
        rcases List.mem_cons.1 hm with e | e
        · omega
        · have := hs.1 b e; omega
      · rw [cnt_zero fun q hq => by
          rcases List.mem_cons.1 hq with e | e
          · omega
          · have := hs.1 q e; omega]
        simp
theorem cnt_gap {p s : Int} : ∀ {l : List Int}, (p :: l).Pairwise (· < ·) → p < s → (cnt l s : Int) ≤ s - p - 1
  | [], _, h => by simp [cnt]; omega
  | q :: r, hs, h => by
    rw [List.pairwise_cons] at hs
    have hq := hs.1 q (by simp)
    rw [cnt_cons]
    by_cases e : q < s
    · have := cnt_gap (p := q) (s := s) hs.2 e
      rw [if_pos e]; omega
    · rw [if_neg e, cnt_zero fun x hx => by
        have := (List.pairwise_cons.1 hs.2).1 x hx
        omega]
      omega
/-- every sector that is no primary defect is the home of the block that its number says -/
theorem hmK_inv {l : List Int} (hs : l.Pairwise (· < ·)) : ∀ {s : Int}, s ∉ l → hmK l (s - cnt l s) = s := by
  induction l with
  | nil => intro s _; simp [hmK, cnt]
  | cons p r ih =>
    intro s hn
    have hs' := List.pairwise_cons.1 hs
    have hne : p ≠ s := fun e => hn (by simp [e])
    have hnr : s ∉ r := fun e => hn (by simp [e])
    by_cases h : p < s
    · have hg := cnt_gap (s := s) hs h
      rw [cnt_cons, if_pos h, hmK_cons, if_pos (by omega)]
      have := ih hs'.2 hnr
      rw [show s - ((1 + cnt r s : Nat) : Int) + 1 = s - (cnt r s : Int) by omega]
      exact this
    · have h0 : cnt (p :: r) s = 0 := cnt_zero fun x hx => by
        rcases List.mem_cons.1 hx with e | e
        · omega
        · have := hs'.1 x e; omega
      rw [h0, hmK_stay fun x hx => by
        rcases List.mem_cons.1 hx with e | e
        · omega
        · have := hs'.1 x e; omega]
      simp
/-- a defect table -/
structure Tab where
  blocks : Nat
  spares : Nat
  used : Nat
  prim : List Int
  mv : Int → Option Nat
def Tab.first (T : Tab) : Nat := T.blocks + T.prim.length
def Tab.phys (T : Tab) (b : Int) : Int := match T.mv b with
  | some s => (T.first : Int) + s
  | none => hmK T.prim b
structure Tab.Ok (T : Tab) : Prop where
  b1 : 1 ≤ T.blocks
  b2 : T.blocks ≤ 4096
  sp : T.spares ≤ 64
  us : T.used ≤ T.spares
  pl : T.prim.length ≤ 256
  ps : T.prim.Pairwise (· < ·)
  pr : ∀ p ∈ T.prim, 0 ≤ p ∧ p < T.first
  mr : ∀ b s, T.mv b = some s → 0 ≤ b ∧ b < T.blocks ∧ s < T.used
  mi : ∀ b c s, T.mv b = some s → T.mv c = some s → b = c
/-- the block of a sector -/
def Tab.blk (T : Tab) (s : Int) : Option Nat := (List.range T.blocks).find? fun b => T.phys b == s
section
variable {T : Tab}
theorem Tab.Ok.home (h : T.Ok) {b : Int} (h0 : 0 ≤ b) (h1 : b < T.blocks) : 0 ≤ hmK T.prim b ∧ hmK T.prim b < T.first ∧ hmK T.prim b ∉ T.prim := by
  obtain ⟨h2, h3⟩ := hmK_spec h.ps b
  have := cnt_le T.prim (hmK T.prim b)
  unfold Tab.first
  exact ⟨by omega, by omega, h2⟩
theorem Tab.Ok.phys_range (h : T.Ok) {b : Int} (h0 : 0 ≤ b) (h1 : b < T.blocks) : 0 ≤ T.phys b ∧ T.phys b < T.first + T.used ∧ T.phys b ∉ T.prim := by
  unfold Tab.phys
  split
  · next s hs =>
    have := h.mr b s hs
    refine ⟨by omega, by omega, fun hm => ?_⟩
    have := h.pr _ hm
    omega
  · have := h.home h0 h1
    exact ⟨this.1, by omega, this.2.2⟩
theorem Tab.Ok.phys_inj (h : T.Ok) {b c : Int} (hb0 : 0 ≤ b) (hb1 : b < T.blocks) (hc0 : 0 ≤ c) (hc1 : c < T.blocks) (he : T.phys b = T.phys c) : b = c := by
  have hb := h.home hb0 hb1
  have hc := h.home hc0 hc1
  unfold Tab.phys at he
  split at he <;> split at he
  · next _ s hs _ t ht =>
    have : s = t := by omega
    subst this
    exact h.mi _ _ _ hs ht
  · omega
  · omega
  · have h1 := (hmK_spec h.ps b).2
    have h2 := (hmK_spec h.ps c).2
    rw [he] at h1
    omega
theorem Tab.Ok.blk_some (h : T.Ok) {b : Nat} (hb : b < T.blocks) : T.blk (T.phys b) = some b := by
  unfold Tab.blk
  rw [List.find?_eq_some_iff_getElem]
  refine ⟨by simp, b, by simpa using hb, by simp, fun j hj => ?_⟩
  simp only [List.getElem_range, Bool.not_eq_true', beq_eq_false_iff_ne, ne_eq]
  intro e
  have := h.phys_inj (b := j) (c := b) (by omega) (by omega) (by omega) (by omega) e
  omega
theorem Tab.blk_is {s : Int} {b : Nat} (h : T.blk s = some b) : b < T.blocks ∧ T.phys b = s := by
  unfold Tab.blk at h
  have h1 := List.find?_some h
  have h2 := List.mem_of_find?_eq_some h
  exact ⟨by simpa using h2, by simpa using h1⟩
theorem Tab.blk_none {s : Int} (h : ∀ b : Nat, b < T.blocks → T.phys b ≠ s) : T.blk s = none := by
  unfold Tab.blk
  rw [List.find?_eq_none]
  intro b hb
  have := h b (by simpa using hb)
  simpa using this
/-- 'Block' at a sector of a spare -/
theorem Tab.Ok.blk_spare (h : T.Ok) {b : Int} {s : Nat} (hm : T.mv b = some s) : T.blk ((T.first : Int) + s) = some b.toNat := by
  have h1 := h.mr b s hm
  have e : T.phys ((b.toNat : Nat) : Int) = (T.first : Int) + s := by
    unfold Tab.phys
    rw [show ((b.toNat : Nat) : Int) = b by omega, hm]
  rw [← e]
  exact h.blk_some (by omega)
theorem Tab.Ok.blk_spare_none (h : T.Ok) {x : Int} (hx : (T.first : Int) ≤ x) (hm : ∀ b s, T.mv b = some s → (T.first : Int) + s ≠ x) : T.blk x = none := Tab.blk_none fun b hb e => by
  have h2 := h.home (b := b) (by omega) (by omega)
  unfold Tab.phys at e
  split at e
  · next s hs => exact hm _ s hs e
  · omega
/-- 'Block' at a sector before the spares -/
theorem Tab.Ok.blk_home (h : T.Ok) {x : Int} (hx : x < T.first) : T.blk x = if x ∈ T.prim ∨ (T.mv (x - cnt T.prim x)).isSome = true ∨ ¬ (0 ≤ x - cnt T.prim x ∧ x - cnt T.prim x < T.blocks) then none else some (x - cnt T.prim x).toNat := by
  split
  · next hc =>
    refine Tab.blk_none fun b hb e => ?_
    have h2 := h.home (b := b) (by omega) (by omega)
    unfold Tab.phys at e
    split at e
    · next s hs => omega
    · next hn =>
      have h3 := (hmK_spec h.ps b).2
      rw [e] at h3 h2
      have h4 : x - (cnt T.prim x : Int) = b := by omega
      rw [h4, hn] at hc
      rcases hc with hc | hc | hc
      · exact h2.2.2 hc
      · cases hc
      · omega
  · next hc =>
    have hc1 : x ∉ T.prim := fun e => hc (.inl e)
    have hc2 : T.mv (x - cnt T.prim x) = none := by
      cases e : T.mv (x - cnt T.prim x) with
      | none => rfl
      | some s => exact absurd (.inr (.inl (by rw [e]; rfl))) hc
    have hc3 : 0 ≤ x - cnt T.prim x ∧ x - cnt T.prim x < T.blocks := Classical.byContradiction fun e => hc (.inr (.inr e))
    have e : T.phys (((x - cnt T.prim x).toNat : Nat) : Int) = x := by
      unfold Tab.phys
      rw [show (((x - cnt T.prim x).toNat : Nat) : Int) = x - cnt T.prim x by omega, hc2]
      exact hmK_inv h.ps hc1
    have := h.blk_some (b := (x - cnt T.prim x).toNat) (by omega)
    rw [e] at this
    exact this
end
end Go.Proofs.Ytjnedcncfdpjoaa.D13
