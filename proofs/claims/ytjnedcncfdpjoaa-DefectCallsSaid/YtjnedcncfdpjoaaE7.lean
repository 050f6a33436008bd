/- Chapter 13: the bad sectors in plain words. No program is named here. -/
import Derived.Test.YtjnedcncfdpjoaaE1
namespace Go.Proofs.Ytjnedcncfdpjoaa.D13
set_option linter.unusedVariables false

theorem len_le {hi : Int} : ∀ {l : List Int} {lo : Int}, l.Pairwise (· < ·) → (∀ p ∈ l, lo ≤ p ∧ p < hi) → lo ≤ hi → (l.length : Int) ≤ hi - lo
  | [], lo, _, _, h => by simp; omega
  | p :: r, lo, hs, hr, h => by
    rw [List.pairwise_cons] at hs
    have hp := hr p (by simp)
    have := len_le (hi := hi) (l := r) (lo := p + 1) hs.2 (fun q hq => by
      have h1 := hs.1 q hq
      have h2 := hr q (by simp [hq])
      omega) (by omega)
    rw [List.length_cons]
    push_cast
    omega
theorem cnt_split (l : List Int) (s : Int) : cnt l s + (l.filter fun p => !decide (p < s)).length = l.length := by
  unfold cnt
  induction l with
  | nil => rfl
  | cons p r ih =>
    by_cases h : p < s
    · simp [h] at ih ⊢; omega
    · simp [h] at ih ⊢; omega
/-- the bad sectors, in order -/
def Tab.bad (T : Tab) : List Int := ((List.range (T.first + T.used)).filter fun s : Nat => (T.blk (s : Int)).isNone).map Int.ofNat
section
variable {T : Tab}
theorem Tab.mem_bad {z : Int} : z ∈ T.bad ↔ 0 ≤ z ∧ z < T.first + T.used ∧ T.blk z = none := by
  unfold Tab.bad
  simp only [List.mem_map, List.mem_filter, List.mem_range, Option.isNone_iff_eq_none]
  constructor
  · rintro ⟨s, ⟨h1, h2⟩, rfl⟩
    exact ⟨Int.natCast_nonneg s, by show (s : Int) < _; omega, h2⟩
  · rintro ⟨h1, h2, h3⟩
    refine ⟨z.toNat, ⟨by omega, ?_⟩, by show ((z.toNat : Nat) : Int) = z; omega⟩
    rw [show ((z.toNat : Nat) : Int) = z by omega]
    exact h3
theorem Tab.bad_sorted : T.bad.Pairwise (· < ·) := by
  unfold Tab.bad
  rw [List.pairwise_map]
  refine (List.Pairwise.filter _ List.pairwise_lt_range).imp ?_
  intro a b h
  show (a : Int) < b
  omega
theorem Tab.Ok.home_range (h : T.Ok) {z : Int} (h0 : 0 ≤ z) (h1 : z < T.first) (hn : z ∉ T.prim) : 0 ≤ z - cnt T.prim z ∧ z - cnt T.prim z < T.blocks := by
  have h2 := len_le (l := T.prim.filter fun p => decide (p < z)) (lo := 0) (hi := z) (h.ps.filter _) (fun p hp => by
    simp only [List.mem_filter, decide_eq_true_eq] at hp
    exact ⟨(h.pr p hp.1).1, hp.2⟩) h0
  have h3 := len_le (l := T.prim.filter fun p => !decide (p < z)) (lo := z + 1) (hi := T.first) (h.ps.filter _) (fun p hp => by
    simp only [List.mem_filter, Bool.not_eq_true', decide_eq_false_iff_not] at hp
    have hne : p ≠ z := fun e => hn (e ▸ hp.1)
    exact ⟨by omega, (h.pr p hp.1).2⟩) (by omega)
  have h4 := cnt_split T.prim z
  have h5 : (cnt T.prim z : Int) ≤ z := by unfold cnt; omega
  unfold Tab.first at h3
  omega
theorem Tab.Ok.prim_blk (h : T.Ok) {z : Int} (hz : z ∈ T.prim) : T.blk z = none := Tab.blk_none fun b hb e => (h.phys_range (b := b) (by omega) (by omega)).2.2 (e ▸ hz)
theorem Tab.Ok.moved_blk (h : T.Ok) {b : Int} {s : Nat} (hb : T.mv b = some s) : T.blk (hmK T.prim b) = none := Tab.blk_none fun c hc e => by
  have h1 := h.mr b s hb
  have h2 := h.home h1.1 h1.2.1
  unfold Tab.phys at e
  split at e
  · next t ht => omega
  · next hn =>
    have h3 := (hmK_spec h.ps c).2
    have h4 := (hmK_spec h.ps b).2
    rw [e] at h3
    have : (c : Int) = b := by omega
    rw [this, hb] at hn
    cases hn
/-- what 'Bad' collects -/
theorem Tab.Ok.bad_iff (h : T.Ok) (z : Int) : z ∈ T.bad ↔ z ∈ T.prim ∨ (∃ b s, T.mv b = some s ∧ z = hmK T.prim b) ∨ ∃ i : Nat, i < T.used ∧ z = (T.first : Int) + i ∧ T.blk z = none := by
  rw [Tab.mem_bad]
  constructor
  · rintro ⟨h1, h2, h3⟩
    by_cases hf : z < T.first
    · by_cases hp : z ∈ T.prim
      · exact .inl hp
      · have hr := h.home_range h1 hf hp
        have hb := h.blk_home hf
        rw [h3] at hb
        refine .inr (.inl ?_)
        cases e : T.mv (z - cnt T.prim z) with
        | none =>
          rw [e] at hb
          rw [if_neg (fun hc => by
            rcases hc with hc | hc | hc
            · exact hp hc
            · cases hc
            · exact hc hr)] at hb
          cases hb
        | some s => exact ⟨_, s, e, (hmK_inv h.ps hp).symm⟩
    · exact .inr (.inr ⟨(z - T.first).toNat, by omega, by omega, h3⟩)
  · rintro (h1 | ⟨b, s, hb, rfl⟩ | ⟨i, hi, rfl, hn⟩)
    · have := h.pr z h1
      exact ⟨this.1, by omega, h.prim_blk h1⟩
    · have h1 := h.mr b s hb
      have h2 := h.home h1.1 h1.2.1
      exact ⟨h2.1, by omega, h.moved_blk hb⟩
    · exact ⟨by omega, by omega, hn⟩
end
/-- sorted, and the same members: the same list -/
theorem sort_same {l m : List Int} (hl : l.Nodup) (hm : m.Pairwise (· < ·)) (h : ∀ z, z ∈ l ↔ z ∈ m) : l.mergeSort (fun x y => decide (x ≤ y)) = m := by
  have hmn : m.Nodup := hm.imp fun h e => by omega
  have hp : l.Perm m := (List.perm_ext_iff_of_nodup hl hmn).2 h
  have hs : (l.mergeSort (fun x y => decide (x ≤ y))).Pairwise (· ≤ ·) := by
    have := List.pairwise_mergeSort (le := fun x y : Int => decide (x ≤ y)) (fun a b c h1 h2 => by simp at h1 h2 ⊢; omega) (fun a b => by simp; omega) l
    exact this.imp fun h => by simpa using h
  exact ((List.mergeSort_perm l _).trans hp).eq_of_pairwise (le := (· ≤ ·)) (fun a b _ _ h1 h2 => by omega) hs (hm.imp Int.le_of_lt)
end Go.Proofs.Ytjnedcncfdpjoaa.D13
