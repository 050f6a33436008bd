/- Chapter 13: the law DefectPartition in plain words. No program is named here. -/
import Derived.Test.YtjnedcncfdpjoaaEb
namespace Go.Proofs.Ytjnedcncfdpjoaa.D13
set_option linter.unusedVariables false

/-- how often each sector is met -/
def uN (N : Nat) (f : Nat → Int) : List Int := (List.range N).map f
theorem uN_length (N : Nat) (f : Nat → Int) : (uN N f).length = N := by simp [uN]
theorem uN_get {N i : Nat} (f : Nat → Int) (h : i < N) : (uN N f)[i]? = some (f i) := by simp [uN, h]
theorem uN_congr {N : Nat} {f h : Nat → Int} (e : ∀ x, x < N → f x = h x) : uN N f = uN N h := List.map_congr_left fun x hx => e x (List.mem_range.1 hx)
theorem uN_set {N s : Nat} (f : Nat → Int) (v : Int) : (uN N f).set s v = uN N (fun x => if x = s then v else f x) := by
  apply List.ext_getElem?
  intro i
  by_cases hi : i < N
  · rw [uN_get _ hi]
    by_cases e : i = s
    · subst e
      rw [List.getElem?_set_self (by rw [uN_length]; exact hi), if_pos rfl]
    · rw [List.getElem?_set_ne (Ne.symm e), uN_get _ hi, if_neg e]
  · rw [List.getElem?_eq_none (by rw [List.length_set, uN_length]; omega), List.getElem?_eq_none (by rw [uN_length]; omega)]
/-- behind the first 'k' blocks -/
def met (T : Tab) (k x : Nat) : Int := if (List.range k).any (fun b : Nat => T.phys b == (x : Int)) = true then 1 else 0
/-- .. and the first 'm' bad sectors -/
def met2 (T : Tab) (m x : Nat) : Int := met T T.blocks x + if (x : Int) ∈ T.bad.take m then 1 else 0
section
variable {T : Tab}
theorem Tab.Ok.met_step (h : T.Ok) {k s : Nat} (hk : k < T.blocks) (hs : T.phys k = s) (x : Nat) : met T (k + 1) x = if x = s then met T k x + 1 else met T k x := by
  unfold met
  rw [List.range_succ, List.any_append]
  simp only [List.any_cons, List.any_nil, Bool.or_false]
  by_cases e : x = s
  · subst e
    have h1 : (List.range k).any (fun b : Nat => T.phys b == (x : Int)) = false := by
      rw [List.any_eq_false]
      intro b hb
      have hb' := List.mem_range.1 hb
      simp only [beq_iff_eq]
      intro e
      have := h.phys_inj (b := b) (c := k) (by omega) (by omega) (by omega) (by omega) (e.trans hs.symm)
      omega
    have h2 : (T.phys k == (x : Int)) = true := by rw [beq_iff_eq]; exact hs
    rw [h1, h2, if_pos rfl]; rfl
  · have h2 : (T.phys k == (x : Int)) = false := by rw [beq_eq_false_iff_ne]; omega
    rw [h2, Bool.or_false, if_neg e]
theorem met2_zero (T : Tab) (x : Nat) : met2 T 0 x = met T T.blocks x := by unfold met2; simp
theorem met_none (x : Nat) : met T T.blocks x = if (T.blk (x : Int)).isSome = true then 1 else 0 := by
  unfold met Tab.blk
  rw [List.isSome_find?]
theorem met2_end (x : Nat) : met2 T T.bad.length x = if x < T.first + T.used ∨ (T.blk (x : Int)).isSome = true then 1 else 0 := by
  unfold met2
  rw [List.take_length, met_none]
  have hm := Tab.mem_bad (T := T) (z := (x : Int))
  cases e : T.blk (x : Int) with
  | none =>
    rw [e] at hm
    by_cases hx : x < T.first + T.used
    · have hb : (x : Int) ∈ T.bad := hm.2 ⟨by omega, by omega, rfl⟩
      simp [hb, hx]
    · have hb : (x : Int) ∉ T.bad := fun h => hx (by have := (hm.1 h).2.1; omega)
      simp [hb, hx]
  | some b =>
    rw [e] at hm
    have hb : (x : Int) ∉ T.bad := fun h => by cases (hm.1 h).2.2
    simp [hb]
theorem met2_step {m s : Nat} (hm : m < T.bad.length) (hs : T.bad[m] = (s : Int)) (x : Nat) : met2 T (m + 1) x = if x = s then met2 T m x + 1 else met2 T m x := by
  unfold met2
  have hnd := T.bad_sorted
  rw [List.take_succ_eq_append_getElem hm, hs]
  have hnot : (s : Int) ∉ T.bad.take m := fun h => by
    obtain ⟨j, hj, e⟩ := List.getElem_of_mem h
    rw [List.getElem_take] at e
    rw [List.length_take] at hj
    have := List.pairwise_iff_getElem.1 hnd j m (by omega) hm (by omega)
    omega
  by_cases e : x = s
  · subst e
    simp [hnot]
  · have : (x : Int) ≠ s := by omega
    simp [e, this]
end
end Go.Proofs.Ytjnedcncfdpjoaa.D13
