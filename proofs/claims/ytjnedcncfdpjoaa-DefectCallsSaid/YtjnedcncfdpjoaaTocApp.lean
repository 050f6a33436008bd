/- Tables of contents (chapter 14): which blocks are appended. -/
import Derived.Test.YtjnedcncfdpjoaaTocStep
namespace Go.Proofs.Ytjnedcncfdpjoaa.T
set_option linter.unusedVariables false

/-- the block 'k' is appended -/
def Done (l : List Trk) (k : Int) : Prop := ∃ i, i < l.length ∧ (tr l i).st ≤ k ∧ k < (tr l i).nx
theorem done_nil (k : Int) : ¬ Done [] k := fun ⟨i, h, _⟩ => by simp at h

section
variable {cap cl : Int} {l : List Trk} {n : Nat}
theorem ends_mono (h : ∀ i, i < n → okR cap cl l i) (i : Nat) : ∀ d, i + d ≤ n → eB l i ≤ eB l (i + d)
  | 0, _ => by rw [Nat.add_zero]; omega
  | d + 1, hd => by
    have h1 := ends_mono h i d (by omega)
    have h2 := (h (i + d) (by omega)).next
    have e : i + (d + 1) = i + d + 1 := by omega
    rw [e]; omega
theorem okR.from {i : Nat} (h : okR cap cl l i) : eB l i ≤ (tr l i).st := by
  obtain ⟨_, _, _, _, g5, _⟩ := h
  split at g5 <;> omega
/-- tracks do not overlap -/
theorem apart (h : ∀ i, i < n → okR cap cl l i) {i j : Nat} (hij : i < j) (hj : j < n) : (tr l i).st + (tr l i).len ≤ (tr l j).st := by
  have h1 := ends_mono h (i + 1) (j - (i + 1)) (by omega)
  have e : i + 1 + (j - (i + 1)) = j := by omega
  rw [e, eB_succ] at h1
  have h2 := (h j hj).from
  omega
theorem only (h : ∀ i, i < n → okR cap cl l i) {i j : Nat} (hi : i < n) (hj : j < n) {k : Int} (h1 : (tr l i).st ≤ k) (h2 : k < (tr l i).st + (tr l i).len) (h3 : (tr l j).st ≤ k) (h4 : k < (tr l j).st + (tr l j).len) : i = j := by
  rcases Nat.lt_trichotomy i j with g | g | g
  · have := apart h g hj; omega
  · exact g
  · have := apart h g hi; omega
end
section
variable {cap cl : Int} {fin : Bool} {l : List Trk}
theorem validR.at (hv : validR cap cl fin l) {i : Nat} (hi : i < l.length) : (tr l i).num = i + 1 ∧ 0 ≤ (tr l i).st ∧ (tr l i).st + (tr l i).len ≤ cap ∧ (tr l i).st ≤ (tr l i).nx ∧ (tr l i).nx ≤ (tr l i).st + (tr l i).len := by
  have ho := hv.2.2.2.2.2.1 i hi
  have h1 := ho.from
  have h2 := okR.ends hv.2.2.2.2.2.1 i (by omega)
  obtain ⟨o1, o2, o3, o4, o5, o6, o7, o8, o9, o10, o11, o12, o13, o14⟩ := ho
  exact ⟨o1, by omega, by omega, o10, o11⟩
theorem fresh (hv : validR cap cl fin l) {i : Nat} (hi : i < l.length) {k : Int} (h1 : (tr l i).nx ≤ k) (h2 : k < (tr l i).st + (tr l i).len) : ¬ Done l k := by
  rintro ⟨j, hj, h3, h4⟩
  have a := hv.at hi
  have b := hv.at hj
  obtain rfl : i = j := only hv.2.2.2.2.2.1 hi hj (k := k) (by omega) h2 h3 (by omega)
  omega
theorem done_grown {i : Nat} (hi : i < l.length) (c : Int) (hc : 1 ≤ c) (hst : (tr l i).st ≤ (tr l i).nx) (k : Int) : Done (l.set i (grown (tr l i) c)) k ↔ Done l k ∨ (tr l i).nx ≤ k ∧ k < (tr l i).nx + c := by
  constructor
  · rintro ⟨j, hj, h1, h2⟩
    rw [List.length_set] at hj
    by_cases e : j = i
    · subst e
      rw [tr_set_eq _ _ _ hi] at h1 h2
      unfold grown at h1 h2
      simp only at h1 h2
      by_cases g : k < (tr l j).nx
      · exact .inl ⟨j, hj, h1, g⟩
      · exact .inr (by omega)
    · rw [tr_set_ne _ _ _ _ e] at h1 h2
      exact .inl ⟨j, hj, h1, h2⟩
  · rintro (⟨j, hj, h1, h2⟩ | ⟨h1, h2⟩)
    · refine ⟨j, by rw [List.length_set]; exact hj, ?_⟩
      by_cases e : j = i
      · subst e
        rw [tr_set_eq _ _ _ hi]
        unfold grown; simp only; omega
      · rw [tr_set_ne _ _ _ _ e]; exact ⟨h1, h2⟩
    · refine ⟨i, by rw [List.length_set]; exact hi, ?_⟩
      rw [tr_set_eq _ _ _ hi]
      unfold grown; simp only; omega
theorem done_set {i : Nat} (hi : i < l.length) (x : Trk) (h1 : x.st = (tr l i).st) (h2 : x.nx = (tr l i).nx) (k : Int) : Done (l.set i x) k ↔ Done l k := by
  have key : ∀ j, (tr (l.set i x) j).st = (tr l j).st ∧ (tr (l.set i x) j).nx = (tr l j).nx := fun j => by
    by_cases e : j = i
    · subst e; rw [tr_set_eq _ _ _ hi]; exact ⟨h1, h2⟩
    · rw [tr_set_ne _ _ _ _ e]; exact ⟨rfl, rfl⟩
  unfold Done
  constructor
  · rintro ⟨j, hj, g1, g2⟩
    rw [(key j).1] at g1; rw [(key j).2] at g2; rw [List.length_set] at hj
    exact ⟨j, hj, g1, g2⟩
  · rintro ⟨j, hj, g1, g2⟩
    refine ⟨j, by rw [List.length_set]; exact hj, ?_⟩
    rw [(key j).1, (key j).2]; exact ⟨g1, g2⟩
theorem done_new (x : Trk) (h : x.nx = x.st) (k : Int) : Done (l ++ [x]) k ↔ Done l k := by
  constructor
  · rintro ⟨j, hj, g1, g2⟩
    rw [List.length_append] at hj
    by_cases e : j < l.length
    · rw [tr_append_lt _ _ _ e] at g1 g2
      exact ⟨j, e, g1, g2⟩
    · obtain rfl : j = l.length := by simp at hj; omega
      rw [tr_append_eq] at g1 g2
      omega
  · rintro ⟨j, hj, g1, g2⟩
    refine ⟨j, by simp; omega, ?_⟩
    rw [tr_append_lt _ _ _ hj]; exact ⟨g1, g2⟩
end
theorem valid_nil {cap : Int} (h1 : 1 ≤ cap) (h2 : cap ≤ 449849) : validR cap 0 false [] := by
  refine ⟨h1, h2, by simp, by omega, by omega, fun i hi => by simp at hi, by simp, fun h => by cases h⟩
end Go.Proofs.Ytjnedcncfdpjoaa.T
