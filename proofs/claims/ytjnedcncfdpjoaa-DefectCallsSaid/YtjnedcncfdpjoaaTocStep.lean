/- Tables of contents (chapter 14): one operation, as a relation; what it keeps. -/
import Derived.Test.YtjnedcncfdpjoaaTocSess
namespace Go.Proofs.Ytjnedcncfdpjoaa.T
set_option linter.unusedVariables false

/-- one operation that ends without an error, from a valid table -/
def Step (cap cl : Int) (fin : Bool) (l : List Trk) (cl' : Int) (fin' : Bool) (l' : List Trk) : Prop :=
  fin = false ∧ cl' = cl ∧ fin' = fin ∧ (∃ count pk, okPk count pk ∧ l.length < 99 ∧ cl < 16 ∧ count ≤ cap - stN cl l ∧ l' = l ++ [newT cl l count pk]) ∨
  cl' = cl ∧ fin' = fin ∧ (∃ k count, k < l.length ∧ (tr l k).sta ≠ 2 ∧ okPk count (tr l k).pk ∧ count ≤ (tr l k).st + (tr l k).len - (tr l k).nx ∧ l' = l.set k (grown (tr l k) count)) ∨
  cl' = cl ∧ fin' = fin ∧ (∃ k, k < l.length ∧ (tr l k).sta = 1 ∧ (k + 1 < l.length → (tr l k).nx = (tr l k).st + (tr l k).len) ∧ l' = l.set k (shutT (tr l k))) ∨
  fin = false ∧ cl' = cl + 1 ∧ l' = l ∧ (∀ i, i < l.length → (tr l i).sta = 2) ∧ (∃ i, i < l.length ∧ cl < (tr l i).ses) ∨
  fin = false ∧ cl' = cl ∧ fin' = true ∧ l' = l ∧ cl ≠ 0 ∧ (∀ i, i < l.length → (tr l i).sta = 2) ∧ (∀ i, i < l.length → (tr l i).ses ≤ cl)
theorem Step.valid {cap cl cl' : Int} {fin fin' : Bool} {l l' : List Trk} (hv : validR cap cl fin l) (h : Step cap cl fin l cl' fin' l') : validR cap cl' fin' l' := by
  rcases h with ⟨h0, rfl, rfl, c, pk, h1, h2, h3, h4, rfl⟩ | ⟨rfl, rfl, k, c, h1, h2, h3, h4, rfl⟩ | ⟨rfl, rfl, k, h1, h2, h3, rfl⟩ | ⟨h0, rfl, rfl, h1, h2⟩ | ⟨h0, rfl, rfl, rfl, h1, h2, h3⟩
  · exact reserve_valid hv h0 h1 h2 h3 h4
  · exact append_valid hv h1 h2 h3 h4
  · exact shut_valid hv h1 h2 h3
  · exact close_valid _ hv h1 h2
  · exact final_valid hv h1 h3
/-- what becomes of a track that was there -/
def Kept (x y : Trk) : Prop := (x.sta = 2 → y = x) ∧ x.nx ≤ y.nx ∧ y.st = x.st ∧ y.ses = x.ses ∧ y.len ≤ x.len
theorem Kept.refl (x : Trk) : Kept x x := ⟨fun _ => rfl, Int.le_refl _, rfl, rfl, Int.le_refl _⟩
theorem Step.kept {cap cl cl' : Int} {fin fin' : Bool} {l l' : List Trk} (hv : validR cap cl fin l) (h : Step cap cl fin l cl' fin' l') : l.length ≤ l'.length ∧ cl ≤ cl' ∧ cl' ≤ cl + 1 ∧ ∀ i, i < l.length → Kept (tr l i) (tr l' i) := by
  rcases h with ⟨h0, rfl, rfl, c, pk, h1, h2, h3, h4, rfl⟩ | ⟨rfl, rfl, k, c, h1, h2, h3, h4, rfl⟩ | ⟨rfl, rfl, k, h1, h2, h3, rfl⟩ | ⟨h0, rfl, rfl, h1, h2⟩ | ⟨h0, rfl, rfl, rfl, h1, h2, h3⟩
  · refine ⟨by simp, by omega, by omega, fun i hi => ?_⟩
    rw [tr_append_lt _ _ _ hi]
    exact Kept.refl _
  · refine ⟨by simp, by omega, by omega, fun i hi => ?_⟩
    by_cases e : i = k
    · subst e
      rw [tr_set_eq _ _ _ h1]
      have hp := h3.1
      refine ⟨fun e2 => absurd e2 h2, ?_, rfl, rfl, Int.le_refl _⟩
      unfold grown; simp only; omega
    · rw [tr_set_ne _ _ _ _ e]
      exact Kept.refl _
  · refine ⟨by simp, by omega, by omega, fun i hi => ?_⟩
    by_cases e : i = k
    · subst e
      rw [tr_set_eq _ _ _ h1]
      have ho := hv.2.2.2.2.2.1 i h1
      obtain ⟨o1, o2, o3, o4, o5, o6, o7, o8, o9, o10, o11, o12, o13, o14⟩ := ho
      refine ⟨fun e2 => by omega, Int.le_refl _, rfl, rfl, ?_⟩
      unfold shutT; simp only; omega
    · rw [tr_set_ne _ _ _ _ e]
      exact Kept.refl _
  · exact ⟨Nat.le_refl _, by omega, by omega, fun i _ => Kept.refl _⟩
  · exact ⟨Nat.le_refl _, by omega, by omega, fun i _ => Kept.refl _⟩
/-- closed sessions keep their entries -/
theorem Step.sess {cap cl cl' : Int} {fin fin' : Bool} {l l' : List Trk} (hv : validR cap cl fin l) (h : Step cap cl fin l cl' fin' l') :
    ∃ S, ((S.length : Nat) : Int) = cl ∧ (T.sess cl l l.length).take S.length = S ∧ (T.sess cl' l' l'.length).take S.length = S := by
  have hv' := h.valid hv
  obtain ⟨hle, hc1, hc2, hk⟩ := h.kept hv
  obtain ⟨m, hm, h1, h2⟩ := closed_count hv
  obtain ⟨s1, s2⟩ := closed_sess (c2 := cl) hv hm h1 h2
  have hsame : ∀ i, i < m → tr l i = tr l' i := fun i hi => ((hk i (by omega)).1 ((hv.2.2.2.2.2.1 i (by omega)).2.2.2.2.2.2.2.2.2.2.2.2.2 (h1 i hi))).symm
  have hcg : T.sess cl l m = T.sess cl' l' m := sess_congr m hsame (fun i hi => by have := h1 i hi; omega)
  refine ⟨T.sess cl l m, s1, s2, ?_⟩
  rw [hcg]
  have g6' := hv'.2.2.2.2.2.1
  refine sess_take _ (fun i hi => g6' i hi) (by omega) (fun i h3 h4 h5 => ?_)
  -- behind the closed tracks every session is greater
  have hsb : sB l' m = sB l m := by
    obtain ⟨k, hkk⟩ : ∃ k, m = k + 1 := ⟨m - 1, by omega⟩
    rw [hkk, sB_succ, sB_succ, hsame k (by omega)]
  have hml : sB l m ≤ cl := by
    obtain ⟨k, hkk⟩ : ∃ k, m = k + 1 := ⟨m - 1, by omega⟩
    rw [hkk, sB_succ]; exact h1 k (by omega)
  rw [hsb]
  by_cases hil : i < l.length
  · have h6 := h2 i h3 hil
    rw [(hk i hil).2.2.2.1]
    omega
  · rcases h with ⟨h0, rfl, rfl, c, pk, q1, q2, q3, q4, rfl⟩ | ⟨rfl, rfl, k, c, q1, q2, q3, q4, rfl⟩ | ⟨rfl, rfl, k, q1, q2, q3, rfl⟩ | ⟨h0, rfl, rfl, q1, q2⟩ | ⟨h0, rfl, rfl, rfl, q1, q2, q3⟩
    · have hll : (l ++ [newT cl' l c pk]).length = l.length + 1 := by simp
      obtain rfl : i = l.length := by omega
      rw [tr_append_eq]
      unfold newT; simp only; omega
    · simp at h4; omega
    · simp at h4; omega
    · omega
    · omega
end Go.Proofs.Ytjnedcncfdpjoaa.T
