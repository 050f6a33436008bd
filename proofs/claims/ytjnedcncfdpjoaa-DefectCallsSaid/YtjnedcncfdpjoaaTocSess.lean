/- Tables of contents (chapter 14): the list of sessions; closed sessions keep their entries. -/
import Derived.Test.YtjnedcncfdpjoaaTocOps
namespace Go.Proofs.Ytjnedcncfdpjoaa.T
set_option linter.unusedVariables false

/-- the sessions of the first 'n' tracks: start, count, closed -/
def sess (cl : Int) (l : List Trk) : Nat → List (Int × Int × Bool)
  | 0 => []
  | n + 1 =>
    if n = 0 ∨ sB l n ≠ (tr l n).ses then sess cl l n ++ [((tr l n).st, (tr l n).st + (tr l n).len - (tr l n).st, decide ((tr l n).ses ≤ cl))]
    else (sess cl l n).set ((sess cl l n).length - 1) ((((sess cl l n)[(sess cl l n).length - 1]?).getD (0, 0, false)).1, (tr l n).st + (tr l n).len - (((sess cl l n)[(sess cl l n).length - 1]?).getD (0, 0, false)).1, (((sess cl l n)[(sess cl l n).length - 1]?).getD (0, 0, false)).2.2)
theorem sess_new {cl : Int} {l : List Trk} {n : Nat} (h : n = 0 ∨ sB l n ≠ (tr l n).ses) : sess cl l (n + 1) = sess cl l n ++ [((tr l n).st, (tr l n).st + (tr l n).len - (tr l n).st, decide ((tr l n).ses ≤ cl))] := by
  rw [sess, if_pos h]
theorem sess_old {cl : Int} {l : List Trk} {n : Nat} (h : ¬ (n = 0 ∨ sB l n ≠ (tr l n).ses)) : ∃ x, sess cl l (n + 1) = (sess cl l n).set ((sess cl l n).length - 1) x := by
  rw [sess, if_neg h]; exact ⟨_, rfl⟩
theorem sess_length {cap cl c2 : Int} {l : List Trk} : ∀ n : Nat, (∀ i, i < n → okR cap cl l i) → 0 < n → ((sess c2 l n).length : Int) = sB l n
  | 0, _, h => by omega
  | n + 1, h, _ => by
    obtain ⟨_, g2, _⟩ := h n (by omega)
    rw [sB_succ]
    by_cases hn : n = 0 ∨ sB l n ≠ (tr l n).ses
    · rw [sess_new hn, List.length_append, List.length_singleton]
      by_cases h0 : n = 0
      · subst h0
        rw [if_neg (by omega), sB_zero] at g2
        rw [g2]; rfl
      · have ih := sess_length (c2 := c2) n (fun i hi => h i (by omega)) (by omega)
        split at g2 <;> omega
    · obtain ⟨x, hx⟩ := sess_old (cl := c2) hn
      rw [hx, List.length_set]
      have ih := sess_length (c2 := c2) n (fun i hi => h i (by omega)) (by omega)
      omega
theorem sess_take {cap cl c2 : Int} {l : List Trk} {m : Nat} : ∀ n : Nat, (∀ i, i < n → okR cap cl l i) → m ≤ n → (∀ i, m ≤ i → i < n → 0 < m → sB l m < (tr l i).ses) → (sess c2 l n).take (sess c2 l m).length = sess c2 l m
  | 0, _, hm, _ => by obtain rfl : m = 0 := by omega
                      simp
  | n + 1, h, hm, hs => by
    by_cases e : m = n + 1
    · subst e; simp
    · have ih := sess_take (c2 := c2) n (fun i hi => h i (by omega)) (by omega) (fun i h1 h2 => hs i h1 (by omega))
      have hle : (sess c2 l m).length ≤ (sess c2 l n).length := by
        rw [← ih, List.length_take]; omega
      by_cases hn : n = 0 ∨ sB l n ≠ (tr l n).ses
      · rw [sess_new hn, List.take_append_of_le_length hle]
        exact ih
      · obtain ⟨x, hx⟩ := sess_old (cl := c2) hn
        rw [hx]
        have hlt : (sess c2 l m).length ≤ (sess c2 l n).length - 1 := by
          by_cases h0 : m = 0
          · subst h0; simp [sess]
          · have h1 := hs n (by omega) (by omega) (by omega)
            have h2 := sess_length (c2 := c2) n (fun i hi => h i (by omega)) (by omega)
            have h3 := sess_length (c2 := c2) m (fun i hi => h i (by omega)) (by omega)
            omega
        rw [List.take_set_of_le hlt]
        exact ih
theorem sess_congr {c1 c2 : Int} {l l' : List Trk} : ∀ n : Nat, (∀ i, i < n → tr l i = tr l' i) → (∀ i, i < n → ((tr l i).ses ≤ c1 ↔ (tr l i).ses ≤ c2)) → sess c1 l n = sess c2 l' n
  | 0, _, _ => rfl
  | n + 1, h, hc => by
    have ih := sess_congr n (fun i hi => h i (by omega)) (fun i hi => hc i (by omega))
    have hsb : sB l n = sB l' n := by
      cases n with
      | zero => rfl
      | succ k => rw [sB_succ, sB_succ, h k (by omega)]
    have hd : decide ((tr l n).ses ≤ c1) = decide ((tr l n).ses ≤ c2) := decide_eq_decide.2 (hc n (by omega))
    rw [sess, sess, ih, hsb, ← h n (by omega), hd]
/-- how many tracks lie in closed sessions -/
theorem closed_count {cap cl : Int} {fin : Bool} {l : List Trk} (hv : validR cap cl fin l) : ∃ m, m ≤ l.length ∧ (∀ i, i < m → (tr l i).ses ≤ cl) ∧ (∀ i, m ≤ i → i < l.length → cl < (tr l i).ses) := by
  obtain ⟨_, _, _, _, _, g6, _, _⟩ := hv
  suffices H : ∀ n, n ≤ l.length → ∃ m, m ≤ n ∧ (∀ i, i < m → (tr l i).ses ≤ cl) ∧ (∀ i, m ≤ i → i < n → cl < (tr l i).ses) from H _ (Nat.le_refl _)
  intro n
  induction n with
  | zero => intro _; exact ⟨0, by omega, fun i hi => by omega, fun i h1 h2 => by omega⟩
  | succ n ih =>
    intro hn
    obtain ⟨m, h1, h2, h3⟩ := ih (by omega)
    by_cases hs : (tr l n).ses ≤ cl
    · refine ⟨n + 1, by omega, fun i hi => ?_, fun i h4 h5 => by omega⟩
      have h4 := okR.mono g6 (i + 1) (n - i) (by omega)
      have e : i + 1 + (n - i) = n + 1 := by omega
      rw [e, sB_succ, sB_succ] at h4
      omega
    · refine ⟨m, by omega, h2, fun i h4 h5 => ?_⟩
      by_cases e : i = n
      · rw [e]; omega
      · exact h3 i h4 (by omega)
theorem closed_sess {cap cl c2 : Int} {fin : Bool} {l : List Trk} {m : Nat} (hv : validR cap cl fin l) (hm : m ≤ l.length) (h1 : ∀ i, i < m → (tr l i).ses ≤ cl) (h2 : ∀ i, m ≤ i → i < l.length → cl < (tr l i).ses) :
    ((sess c2 l m).length : Int) = cl ∧ (sess c2 l l.length).take (sess c2 l m).length = sess c2 l m := by
  obtain ⟨_, _, _, g4, _, g6, g7, _⟩ := hv
  have hlen : ((sess c2 l m).length : Int) = cl := by
    by_cases h0 : m = 0
    · subst h0
      have : cl = 0 := by
        by_cases hl : 0 < l.length
        · have h3 := h2 0 (by omega) hl
          have h4 := (g6 0 hl).2.1
          rw [if_neg (by omega), sB_zero] at h4
          omega
        · rw [if_neg hl] at g7; omega
      rw [this]; rfl
    · have h3 := sess_length (c2 := c2) m (fun i hi => g6 i (by omega)) (by omega)
      obtain ⟨k, hk⟩ : ∃ k, m = k + 1 := ⟨m - 1, by omega⟩
      have h4 := h1 k (by omega)
      have h5 : sB l m = (tr l k).ses := by rw [hk, sB_succ]
      by_cases hl : m < l.length
      · have h6 := h2 m (by omega) hl
        have h7 := (g6 m hl).next
        rw [sB_succ] at h7
        omega
      · obtain rfl : m = l.length := by omega
        rw [if_pos (by omega)] at g7
        omega
  refine ⟨hlen, sess_take _ (fun i hi => g6 i hi) hm (fun i h3 h4 h5 => ?_)⟩
  have h6 := h2 i h3 h4
  have h7 := sess_length (c2 := c2) m (fun i hi => g6 i (by omega)) h5
  omega
end Go.Proofs.Ytjnedcncfdpjoaa.T
