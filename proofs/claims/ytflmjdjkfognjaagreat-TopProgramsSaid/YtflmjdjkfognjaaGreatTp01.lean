/- Shaken out of XTocOps XTocSess XTocStep XTocApp XQ XCrc -/
import Derived.Test.YtflmjdjkfognjaaGreatTp00
namespace Go.Proofs.YtflmjdjkfognjaaGreat.T
set_option linter.unusedVariables false
theorem tr_append_lt (l m : List Trk) (i : Nat) (h : i < l.length) : tr (l ++ m) i = tr l i := by
  unfold tr; rw [List.getElem?_append_left h]
theorem tr_append_eq (l : List Trk) (x : Trk) : tr (l ++ [x]) l.length = x := by
  unfold tr; rw [List.getElem?_append_right (Nat.le_refl _)]; simp
theorem eB_append (l m : List Trk) (i : Nat) (h : i ≤ l.length) : eB (l ++ m) i = eB l i := by
  cases i with
  | zero => rfl
  | succ i => rw [eB_succ, eB_succ, tr_append_lt _ _ _ (by omega)]
theorem sB_append (l m : List Trk) (i : Nat) (h : i ≤ l.length) : sB (l ++ m) i = sB l i := by
  cases i with
  | zero => rfl
  | succ i => rw [sB_succ, sB_succ, tr_append_lt _ _ _ (by omega)]
theorem tr_set_ne (l : List Trk) (x : Trk) (i k : Nat) (h : i ≠ k) : tr (l.set k x) i = tr l i := by
  unfold tr; rw [List.getElem?_set_ne (fun e => h e.symm)]
theorem tr_set_eq (l : List Trk) (x : Trk) (k : Nat) (h : k < l.length) : tr (l.set k x) k = x := by
  unfold tr; rw [List.getElem?_set_self h]; rfl
/-- whole packets -/
def okPk (count pk : Int) : Prop := 1 ≤ count ∧ 0 ≤ pk ∧ pk ≤ 1024 ∧ (0 < pk → count.tmod pk = 0)
/-- the first block of a further track -/
def stN (cl : Int) (l : List Trk) : Int := if l.length = 0 then 0 else if sB l l.length ≤ cl then eB l l.length + 16 else eB l l.length
def newT (cl : Int) (l : List Trk) (count pk : Int) : Trk := ⟨l.length + 1, cl + 1, stN cl l, count, stN cl l, 0, pk⟩
theorem reserve_valid {cap cl : Int} {fin : Bool} {l : List Trk} {count pk : Int} (hv : validR cap cl fin l) (hf : fin = false) (hp : okPk count pk) (hn : l.length < 99) (hc : cl < 16) (hr : count ≤ cap - stN cl l) :
    validR cap cl fin (l ++ [newT cl l count pk]) := by
  obtain ⟨g1, g2, g3, g4, g5, g6, g7, g8⟩ := hv
  obtain ⟨p1, p2, p3, p4⟩ := hp
  have hl : (l ++ [newT cl l count pk]).length = l.length + 1 := by simp
  have hlast : 0 < l.length → sB l l.length ≤ cl + 1 := fun h => by
    obtain ⟨m, hm⟩ : ∃ m, l.length = m + 1 := ⟨l.length - 1, by omega⟩
    have h9 := (g6 m (by omega)).2.2.1
    rw [hm, sB_succ]; exact h9
  refine ⟨g1, g2, by omega, g4, g5, fun i hi => ?_, ?_, fun h => by rw [hf] at h; cases h⟩
  · rw [hl] at hi
    unfold okR
    rw [eB_append _ _ _ (by omega), sB_append _ _ _ (by omega)]
    by_cases h : i < l.length
    · rw [tr_append_lt _ _ _ h]
      exact g6 i h
    · obtain rfl : i = l.length := by omega
      rw [tr_append_eq]
      have hz : l.length = 0 → sB l l.length = 1 ∧ eB l l.length = 0 := fun h => by rw [h]; exact ⟨rfl, rfl⟩
      have hz2 : ((0 : Int)).tmod pk = 0 := Int.zero_tmod _
      unfold newT stN at *
      simp only
      refine ⟨trivial, ?_, by omega, by omega, ?_, p1, hr, p2, p3, by omega, by omega, fun h => ⟨p4 h, ?_⟩, .inr (.inl ⟨trivial, trivial⟩), fun h => by omega⟩
      · by_cases h0 : l.length = 0
        · have := hz h0
          rw [if_neg (by omega)] at g7 ⊢
          omega
        · rw [if_pos (by omega)] at g7
          have := hlast (by omega)
          split <;> omega
      · by_cases h0 : l.length = 0
        · have := hz h0
          rw [if_pos h0, if_neg (by omega)]
          omega
        · rw [if_pos (by omega)] at g7
          have := hlast (by omega)
          rw [if_neg h0]
          split <;> split <;> omega
      · rw [Int.sub_self]; exact hz2
  · rw [hl, if_pos (by omega), sB_succ, tr_append_eq]
    unfold newT
    simp only
    omega
theorem set_valid {cap cl : Int} {fin : Bool} {l : List Trk} {k : Nat} (hv : validR cap cl fin l) (hk : k < l.length) (x : Trk) (h1 : x.num = (tr l k).num) (h2 : x.ses = (tr l k).ses) (h3 : x.st = (tr l k).st)
    (h4 : k + 1 < l.length → x.len = (tr l k).len) (h5 : 1 ≤ x.len) (h6 : x.len ≤ cap - x.st) (h7 : x.pk = (tr l k).pk) (h8 : x.st ≤ x.nx) (h9 : x.nx ≤ x.st + x.len)
    (h10 : 0 < x.pk → x.len.tmod x.pk = 0 ∧ (x.nx - x.st).tmod x.pk = 0) (h11 : x.sta = 2 ∧ x.nx = x.st + x.len ∨ x.sta = 0 ∧ x.nx = x.st ∨ x.sta = 1 ∧ x.nx ≠ x.st) (h12 : x.ses ≤ cl → x.sta = 2) : validR cap cl fin (l.set k x) := by
  obtain ⟨g1, g2, g3, g4, g5, g6, g7, g8⟩ := hv
  have hl : (l.set k x).length = l.length := by simp
  have hs : ∀ i, i ≤ l.length → sB (l.set k x) i = sB l i := fun i hi => by
    cases i with
    | zero => rfl
    | succ i =>
      rw [sB_succ, sB_succ]
      by_cases e : i = k
      · rw [e, tr_set_eq _ _ _ hk, h2]
      · rw [tr_set_ne _ _ _ _ e]
  have he : ∀ i, i < l.length → eB (l.set k x) i = eB l i := fun i hi => by
    cases i with
    | zero => rfl
    | succ i =>
      rw [eB_succ, eB_succ]
      by_cases e : i = k
      · rw [e, tr_set_eq _ _ _ hk, h3, h4 (by omega)]
      · rw [tr_set_ne _ _ _ _ e]
  refine ⟨g1, g2, by omega, g4, g5, fun i hi => ?_, by rw [hl, hs _ (Nat.le_refl _)]; exact g7, by rw [hl, hs _ (Nat.le_refl _)]; exact g8⟩
  rw [hl] at hi
  have ho := g6 i hi
  unfold okR at ho ⊢
  rw [he i hi, hs i (by omega)]
  by_cases e : i = k
  · subst e
    rw [tr_set_eq _ _ _ hk]
    obtain ⟨o1, o2, o3, o4, o5, o6, o7, o8, o9, o10, o11, o12, o13, o14⟩ := ho
    rw [← h1] at o1
    rw [← h2] at o2 o3 o4 o5
    rw [← h3] at o5
    rw [← h7] at o8 o9
    exact ⟨o1, o2, o3, o4, o5, h5, h6, o8, o9, h8, h9, h10, h11, h12⟩
  · rw [tr_set_ne _ _ _ _ e]
    exact ho
/-- a track to which blocks are appended -/
def grown (x : Trk) (count : Int) : Trk := { x with nx := x.nx + count, sta := 1 }
/-- a track that is closed -/
def shutT (x : Trk) : Trk := { x with sta := 2, len := x.nx - x.st }
theorem tmod_add_zero {a b c : Int} (h1 : a.tmod c = 0) (h2 : b.tmod c = 0) : (a + b).tmod c = 0 := by
  have e1 := Int.dvd_of_tmod_eq_zero h1
  have e2 := Int.dvd_of_tmod_eq_zero h2
  exact Int.tmod_eq_zero_of_dvd (Int.dvd_add e1 e2)
theorem append_valid {cap cl : Int} {fin : Bool} {l : List Trk} {k : Nat} {count : Int} (hv : validR cap cl fin l) (hk : k < l.length) (hs : (tr l k).sta ≠ 2) (hp : okPk count (tr l k).pk) (hc : count ≤ (tr l k).st + (tr l k).len - (tr l k).nx) :
    validR cap cl fin (l.set k (grown (tr l k) count)) := by
  have ho := hv.2.2.2.2.2.1 k hk
  obtain ⟨o1, o2, o3, o4, o5, o6, o7, o8, o9, o10, o11, o12, o13, o14⟩ := ho
  obtain ⟨p1, p2, p3, p4⟩ := hp
  unfold grown
  refine set_valid hv hk _ rfl rfl rfl (fun _ => rfl) o6 o7 rfl ?_ ?_ (fun h => ⟨(o12 h).1, ?_⟩) (.inr (.inr ⟨rfl, ?_⟩)) (fun h => absurd (o14 h) hs)
  · simp only; omega
  · simp only; omega
  · have e : (tr l k).nx + count - (tr l k).st = (tr l k).nx - (tr l k).st + count := by omega
    simp only
    rw [e]
    exact tmod_add_zero (o12 h).2 (p4 h)
  · simp only; omega
theorem shut_valid {cap cl : Int} {fin : Bool} {l : List Trk} {k : Nat} (hv : validR cap cl fin l) (hk : k < l.length) (hs : (tr l k).sta = 1) (hc : k + 1 < l.length → (tr l k).nx = (tr l k).st + (tr l k).len) :
    validR cap cl fin (l.set k (shutT (tr l k))) := by
  have ho := hv.2.2.2.2.2.1 k hk
  obtain ⟨o1, o2, o3, o4, o5, o6, o7, o8, o9, o10, o11, o12, o13, o14⟩ := ho
  unfold shutT
  have hne : (tr l k).nx ≠ (tr l k).st := by omega
  refine set_valid hv hk _ rfl rfl rfl (fun h => ?_) ?_ ?_ rfl o10 ?_ (fun h => ⟨(o12 h).2, (o12 h).2⟩) (.inl ⟨rfl, ?_⟩) (fun h => rfl)
  · have := hc h; simp only; omega
  · simp only; omega
  · simp only; omega
  · simp only; omega
  · simp only; omega
theorem close_valid {cap cl : Int} {fin : Bool} {l : List Trk} (f : Bool) (hv : validR cap cl fin l) (ha : ∀ i, i < l.length → (tr l i).sta = 2) (ho : ∃ i, i < l.length ∧ cl < (tr l i).ses) : validR cap (cl + 1) f l := by
  obtain ⟨g1, g2, g3, g4, g5, g6, g7, g8⟩ := hv
  obtain ⟨i, hi, hc⟩ := ho
  have h1 := okR.mono g6 (i + 1) (l.length - (i + 1)) (by omega)
  have e : i + 1 + (l.length - (i + 1)) = l.length := by omega
  rw [e, sB_succ] at h1
  have hi16 := (g6 i hi).2.2.2.1
  have hlast : sB l l.length ≤ cl + 1 := by
    obtain ⟨m, hm⟩ : ∃ m, l.length = m + 1 := ⟨l.length - 1, by omega⟩
    have h9 := (g6 m (by omega)).2.2.1
    rw [hm, sB_succ]; exact h9
  refine ⟨g1, g2, g3, by omega, by omega, fun j hj => ?_, by rw [if_pos (by omega)]; omega, fun _ => ⟨by omega, by rw [if_pos (by omega)]; omega⟩⟩
  have ho := g6 j hj
  unfold okR at ho ⊢
  obtain ⟨o1, o2, o3, o4, o5, o6, o7, o8, o9, o10, o11, o12, o13, o14⟩ := ho
  exact ⟨o1, o2, by omega, o4, o5, o6, o7, o8, o9, o10, o11, o12, o13, fun _ => ha j hj⟩
theorem final_valid {cap cl : Int} {fin : Bool} {l : List Trk} (hv : validR cap cl fin l) (hc : cl ≠ 0) (ho : ∀ i, i < l.length → (tr l i).ses ≤ cl) : validR cap cl true l := by
  obtain ⟨g1, g2, g3, g4, g5, g6, g7, g8⟩ := hv
  refine ⟨g1, g2, g3, g4, g5, g6, g7, fun _ => ⟨by omega, ?_⟩⟩
  by_cases h : 0 < l.length
  · rw [if_pos h] at g7 ⊢
    obtain ⟨m, hm⟩ : ∃ m, l.length = m + 1 := ⟨l.length - 1, by omega⟩
    have h9 := ho m (by omega)
    rw [hm, sB_succ] at g7 ⊢
    omega
  · rw [if_neg h] at g7 ⊢; omega
end Go.Proofs.YtflmjdjkfognjaaGreat.T
namespace Go.Proofs.YtflmjdjkfognjaaGreat.T
set_option linter.unusedVariables false
/-- the sessions of the first 'n' tracks: start, count, closed -/
def sess (cl : Int) (l : List Trk) : Nat → List (Int × Int × Bool)
  | 0 => []
  | n + 1 =>
    if n = 0 ∨ sB l n ≠ (tr l n).ses then sess cl l n ++ [((tr l n).st, (tr l n).st + (tr l n).len - (tr l n).st, decide ((tr l n).ses ≤ cl))]
    else (sess cl l n).set ((sess cl l n).length - 1) ((((sess cl l n)[(sess cl l n).length - 1]?).getD (0, 0, false)).1, (tr l n).st + (tr l n).len - (((sess cl l n)[(sess cl l n).length - 1]?).getD (0, 0, false)).1, (((sess cl l n)[(sess cl l n).length - 1]?).getD (0, 0, false)).2.2)
theorem sess_new {cl : Int} {l : List Trk} {n : Nat} (h : n = 0 ∨ sB l n ≠ (tr l n).ses) : sess cl l (n + 1) = sess cl l n ++ [((tr l n).st, (tr l n).st + (tr l n).len - (tr l n).st, decide ((tr l n).ses ≤ cl))] := by
  rw [sess, if_pos h]
theorem sess_old {cl : Int} {l : List Trk} {n : Nat} (h : ¬ (n = 0 ∨ sB l n ≠ (tr l n).ses)) : ∃ x, sess cl l (n + 1) = (sess cl l n).set ((sess cl l n).length - 1) x := by
  rw [sess, if_neg h]; exact ⟨_, rfl⟩
theorem sess_length {cap cl c2 : Int} {l : List Trk} : ∀ n : Nat, (∀ i, i < n → okR cap cl l i) → 0 < n → ((sess c2 l n).length : Int) = sB l n
  | 0, _, h => by omega
  | n + 1, h, _ => by
    obtain ⟨_, g2, _⟩ := h n (by omega)
    rw [sB_succ]
    by_cases hn : n = 0 ∨ sB l n ≠ (tr l n).ses
    · rw [sess_new hn, List.length_append, List.length_singleton]
      by_cases h0 : n = 0
      · subst h0
        rw [if_neg (by omega), sB_zero] at g2
        rw [g2]; rfl
      · have ih := sess_length (c2 := c2) n (fun i hi => h i (by omega)) (by omega)
        split at g2 <;> omega
    · obtain ⟨x, hx⟩ := sess_old (cl := c2) hn
      rw [hx, List.length_set]
      have ih := sess_length (c2 := c2) n (fun i hi => h i (by omega)) (by omega)
      omega
theorem sess_take {cap cl c2 : Int} {l : List Trk} {m : Nat} : ∀ n : Nat, (∀ i, i < n → okR cap cl l i) → m ≤ n → (∀ i, m ≤ i → i < n → 0 < m → sB l m < (tr l i).ses) → (sess c2 l n).take (sess c2 l m).length = sess c2 l m
  | 0, _, hm, _ => by obtain rfl : m = 0 := by omega
                      simp
  | n + 1, h, hm, hs => by
    by_cases e : m = n + 1
    · subst e; simp
    · have ih := sess_take (c2 := c2) n (fun i hi => h i (by omega)) (by omega) (fun i h1 h2 => hs i h1 (by omega))
      have hle : (sess c2 l m).length ≤ (sess c2 l n).length := by
        rw [← ih, List.length_take]; omega
      by_cases hn : n = 0 ∨ sB l n ≠ (tr l n).ses
      · rw [sess_new hn, List.take_append_of_le_length hle]
        exact ih
      · obtain ⟨x, hx⟩ := sess_old (cl := c2) hn
        rw [hx]
        have hlt : (sess c2 l m).length ≤ (sess c2 l n).length - 1 := by
          by_cases h0 : m = 0
          · subst h0; simp [sess]
          · have h1 := hs n (by omega) (by omega) (by omega)
            have h2 := sess_length (c2 := c2) n (fun i hi => h i (by omega)) (by omega)
            have h3 := sess_length (c2 := c2) m (fun i hi => h i (by omega)) (by omega)
            omega
        rw [List.take_set_of_le hlt]
        exact ih
theorem sess_congr {c1 c2 : Int} {l l' : List Trk} : ∀ n : Nat, (∀ i, i < n → tr l i = tr l' i) → (∀ i, i < n → ((tr l i).ses ≤ c1 ↔ (tr l i).ses ≤ c2)) → sess c1 l n = sess c2 l' n
  | 0, _, _ => rfl
  | n + 1, h, hc => by
    have ih := sess_congr n (fun i hi => h i (by omega)) (fun i hi => hc i (by omega))
    have hsb : sB l n = sB l' n := by
      cases n with
      | zero => rfl
      | succ k => rw [sB_succ, sB_succ, h k (by omega)]
    have hd : decide ((tr l n).ses ≤ c1) = decide ((tr l n).ses ≤ c2) := decide_eq_decide.2 (hc n (by omega))
    rw [sess, sess, ih, hsb, ← h n (by omega), hd]
/-- how many tracks lie in closed sessions -/
theorem closed_count {cap cl : Int} {fin : Bool} {l : List Trk} (hv : validR cap cl fin l) : ∃ m, m ≤ l.length ∧ (∀ i, i < m → (tr l i).ses ≤ cl) ∧ (∀ i, m ≤ i → i < l.length → cl < (tr l i).ses) := by
  obtain ⟨_, _, _, _, _, g6, _, _⟩ := hv
  suffices H : ∀ n, n ≤ l.length → ∃ m, m ≤ n ∧ (∀ i, i < m → (tr l i).ses ≤ cl) ∧ (∀ i, m ≤ i → i < n → cl < (tr l i).ses) from H _ (Nat.le_refl _)
  intro n
  induction n with
  | zero => intro _; exact ⟨0, by omega, fun i hi => by omega, fun i h1 h2 => by omega⟩
  | succ n ih =>
    intro hn
    obtain ⟨m, h1, h2, h3⟩ := ih (by omega)
    by_cases hs : (tr l n).ses ≤ cl
    · refine ⟨n + 1, by omega, fun i hi => ?_, fun i h4 h5 => by omega⟩
      have h4 := okR.mono g6 (i + 1) (n - i) (by omega)
      have e : i + 1 + (n - i) = n + 1 := by omega
      rw [e, sB_succ, sB_succ] at h4
      omega
    · refine ⟨m, by omega, h2, fun i h4 h5 => ?_⟩
      by_cases e : i = n
      · rw [e]; omega
      · exact h3 i h4 (by omega)
theorem closed_sess {cap cl c2 : Int} {fin : Bool} {l : List Trk} {m : Nat} (hv : validR cap cl fin l) (hm : m ≤ l.length) (h1 : ∀ i, i < m → (tr l i).ses ≤ cl) (h2 : ∀ i, m ≤ i → i < l.length → cl < (tr l i).ses) :
    ((sess c2 l m).length : Int) = cl ∧ (sess c2 l l.length).take (sess c2 l m).length = sess c2 l m := by
  obtain ⟨_, _, _, g4, _, g6, g7, _⟩ := hv
  have hlen : ((sess c2 l m).length : Int) = cl := by
    by_cases h0 : m = 0
    · subst h0
      have : cl = 0 := by
        by_cases hl : 0 < l.length
        · have h3 := h2 0 (by omega) hl
          have h4 := (g6 0 hl).2.1
          rw [if_neg (by omega), sB_zero] at h4
          omega
        · rw [if_neg hl] at g7; omega
      rw [this]; rfl
    · have h3 := sess_length (c2 := c2) m (fun i hi => g6 i (by omega)) (by omega)
      obtain ⟨k, hk⟩ : ∃ k, m = k + 1 := ⟨m - 1, by omega⟩
      have h4 := h1 k (by omega)
      have h5 : sB l m = (tr l k).ses := by rw [hk, sB_succ]
      by_cases hl : m < l.length
      · have h6 := h2 m (by omega) hl
        have h7 := (g6 m hl).next
        rw [sB_succ] at h7
        omega
      · obtain rfl : m = l.length := by omega
        rw [if_pos (by omega)] at g7
        omega
  refine ⟨hlen, sess_take _ (fun i hi => g6 i hi) hm (fun i h3 h4 h5 => ?_)⟩
  have h6 := h2 i h3 h4
  have h7 := sess_length (c2 := c2) m (fun i hi => g6 i (by omega)) h5
  omega
end Go.Proofs.YtflmjdjkfognjaaGreat.T
namespace Go.Proofs.YtflmjdjkfognjaaGreat.T
set_option linter.unusedVariables false
/-- one operation that ends without an error, from a valid table -/
def Step (cap cl : Int) (fin : Bool) (l : List Trk) (cl' : Int) (fin' : Bool) (l' : List Trk) : Prop :=
  fin = false ∧ cl' = cl ∧ fin' = fin ∧ (∃ count pk, okPk count pk ∧ l.length < 99 ∧ cl < 16 ∧ count ≤ cap - stN cl l ∧ l' = l ++ [newT cl l count pk]) ∨
  cl' = cl ∧ fin' = fin ∧ (∃ k count, k < l.length ∧ (tr l k).sta ≠ 2 ∧ okPk count (tr l k).pk ∧ count ≤ (tr l k).st + (tr l k).len - (tr l k).nx ∧ l' = l.set k (grown (tr l k) count)) ∨
  cl' = cl ∧ fin' = fin ∧ (∃ k, k < l.length ∧ (tr l k).sta = 1 ∧ (k + 1 < l.length → (tr l k).nx = (tr l k).st + (tr l k).len) ∧ l' = l.set k (shutT (tr l k))) ∨
  fin = false ∧ cl' = cl + 1 ∧ l' = l ∧ (∀ i, i < l.length → (tr l i).sta = 2) ∧ (∃ i, i < l.length ∧ cl < (tr l i).ses) ∨
  fin = false ∧ cl' = cl ∧ fin' = true ∧ l' = l ∧ cl ≠ 0 ∧ (∀ i, i < l.length → (tr l i).sta = 2) ∧ (∀ i, i < l.length → (tr l i).ses ≤ cl)
theorem Step.valid {cap cl cl' : Int} {fin fin' : Bool} {l l' : List Trk} (hv : validR cap cl fin l) (h : Step cap cl fin l cl' fin' l') : validR cap cl' fin' l' := by
  rcases h with ⟨h0, rfl, rfl, c, pk, h1, h2, h3, h4, rfl⟩ | ⟨rfl, rfl, k, c, h1, h2, h3, h4, rfl⟩ | ⟨rfl, rfl, k, h1, h2, h3, rfl⟩ | ⟨h0, rfl, rfl, h1, h2⟩ | ⟨h0, rfl, rfl, rfl, h1, h2, h3⟩
  · exact reserve_valid hv h0 h1 h2 h3 h4
  · exact append_valid hv h1 h2 h3 h4
  · exact shut_valid hv h1 h2 h3
  · exact close_valid _ hv h1 h2
  · exact final_valid hv h1 h3
/-- what becomes of a track that was there -/
def Kept (x y : Trk) : Prop := (x.sta = 2 → y = x) ∧ x.nx ≤ y.nx ∧ y.st = x.st ∧ y.ses = x.ses ∧ y.len ≤ x.len
theorem Kept.refl (x : Trk) : Kept x x := ⟨fun _ => rfl, Int.le_refl _, rfl, rfl, Int.le_refl _⟩
theorem Step.kept {cap cl cl' : Int} {fin fin' : Bool} {l l' : List Trk} (hv : validR cap cl fin l) (h : Step cap cl fin l cl' fin' l') : l.length ≤ l'.length ∧ cl ≤ cl' ∧ cl' ≤ cl + 1 ∧ ∀ i, i < l.length → Kept (tr l i) (tr l' i) := by
  rcases h with ⟨h0, rfl, rfl, c, pk, h1, h2, h3, h4, rfl⟩ | ⟨rfl, rfl, k, c, h1, h2, h3, h4, rfl⟩ | ⟨rfl, rfl, k, h1, h2, h3, rfl⟩ | ⟨h0, rfl, rfl, h1, h2⟩ | ⟨h0, rfl, rfl, rfl, h1, h2, h3⟩
  · refine ⟨by simp, by omega, by omega, fun i hi => ?_⟩
    rw [tr_append_lt _ _ _ hi]
    exact Kept.refl _
  · refine ⟨by simp, by omega, by omega, fun i hi => ?_⟩
    by_cases e : i = k
    · subst e
      rw [tr_set_eq _ _ _ h1]
      have hp := h3.1
      refine ⟨fun e2 => absurd e2 h2, ?_, rfl, rfl, Int.le_refl _⟩
      unfold grown; simp only; omega
    · rw [tr_set_ne _ _ _ _ e]
      exact Kept.refl _
  · refine ⟨by simp, by omega, by omega, fun i hi => ?_⟩
    by_cases e : i = k
    · subst e
      rw [tr_set_eq _ _ _ h1]
      have ho := hv.2.2.2.2.2.1 i h1
      obtain ⟨o1, o2, o3, o4, o5, o6, o7, o8, o9, o10, o11, o12, o13, o14⟩ := ho
      refine ⟨fun e2 => by omega, Int.le_refl _, rfl, rfl, ?_⟩
      unfold shutT; simp only; omega
    · rw [tr_set_ne _ _ _ _ e]
      exact Kept.refl _
  · exact ⟨Nat.le_refl _, by omega, by omega, fun i _ => Kept.refl _⟩
  · exact ⟨Nat.le_refl _, by omega, by omega, fun i _ => Kept.refl _⟩
/-- closed sessions keep their entries -/
theorem Step.sess {cap cl cl' : Int} {fin fin' : Bool} {l l' : List Trk} (hv : validR cap cl fin l) (h : Step cap cl fin l cl' fin' l') :
    ∃ S, ((S.length : Nat) : Int) = cl ∧ (T.sess cl l l.length).take S.length = S ∧ (T.sess cl' l' l'.length).take S.length = S := by
  have hv' := h.valid hv
  obtain ⟨hle, hc1, hc2, hk⟩ := h.kept hv
  obtain ⟨m, hm, h1, h2⟩ := closed_count hv
  obtain ⟨s1, s2⟩ := closed_sess (c2 := cl) hv hm h1 h2
  have hsame : ∀ i, i < m → tr l i = tr l' i := fun i hi => ((hk i (by omega)).1 ((hv.2.2.2.2.2.1 i (by omega)).2.2.2.2.2.2.2.2.2.2.2.2.2 (h1 i hi))).symm
  have hcg : T.sess cl l m = T.sess cl' l' m := sess_congr m hsame (fun i hi => by have := h1 i hi; omega)
  refine ⟨T.sess cl l m, s1, s2, ?_⟩
  rw [hcg]
  have g6' := hv'.2.2.2.2.2.1
  refine sess_take _ (fun i hi => g6' i hi) (by omega) (fun i h3 h4 h5 => ?_)
  -- behind the closed tracks every session is greater
  have hsb : sB l' m = sB l m := by
    obtain ⟨k, hkk⟩ : ∃ k, m = k + 1 := ⟨m - 1, by omega⟩
    rw [hkk, sB_succ, sB_succ, hsame k (by omega)]
  have hml : sB l m ≤ cl := by
    obtain ⟨k, hkk⟩ : ∃ k, m = k + 1 := ⟨m - 1, by omega⟩
    rw [hkk, sB_succ]; exact h1 k (by omega)
  rw [hsb]
  by_cases hil : i < l.length
  · have h6 := h2 i h3 hil
    rw [(hk i hil).2.2.2.1]
    omega
  · rcases h with ⟨h0, rfl, rfl, c, pk, q1, q2, q3, q4, rfl⟩ | ⟨rfl, rfl, k, c, q1, q2, q3, q4, rfl⟩ | ⟨rfl, rfl, k, q1, q2, q3, rfl⟩ | ⟨h0, rfl, rfl, q1, q2⟩ | ⟨h0, rfl, rfl, rfl, q1, q2, q3⟩
    · have hll : (l ++ [newT cl' l c pk]).length = l.length + 1 := by simp
      obtain rfl : i = l.length := by omega
      rw [tr_append_eq]
      unfold newT; simp only; omega
    · simp at h4; omega
    · simp at h4; omega
    · omega
    · omega
end Go.Proofs.YtflmjdjkfognjaaGreat.T
namespace Go.Proofs.YtflmjdjkfognjaaGreat.T
set_option linter.unusedVariables false
section
variable {cap cl : Int} {l : List Trk} {n : Nat}
theorem ends_mono (h : ∀ i, i < n → okR cap cl l i) (i : Nat) : ∀ d, i + d ≤ n → eB l i ≤ eB l (i + d)
  | 0, _ => by rw [Nat.add_zero]; omega
  | d + 1, hd => by
    have h1 := ends_mono h i d (by omega)
    have h2 := (h (i + d) (by omega)).next
    have e : i + (d + 1) = i + d + 1 := by omega
    rw [e]; omega
theorem okR.from {i : Nat} (h : okR cap cl l i) : eB l i ≤ (tr l i).st := by
  obtain ⟨_, _, _, _, g5, _⟩ := h
  split at g5 <;> omega
/-- tracks do not overlap -/
theorem apart (h : ∀ i, i < n → okR cap cl l i) {i j : Nat} (hij : i < j) (hj : j < n) : (tr l i).st + (tr l i).len ≤ (tr l j).st := by
  have h1 := ends_mono h (i + 1) (j - (i + 1)) (by omega)
  have e : i + 1 + (j - (i + 1)) = j := by omega
  rw [e, eB_succ] at h1
  have h2 := (h j hj).from
  omega
theorem only (h : ∀ i, i < n → okR cap cl l i) {i j : Nat} (hi : i < n) (hj : j < n) {k : Int} (h1 : (tr l i).st ≤ k) (h2 : k < (tr l i).st + (tr l i).len) (h3 : (tr l j).st ≤ k) (h4 : k < (tr l j).st + (tr l j).len) : i = j := by
  rcases Nat.lt_trichotomy i j with g | g | g
  · have := apart h g hj; omega
  · exact g
  · have := apart h g hi; omega
end
section
variable {cap cl : Int} {fin : Bool} {l : List Trk}
theorem validR.at (hv : validR cap cl fin l) {i : Nat} (hi : i < l.length) : (tr l i).num = i + 1 ∧ 0 ≤ (tr l i).st ∧ (tr l i).st + (tr l i).len ≤ cap ∧ (tr l i).st ≤ (tr l i).nx ∧ (tr l i).nx ≤ (tr l i).st + (tr l i).len := by
  have ho := hv.2.2.2.2.2.1 i hi
  have h1 := ho.from
  have h2 := okR.ends hv.2.2.2.2.2.1 i (by omega)
  obtain ⟨o1, o2, o3, o4, o5, o6, o7, o8, o9, o10, o11, o12, o13, o14⟩ := ho
  exact ⟨o1, by omega, by omega, o10, o11⟩
end
end Go.Proofs.YtflmjdjkfognjaaGreat.T
namespace Go.Proofs.YtflmjdjkfognjaaGreat.Q
open T (Trk tr eB)
set_option linter.unusedVariables false
/-- a frame: control, track, point, the relative address, the absolute one -/
structure Fr where
  ctl : Int
  trk : Int
  pt : Int
  rm : Int
  rs : Int
  rf : Int
  am : Int
  as : Int
  af : Int
  deriving DecidableEq
def z : Fr := ⟨0, 0, 0, 0, 0, 0, 0, 0, 0⟩
/-- the parts of a number of sectors -/
def mM (n : Int) : Int := n / 4500
def mS (n : Int) : Int := n / 75 % 60
def mF (n : Int) : Int := n % 75
theorem parts (n : Int) : (60 * mM n + mS n) * 75 + mF n = n := by unfold mM mS mF; omega
theorem parts_valid {n : Int} (h0 : 0 ≤ n) (h1 : n < 450000) : 0 ≤ mM n ∧ mM n ≤ 99 ∧ 0 ≤ mS n ∧ mS n ≤ 59 ∧ 0 ≤ mF n ∧ mF n ≤ 74 := by unfold mM mS mF; omega
/-- the rule of the track 'i' of a session -/
def okS (l : List Trk) (i : Nat) : Prop :=
  1 ≤ (tr l i).num ∧ (tr l i).num ≤ 99 ∧ (0 < i → (tr l i).num = (tr l (i - 1)).num + 1) ∧ eB l i ≤ (tr l i).st ∧ (tr l i).st ≤ 449849 ∧ 1 ≤ (tr l i).len ∧ (tr l i).len ≤ 449849 - (tr l i).st
instance (l : List Trk) (i : Nat) : Decidable (okS l i) := by unfold okS; infer_instance
def Sess (l : List Trk) : Prop := 1 ≤ l.length ∧ l.length ≤ 99 ∧ ∀ i, i < l.length → okS l i
instance (l : List Trk) : Decidable (Sess l) := by unfold Sess; infer_instance
def sessB (l : List Trk) : Bool := decide (Sess l)
theorem sessB_true {l : List Trk} : sessB l = true ↔ Sess l := by unfold sessB; exact decide_eq_true_iff
theorem sessB_false {l : List Trk} : sessB l = false ↔ ¬ Sess l := by unfold sessB; exact decide_eq_false_iff_not
/-- the end of the track 'i' -/
def en (l : List Trk) (i : Nat) : Int := (tr l i).st + (tr l i).len
def endL (l : List Trk) : Int := en l (l.length - 1)
theorem okS.ends {l : List Trk} {n : Nat} (h : ∀ i, i < n → okS l i) : ∀ i, i ≤ n → 0 ≤ eB l i ∧ eB l i ≤ 449849
  | 0, _ => by rw [T.eB_zero]; omega
  | i + 1, hi => by
    obtain ⟨h0, _⟩ := okS.ends h i (by omega)
    obtain ⟨_, _, _, h4, h5, h6, h7⟩ := h i (by omega)
    rw [T.eB_succ]; omega
/-- what a session's tracks are bounded by -/
theorem Sess.at {l : List Trk} (h : Sess l) {i : Nat} (hi : i < l.length) : 1 ≤ (tr l i).num ∧ (tr l i).num ≤ 99 ∧ 0 ≤ (tr l i).st ∧ (tr l i).st ≤ 449848 ∧ 1 ≤ (tr l i).len ∧ (tr l i).st + (tr l i).len ≤ 449849 := by
  obtain ⟨h1, h2, _, h4, h5, h6, h7⟩ := h.2.2 i hi
  have := okS.ends h.2.2 i (by omega)
  omega
theorem Sess.mono {l : List Trk} (h : Sess l) (i : Nat) : ∀ d, i + d < l.length → (tr l (i + d)).num = (tr l i).num + d ∧ (0 < d → en l i ≤ (tr l (i + d)).st)
  | 0, _ => by rw [Nat.add_zero]; exact ⟨by simp, fun h => by omega⟩
  | d + 1, hd => by
    obtain ⟨h1, h2⟩ := Sess.mono h i d (by omega)
    obtain ⟨_, _, g3, g4, _⟩ := h.2.2 (i + d + 1) (by omega)
    obtain ⟨_, _, _, _, _, g6, _⟩ := h.2.2 (i + d) (by omega)
    rw [T.eB_succ] at g4
    have g3' := g3 (by omega)
    rw [Nat.add_sub_cancel] at g3'
    have e : i + (d + 1) = i + d + 1 := by omega
    rw [e, g3', h1]
    refine ⟨by omega, fun _ => ?_⟩
    by_cases h0 : d = 0
    · subst h0; unfold en; simp only [Nat.add_zero] at *; omega
    · have := h2 (by omega); omega
theorem Sess.ends {l : List Trk} (h : Sess l) {i : Nat} (hi : i < l.length) : en l i ≤ endL l := by
  unfold endL
  by_cases e : i = l.length - 1
  · rw [← e]; omega
  · have h1 := (h.mono i (l.length - 1 - i) (by omega)).2 (by omega)
    have e2 : i + (l.length - 1 - i) = l.length - 1 := by omega
    rw [e2] at h1
    have := (h.at (i := l.length - 1) (by omega))
    unfold en at h1 ⊢; omega
/-- the first track that ends behind a block -/
def firstP (l : List Trk) (lba : Int) (n : Nat) : Option Nat := (List.range n).find? fun i => decide (lba < en l i)
theorem firstP_some {l : List Trk} {lba : Int} {n i : Nat} (hi : i < n) (h1 : lba < en l i) (h2 : ∀ j, j < i → ¬ lba < en l j) : firstP l lba n = some i := by
  unfold firstP
  rw [List.find?_range_eq_some]
  exact ⟨by simpa using h1, by simpa using hi, fun j hj => by simpa using h2 j hj⟩
theorem firstP_none {l : List Trk} {lba : Int} {n : Nat} (h : ∀ j, j < n → ¬ lba < en l j) : firstP l lba n = none := by
  unfold firstP
  rw [List.find?_range_eq_none]
  exact fun j hj => by simpa using h j hj
/-- the frame of a sector, the first track that ends behind it given -/
def progF (l : List Trk) (ctl lba : Int) : Option Nat → Fr
  | none => ⟨ctl, 170, 1, mM (lba - endL l), mS (lba - endL l), mF (lba - endL l), mM (lba + 150), mS (lba + 150), mF (lba + 150)⟩
  | some i => if lba < (tr l i).st then ⟨ctl, (tr l i).num, 0, mM ((tr l i).st - lba), mS ((tr l i).st - lba), mF ((tr l i).st - lba), mM (lba + 150), mS (lba + 150), mF (lba + 150)⟩
    else ⟨ctl, (tr l i).num, 1, mM (lba - (tr l i).st), mS (lba - (tr l i).st), mF (lba - (tr l i).st), mM (lba + 150), mS (lba + 150), mF (lba + 150)⟩
/-- a frame and a code -/
def progR (l : List Trk) (ctl lba : Int) : Fr × Int :=
  if sessB l = false ∨ ctl < 0 ∨ 15 < ctl then (z, 1) else if lba < 0 ∨ 449849 < lba then (z, 2) else (progF l ctl lba (firstP l lba l.length), 0)
/-- the frame of an entry -/
def entF (ctl pt m s f : Int) : Fr := ⟨ctl, 0, pt, 0, 0, 0, m, s, f⟩
def entB (ctl pt n : Int) : Fr := entF ctl pt (mM (n + 150)) (mS (n + 150)) (mF (n + 150))
/-- the frames of the first 'n' tracks -/
def entT (l : List Trk) (ctl : Int) (n : Nat) : List Fr := (List.range n).map fun i => entB ctl (tr l i).num (tr l i).st
theorem entT_succ (l : List Trk) (ctl : Int) (n : Nat) : entT l ctl (n + 1) = entT l ctl n ++ [entB ctl (tr l n).num (tr l n).st] := by unfold entT; rw [List.range_succ, List.map_append]; rfl
def entL (l : List Trk) (ctl : Int) (n : Nat) : List Fr := [entF ctl 160 (tr l 0).num 0 0, entF ctl 161 (tr l (l.length - 1)).num 0 0, entB ctl 162 (endL l)] ++ entT l ctl n
theorem entL_succ (l : List Trk) (ctl : Int) (n : Nat) : entL l ctl (n + 1) = entL l ctl n ++ [entB ctl (tr l n).num (tr l n).st] := by unfold entL; rw [entT_succ, List.append_assoc]
theorem entL_length (l : List Trk) (ctl : Int) (n : Nat) : (entL l ctl n).length = n + 3 := by simp [entL, entT]
def entR (l : List Trk) (ctl : Int) : List Fr × Int := if sessB l = false ∨ ctl < 0 ∨ 15 < ctl then ([], 1) else (entL l ctl l.length, 0)
end Go.Proofs.YtflmjdjkfognjaaGreat.Q
namespace Go.Proofs.YtflmjdjkfognjaaGreat.C
set_option linter.unusedVariables false
/-- one step of the register -/
def st1 (n : Nat) : Nat := if n / 32768 = 1 then (n % 32768 * 2) ^^^ 4129 else n % 32768 * 2
def stN : Nat → Nat → Nat
  | 0, n => n
  | k + 1, n => st1 (stN k n)
/-- the register behind a byte -/
def st8 (n : Nat) : Nat := stN 8 n
theorem st1_lt {n : Nat} (h : n < 65536) : st1 n < 65536 := by
  unfold st1
  split
  · exact Nat.xor_lt_two_pow (n := 16) (by omega) (by omega)
  · omega
theorem stN_lt {n : Nat} (h : n < 65536) : ∀ k, stN k n < 65536
  | 0 => h
  | k + 1 => st1_lt (stN_lt h k)
def reg (c : Nat) (b : UInt8) : Nat := st8 (c ^^^ b.toNat * 256)
/-- the check of bytes behind a register -/
def crc (c : Nat) (s : List UInt8) : Nat := s.foldl reg c
theorem crc_lt {c : Nat} (h : c < 65536) : ∀ s : List UInt8, crc c s < 65536
  | [] => h
  | b :: s => crc_lt (stN_lt (Nat.xor_lt_two_pow (n := 16) (by omega) (by have := b.toNat_lt; omega)) 8) s
theorem crc_snoc (c : Nat) (s : List UInt8) (b : UInt8) : crc c (s ++ [b]) = reg (crc c s) b := by simp [crc]
/-- the table -/
def tab (b : Nat) : Nat := st8 (b * 256)
theorem split8a : ∀ hi, hi < 256 → ∀ lo, lo < 256 → st8 (hi * 256 + lo) = (lo * 256) ^^^ tab hi := by decide +kernel
theorem split8 {n : Nat} (h : n < 65536) : st8 n = (n % 256 * 256) ^^^ tab (n / 256) := by
  have := split8a (n / 256) (by omega) (n % 256) (by omega)
  rwa [show n / 256 * 256 + n % 256 = n by omega] at this
end Go.Proofs.YtflmjdjkfognjaaGreat.C
