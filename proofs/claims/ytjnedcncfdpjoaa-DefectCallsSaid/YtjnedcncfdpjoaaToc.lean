/- Tables of contents (chapter 14): the plain laws: the rules of the package and those of the reference say the same. -/
namespace Go.Proofs.Ytjnedcncfdpjoaa.T
set_option linter.unusedVariables false

structure Trk where
  num : Int
  ses : Int
  st : Int
  len : Int
  nx : Int
  sta : Int
  pk : Int
def z : Trk := ⟨0, 0, 0, 0, 0, 0, 0⟩
def tr (l : List Trk) (i : Nat) : Trk := (l[i]?).getD z
/-- the end and the session behind the first 'i' tracks -/
def eB (l : List Trk) (i : Nat) : Int := if i = 0 then 0 else (tr l (i - 1)).st + (tr l (i - 1)).len
def sB (l : List Trk) (i : Nat) : Int := if i = 0 then 1 else (tr l (i - 1)).ses
/-- the reference's rule of the track 'i' -/
def okR (cap cl : Int) (l : List Trk) (i : Nat) : Prop :=
  (tr l i).num = i + 1 ∧ (tr l i).ses = (if 0 < i ∧ (tr l i).ses = sB l i + 1 then sB l i + 1 else sB l i) ∧ (tr l i).ses ≤ cl + 1 ∧ (tr l i).ses ≤ 16 ∧
  (tr l i).st = (if 0 < i ∧ (tr l i).ses = sB l i + 1 then eB l i + 16 else eB l i) ∧ 1 ≤ (tr l i).len ∧ (tr l i).len ≤ cap - (tr l i).st ∧
  0 ≤ (tr l i).pk ∧ (tr l i).pk ≤ 1024 ∧ (tr l i).st ≤ (tr l i).nx ∧ (tr l i).nx ≤ (tr l i).st + (tr l i).len ∧
  (0 < (tr l i).pk → (tr l i).len.tmod (tr l i).pk = 0 ∧ ((tr l i).nx - (tr l i).st).tmod (tr l i).pk = 0) ∧
  ((tr l i).sta = 2 ∧ (tr l i).nx = (tr l i).st + (tr l i).len ∨ (tr l i).sta = 0 ∧ (tr l i).nx = (tr l i).st ∨ (tr l i).sta = 1 ∧ (tr l i).nx ≠ (tr l i).st) ∧
  ((tr l i).ses ≤ cl → (tr l i).sta = 2)
/-- the package's rules of the track 'i' -/
def okI (cap cl : Int) (fin : Bool) (l : List Trk) (i : Nat) : Prop :=
  (tr l i).num = i + 1 ∧ (i = 0 → (tr l i).ses = 1) ∧ (0 < i → (tr l i).ses - sB l i = 0 ∨ (tr l i).ses - sB l i = 1) ∧
  (tr l i).ses ≤ cl + 1 ∧ (tr l i).ses ≤ 16 ∧ (cl < (tr l i).ses ∨ (tr l i).sta = 2) ∧ (fin = true → (tr l i).ses ≤ cl) ∧
  (tr l i).st = (if i = 0 then 0 else if sB l i < (tr l i).ses then eB l i + 16 else eB l i) ∧
  1 ≤ (tr l i).len ∧ (tr l i).len ≤ cap ∧ (tr l i).st ≤ cap - (tr l i).len ∧
  ((tr l i).pk = 0 ∨ 1 ≤ (tr l i).pk ∧ (tr l i).pk ≤ 1024 ∧ (tr l i).len.tmod (tr l i).pk = 0 ∧ ((tr l i).nx - (tr l i).st).tmod (tr l i).pk = 0) ∧
  ((tr l i).sta = 2 → (tr l i).nx = (tr l i).st + (tr l i).len) ∧
  ((tr l i).sta ≠ 2 → (tr l i).st ≤ (tr l i).nx ∧ (tr l i).nx ≤ (tr l i).st + (tr l i).len ∧ (tr l i).sta = if (tr l i).nx = (tr l i).st then 0 else 1)

theorem ok_iff (cap cl : Int) (fin : Bool) (l : List Trk) (i : Nat) (h0 : 0 ≤ eB l i) : okI cap cl fin l i ↔ okR cap cl l i ∧ (fin = true → (tr l i).ses ≤ cl) := by
  unfold okI okR
  have hz : i = 0 → sB l i = 1 ∧ eB l i = 0 := fun h => by unfold sB eB; rw [if_pos h, if_pos h]; exact ⟨rfl, rfl⟩
  generalize (tr l i).num = a1 at *
  generalize (tr l i).ses = a2 at *
  generalize (tr l i).st = a3 at *
  generalize (tr l i).len = a4 at *
  generalize (tr l i).nx = a5 at *
  generalize (tr l i).sta = a6 at *
  generalize (tr l i).pk = a7 at *
  generalize sB l i = s at *
  generalize eB l i = e at *
  generalize a4.tmod a7 = t1
  generalize (a5 - a3).tmod a7 = t2
  by_cases hi : i = 0
  · obtain ⟨hs, he⟩ := hz hi
    subst hi hs he
    constructor
    · rintro ⟨g1, g2, g3, g4, g5, g6, g7, g8, g9, g10, g11, g12, g13, g14⟩
      refine ⟨⟨g1, ?_, g4, g5, ?_, g9, by omega, by omega, by omega, ?_, ?_, fun h => by omega, ?_, by omega⟩, g7⟩
      · rw [if_neg (by omega)]; exact g2 rfl
      · rw [if_neg (by omega)]; simpa using g8
      · by_cases h : a6 = 2
        · have := g13 h; omega
        · exact (g14 h).1
      · by_cases h : a6 = 2
        · have := g13 h; omega
        · exact (g14 h).2.1
      · by_cases h : a6 = 2
        · exact .inl ⟨h, g13 h⟩
        · have h2 := (g14 h).2.2
          split at h2
          · exact .inr (.inl ⟨h2, by assumption⟩)
          · exact .inr (.inr ⟨h2, by assumption⟩)
    · rintro ⟨⟨g1, g2, g3, g4, g5, g6, g7, g8, g9, g10, g11, g12, g13, g14⟩, g15⟩
      rw [if_neg (by omega)] at g2 g5
      refine ⟨g1, fun _ => g2, fun h => by omega, g3, g4, by omega, g15, by simpa using g5, g6, by omega, by omega, ?_, by omega, fun h => ⟨g10, g11, ?_⟩⟩
      · by_cases h : a7 = 0
        · exact .inl h
        · have := g12 (by omega)
          exact .inr ⟨by omega, by omega, this.1, this.2⟩
      · split <;> omega
  · constructor
    · rintro ⟨g1, g2, g3, g4, g5, g6, g7, g8, g9, g10, g11, g12, g13, g14⟩
      have h3 := g3 (by omega)
      rw [if_neg hi] at g8
      refine ⟨⟨g1, ?_, g4, g5, ?_, g9, by omega, by omega, by omega, ?_, ?_, fun h => by omega, ?_, by omega⟩, g7⟩
      · split <;> omega
      · split at g8 <;> split <;> omega
      · by_cases h : a6 = 2
        · have := g13 h; omega
        · exact (g14 h).1
      · by_cases h : a6 = 2
        · have := g13 h; omega
        · exact (g14 h).2.1
      · by_cases h : a6 = 2
        · exact .inl ⟨h, g13 h⟩
        · have h2 := (g14 h).2.2
          split at h2
          · exact .inr (.inl ⟨h2, by assumption⟩)
          · exact .inr (.inr ⟨h2, by assumption⟩)
    · rintro ⟨⟨g1, g2, g3, g4, g5, g6, g7, g8, g9, g10, g11, g12, g13, g14⟩, g15⟩
      have hst : 0 ≤ a3 := by split at g5 <;> omega
      refine ⟨g1, fun h => absurd h hi, fun h => ?_, g3, g4, by omega, g15, ?_, g6, by omega, by omega, ?_, by omega, fun h => ⟨g10, g11, ?_⟩⟩
      · split at g2 <;> omega
      · rw [if_neg hi]
        split at g2 <;> split at g5 <;> split <;> omega
      · by_cases h : a7 = 0
        · exact .inl h
        · have := g12 (by omega)
          exact .inr ⟨by omega, by omega, this.1, this.2⟩
      · split <;> omega

theorem eB_succ (l : List Trk) (i : Nat) : eB l (i + 1) = (tr l i).st + (tr l i).len := by unfold eB; rw [if_neg (by omega)]; rfl
theorem sB_succ (l : List Trk) (i : Nat) : sB l (i + 1) = (tr l i).ses := by unfold sB; rw [if_neg (by omega)]; rfl
theorem eB_zero (l : List Trk) : eB l 0 = 0 := rfl
theorem sB_zero (l : List Trk) : sB l 0 = 1 := rfl
theorem okR.next {cap cl : Int} {l : List Trk} {i : Nat} (h : okR cap cl l i) : eB l i < eB l (i + 1) ∧ sB l i ≤ sB l (i + 1) ∧ sB l (i + 1) ≤ sB l i + 1 := by
  obtain ⟨_, g2, _, _, g5, g6, _⟩ := h
  rw [eB_succ, sB_succ]
  split at g2 <;> split at g5 <;> omega
theorem okI.next {cap cl : Int} {fin : Bool} {l : List Trk} {i : Nat} (h0 : 0 ≤ eB l i) (h : okI cap cl fin l i) : 0 ≤ eB l (i + 1) := by
  obtain ⟨_, _, _, _, _, _, _, g8, g9, _⟩ := h
  rw [eB_succ]
  split at g8
  · omega
  · split at g8 <;> omega
theorem okR.ends {cap cl : Int} {l : List Trk} {n : Nat} (h : ∀ i, i < n → okR cap cl l i) : ∀ i, i ≤ n → 0 ≤ eB l i
  | 0, _ => by rw [eB_zero]; omega
  | i + 1, hi => by
    have h1 := okR.ends h i (by omega)
    have h2 := (h i (by omega)).next
    omega
theorem okI.ends {cap cl : Int} {fin : Bool} {l : List Trk} {n : Nat} (h : ∀ i, i < n → okI cap cl fin l i) : ∀ i, i ≤ n → 0 ≤ eB l i
  | 0, _ => by rw [eB_zero]; omega
  | i + 1, hi => okI.next (okI.ends h i (by omega)) (h i (by omega))
theorem okR.mono {cap cl : Int} {l : List Trk} {n : Nat} (h : ∀ i, i < n → okR cap cl l i) (i : Nat) : ∀ d, i + d ≤ n → sB l i ≤ sB l (i + d)
  | 0, _ => by rw [Nat.add_zero]; omega
  | d + 1, hd => by
    have h1 := okR.mono h i d (by omega)
    have h2 := (h (i + d) (by omega)).next
    have e : i + (d + 1) = i + d + 1 := by omega
    rw [e]; omega

/-- 'Valid' as the package says it -/
def validI (cap cl : Int) (fin : Bool) (l : List Trk) : Prop :=
  1 ≤ cap ∧ cap ≤ 449849 ∧ l.length ≤ 99 ∧ 0 ≤ cl ∧ cl ≤ 16 ∧ ¬ (fin = true ∧ cl = 0) ∧ (∀ i, i < l.length → okI cap cl fin l i) ∧ (cl = 0 ∨ 0 < l.length ∧ cl ≤ sB l l.length)
/-- 'Valid' as the reference says it -/
def validR (cap cl : Int) (fin : Bool) (l : List Trk) : Prop :=
  1 ≤ cap ∧ cap ≤ 449849 ∧ l.length ≤ 99 ∧ 0 ≤ cl ∧ cl ≤ 16 ∧ (∀ i, i < l.length → okR cap cl l i) ∧ cl ≤ (if 0 < l.length then sB l l.length else 0) ∧
  (fin = true → 1 ≤ cl ∧ (if 0 < l.length then sB l l.length else 0) = cl)
theorem valid_iff (cap cl : Int) (fin : Bool) (l : List Trk) : validI cap cl fin l ↔ validR cap cl fin l := by
  unfold validI validR
  constructor
  · rintro ⟨g1, g2, g3, g4, g5, g6, g7, g8⟩
    have he := okI.ends g7
    have hr : ∀ i, i < l.length → okR cap cl l i ∧ (fin = true → (tr l i).ses ≤ cl) := fun i hi => (ok_iff cap cl fin l i (he i (by omega))).1 (g7 i hi)
    have hm := okR.mono (fun i hi => (hr i hi).1) 0 l.length (by omega)
    rw [Nat.zero_add, sB_zero] at hm
    refine ⟨g1, g2, g3, g4, g5, fun i hi => (hr i hi).1, ?_, fun hf => ?_⟩
    · split <;> omega
    · have hc : cl ≠ 0 := fun e => g6 ⟨hf, e⟩
      have h8 := g8.resolve_left hc
      rw [if_pos h8.1]
      obtain ⟨m, hm⟩ : ∃ m, l.length = m + 1 := ⟨l.length - 1, by omega⟩
      have h9 := (hr m (by omega)).2 hf
      rw [hm, sB_succ] at h8 ⊢
      omega
  · rintro ⟨g1, g2, g3, g4, g5, g6, g7, g8⟩
    have he := okR.ends g6
    refine ⟨g1, g2, g3, g4, g5, fun ⟨h1, h2⟩ => by have := (g8 h1).1; omega, fun i hi => (ok_iff cap cl fin l i (he i (by omega))).2 ⟨g6 i hi, fun hf => ?_⟩, ?_⟩
    · have h1 := (g8 hf).2
      rw [if_pos (by omega)] at h1
      have h2 := okR.mono g6 (i + 1) (l.length - (i + 1)) (by omega)
      have e : i + 1 + (l.length - (i + 1)) = l.length := by omega
      rw [e, sB_succ] at h2
      omega
    · by_cases h : 0 < l.length
      · rw [if_pos h] at g7; exact .inr ⟨h, g7⟩
      · rw [if_neg h] at g7; exact .inl (by omega)
end Go.Proofs.Ytjnedcncfdpjoaa.T
