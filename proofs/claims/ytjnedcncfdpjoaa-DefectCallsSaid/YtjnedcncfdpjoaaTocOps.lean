/- Tables of contents (chapter 14): what the four operations give; valid tables stay valid. -/
import Derived.Test.YtjnedcncfdpjoaaToc
namespace Go.Proofs.Ytjnedcncfdpjoaa.T
set_option linter.unusedVariables false

theorem tr_append_lt (l m : List Trk) (i : Nat) (h : i < l.length) : tr (l ++ m) i = tr l i := by
  unfold tr; rw [List.getElem?_append_left h]
theorem tr_append_eq (l : List Trk) (x : Trk) : tr (l ++ [x]) l.length = x := by
  unfold tr; rw [List.getElem?_append_right (Nat.le_refl _)]; simp
theorem eB_append (l m : List Trk) (i : Nat) (h : i ≤ l.length) : eB (l ++ m) i = eB l i := by
  cases i with
  | zero => rfl
  | succ i => rw [eB_succ, eB_succ, tr_append_lt _ _ _ (by omega)]
theorem sB_append (l m : List Trk) (i : Nat) (h : i ≤ l.length) : sB (l ++ m) i = sB l i := by
  cases i with
  | zero => rfl
  | succ i => rw [sB_succ, sB_succ, tr_append_lt _ _ _ (by omega)]
theorem tr_set_ne (l : List Trk) (x : Trk) (i k : Nat) (h : i ≠ k) : tr (l.set k x) i = tr l i := by
  unfold tr; rw [List.getElem?_set_ne (fun e => h e.symm)]
theorem tr_set_eq (l : List Trk) (x : Trk) (k : Nat) (h : k < l.length) : tr (l.set k x) k = x := by
  unfold tr; rw [List.getElem?_set_self h]; rfl

/-- whole packets -/
def okPk (count pk : Int) : Prop := 1 ≤ count ∧ 0 ≤ pk ∧ pk ≤ 1024 ∧ (0 < pk → count.tmod pk = 0)
/-- the first block of a further track -/
def stN (cl : Int) (l : List Trk) : Int := if l.length = 0 then 0 else if sB l l.length ≤ cl then eB l l.length + 16 else eB l l.length
def newT (cl : Int) (l : List Trk) (count pk : Int) : Trk := ⟨l.length + 1, cl + 1, stN cl l, count, stN cl l, 0, pk⟩

theorem reserve_valid {cap cl : Int} {fin : Bool} {l : List Trk} {count pk : Int} (hv : validR cap cl fin l) (hf : fin = false) (hp : okPk count pk) (hn : l.length < 99) (hc : cl < 16) (hr : count ≤ cap - stN cl l) :
    validR cap cl fin (l ++ [newT cl l count pk]) := by
  obtain ⟨g1, g2, g3, g4, g5, g6, g7, g8⟩ := hv
  obtain ⟨p1, p2, p3, p4⟩ := hp
  have hl : (l ++ [newT cl l count pk]).length = l.length + 1 := by simp
  have hlast : 0 < l.length → sB l l.length ≤ cl + 1 := fun h => by
    obtain ⟨m, hm⟩ : ∃ m, l.length = m + 1 := ⟨l.length - 1, by omega⟩
    have h9 := (g6 m (by omega)).2.2.1
    rw [hm, sB_succ]; exact h9
  refine ⟨g1, g2, by omega, g4, g5, fun i hi => ?_, ?_, fun h => by rw [hf] at h; cases h⟩
  · rw [hl] at hi
    unfold okR
    rw [eB_append _ _ _ (by omega), sB_append _ _ _ (by omega)]
    by_cases h : i < l.length
    · rw [tr_append_lt _ _ _ h]
      exact g6 i h
    · obtain rfl : i = l.length := by omega
      rw [tr_append_eq]
      have hz : l.length = 0 → sB l l.length = 1 ∧ eB l l.length = 0 := fun h => by rw [h]; exact ⟨rfl, rfl⟩
      have hz2 : ((0 : Int)).tmod pk = 0 := Int.zero_tmod _
      unfold newT stN at *
      simp only
      refine ⟨trivial, ?_, by omega, by omega, ?_, p1, hr, p2, p3, by omega, by omega, fun h => ⟨p4 h, ?_⟩, .inr (.inl ⟨trivial, trivial⟩), fun h => by omega⟩
      · by_cases h0 : l.length = 0
        · have := hz h0
          rw [if_neg (by omega)] at g7 ⊢
          omega
        · rw [if_pos (by omega)] at g7
          have := hlast (by omega)
          split <;> omega
      · by_cases h0 : l.length = 0
        · have := hz h0
          rw [if_pos h0, if_neg (by omega)]
          omega
        · rw [if_pos (by omega)] at g7
          have := hlast (by omega)
          rw [if_neg h0]
          split <;> split <;> omega
      · rw [Int.sub_self]; exact hz2
  · rw [hl, if_pos (by omega), sB_succ, tr_append_eq]
    unfold newT
    simp only
    omega

theorem set_valid {cap cl : Int} {fin : Bool} {l : List Trk} {k : Nat} (hv : validR cap cl fin l) (hk : k < l.length) (x : Trk) (h1 : x.num = (tr l k).num) (h2 : x.ses = (tr l k).ses) (h3 : x.st = (tr l k).st)
    (h4 : k + 1 < l.length → x.len = (tr l k).len) (h5 : 1 ≤ x.len) (h6 : x.len ≤ cap - x.st) (h7 : x.pk = (tr l k).pk) (h8 : x.st ≤ x.nx) (h9 : x.nx ≤ x.st + x.len)
    (h10 : 0 < x.pk → x.len.tmod x.pk = 0 ∧ (x.nx - x.st).tmod x.pk = 0) (h11 : x.sta = 2 ∧ x.nx = x.st + x.len ∨ x.sta = 0 ∧ x.nx = x.st ∨ x.sta = 1 ∧ x.nx ≠ x.st) (h12 : x.ses ≤ cl → x.sta = 2) : validR cap cl fin (l.set k x) := by
  obtain ⟨g1, g2, g3, g4, g5, g6, g7, g8⟩ := hv
  have hl : (l.set k x).length = l.length := by simp
  have hs : ∀ i, i ≤ l.length → sB (l.set k x) i = sB l i := fun i hi => by
    cases i with
    | zero => rfl
    | succ i =>
      rw [sB_succ, sB_succ]
      by_cases e : i = k
      · rw [e, tr_set_eq _ _ _ hk, h2]
      · rw [tr_set_ne _ _ _ _ e]
  have he : ∀ i, i < l.length → eB (l.set k x) i = eB l i := fun i hi => by
    cases i with
    | zero => rfl
    | succ i =>
      rw [eB_succ, eB_succ]
      by_cases e : i = k
      · rw [e, tr_set_eq _ _ _ hk, h3, h4 (by omega)]
      · rw [tr_set_ne _ _ _ _ e]
  refine ⟨g1, g2, by omega, g4, g5, fun i hi => ?_, by rw [hl, hs _ (Nat.le_refl _)]; exact g7, by rw [hl, hs _ (Nat.le_refl _)]; exact g8⟩
  rw [hl] at hi
  have ho := g6 i hi
  unfold okR at ho ⊢
  rw [he i hi, hs i (by omega)]
  by_cases e : i = k
  · subst e
    rw [tr_set_eq _ _ _ hk]
    obtain ⟨o1, o2, o3, o4, o5, o6, o7, o8, o9, o10, o11, o12, o13, o14⟩ := ho
    rw [← h1] at o1
    rw [← h2] at o2 o3 o4 o5
    rw [← h3] at o5
    rw [← h7] at o8 o9
    exact ⟨o1, o2, o3, o4, o5, h5, h6, o8, o9, h8, h9, h10, h11, h12⟩
  · rw [tr_set_ne _ _ _ _ e]
    exact ho

/-- a track to which blocks are appended -/
def grown (x : Trk) (count : Int) : Trk := { x with nx := x.nx + count, sta := 1 }
/-- a track that is closed -/
def shutT (x : Trk) : Trk := { x with sta := 2, len := x.nx - x.st }
theorem tmod_add_zero {a b c : Int} (h1 : a.tmod c = 0) (h2 : b.tmod c = 0) : (a + b).tmod c = 0 := by
  have e1 := Int.dvd_of_tmod_eq_zero h1
  have e2 := Int.dvd_of_tmod_eq_zero h2
  exact Int.tmod_eq_zero_of_dvd (Int.dvd_add e1 e2)
theorem append_valid {cap cl : Int} {fin : Bool} {l : List Trk} {k : Nat} {count : Int} (hv : validR cap cl fin l) (hk : k < l.length) (hs : (tr l k).sta ≠ 2) (hp : okPk count (tr l k).pk) (hc : count ≤ (tr l k).st + (tr l k).len - (tr l k).nx) :
    validR cap cl fin (l.set k (grown (tr l k) count)) := by
  have ho := hv.2.2.2.2.2.1 k hk
  obtain ⟨o1, o2, o3, o4, o5, o6, o7, o8, o9, o10, o11, o12, o13, o14⟩ := ho
  obtain ⟨p1, p2, p3, p4⟩ := hp
  unfold grown
  refine set_valid hv hk _ rfl rfl rfl (fun _ => rfl) o6 o7 rfl ?_ ?_ (fun h => ⟨(o12 h).1, ?_⟩) (.inr (.inr ⟨rfl, ?_⟩)) (fun h => absurd (o14 h) hs)
  · simp only; omega
  · simp only; omega
  · have e : (tr l k).nx + count - (tr l k).st = (tr l k).nx - (tr l k).st + count := by omega
    simp only
    rw [e]
    exact tmod_add_zero (o12 h).2 (p4 h)
  · simp only; omega
theorem shut_valid {cap cl : Int} {fin : Bool} {l : List Trk} {k : Nat} (hv : validR cap cl fin l) (hk : k < l.length) (hs : (tr l k).sta = 1) (hc : k + 1 < l.length → (tr l k).nx = (tr l k).st + (tr l k).len) :
    validR cap cl fin (l.set k (shutT (tr l k))) := by
  have ho := hv.2.2.2.2.2.1 k hk
  obtain ⟨o1, o2, o3, o4, o5, o6, o7, o8, o9, o10, o11, o12, o13, o14⟩ := ho
  unfold shutT
  have hne : (tr l k).nx ≠ (tr l k).st := by omega
  refine set_valid hv hk _ rfl rfl rfl (fun h => ?_) ?_ ?_ rfl o10 ?_ (fun h => ⟨(o12 h).2, (o12 h).2⟩) (.inl ⟨rfl, ?_⟩) (fun h => rfl)
  · have := hc h; simp only; omega
  · simp only; omega
  · simp only; omega
  · simp only; omega
  · simp only; omega
theorem close_valid {cap cl : Int} {fin : Bool} {l : List Trk} (f : Bool) (hv : validR cap cl fin l) (ha : ∀ i, i < l.length → (tr l i).sta = 2) (ho : ∃ i, i < l.length ∧ cl < (tr l i).ses) : validR cap (cl + 1) f l := by
  obtain ⟨g1, g2, g3, g4, g5, g6, g7, g8⟩ := hv
  obtain ⟨i, hi, hc⟩ := ho
  have h1 := okR.mono g6 (i + 1) (l.length - (i + 1)) (by omega)
  have e : i + 1 + (l.length - (i + 1)) = l.length := by omega
  rw [e, sB_succ] at h1
  have hi16 := (g6 i hi).2.2.2.1
  have hlast : sB l l.length ≤ cl + 1 := by
    obtain ⟨m, hm⟩ : ∃ m, l.length = m + 1 := ⟨l.length - 1, by omega⟩
    have h9 := (g6 m (by omega)).2.2.1
    rw [hm, sB_succ]; exact h9
  refine ⟨g1, g2, g3, by omega, by omega, fun j hj => ?_, by rw [if_pos (by omega)]; omega, fun _ => ⟨by omega, by rw [if_pos (by omega)]; omega⟩⟩
  have ho := g6 j hj
  unfold okR at ho ⊢
  obtain ⟨o1, o2, o3, o4, o5, o6, o7, o8, o9, o10, o11, o12, o13, o14⟩ := ho
  exact ⟨o1, o2, by omega, o4, o5, o6, o7, o8, o9, o10, o11, o12, o13, fun _ => ha j hj⟩
theorem final_valid {cap cl : Int} {fin : Bool} {l : List Trk} (hv : validR cap cl fin l) (hc : cl ≠ 0) (ho : ∀ i, i < l.length → (tr l i).ses ≤ cl) : validR cap cl true l := by
  obtain ⟨g1, g2, g3, g4, g5, g6, g7, g8⟩ := hv
  refine ⟨g1, g2, g3, g4, g5, g6, g7, fun _ => ⟨by omega, ?_⟩⟩
  by_cases h : 0 < l.length
  · rw [if_pos h] at g7 ⊢
    obtain ⟨m, hm⟩ : ∃ m, l.length = m + 1 := ⟨l.length - 1, by omega⟩
    have h9 := ho m (by omega)
    rw [hm, sB_succ] at g7 ⊢
    omega
  · rw [if_neg h] at g7 ⊢; omega
end Go.Proofs.Ytjnedcncfdpjoaa.T
