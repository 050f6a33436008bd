/- Shaken out of XCa XGauss XMg -/
import Derived.Test.YtflmjdjkfognjaaGreatTp00
import Derived.Test.YtflmjdjkfognjaaGreatTp04
namespace Go.Proofs.YtflmjdjkfognjaaGreat.C9
set_option linter.unusedVariables false
/-- a scratch: the first frame, and how many -/
structure Sc where
  f : Int
  c : Int
/-- the scratch lies within 'n' frames -/
def fitB (n : Nat) (s : Sc) : Bool := decide (0 ≤ s.f) && decide (1 ≤ s.c) && decide (s.c ≤ (n : Int)) && decide (s.f ≤ (n : Int) - s.c)
theorem fitB_iff (n : Nat) (s : Sc) : fitB n s = true ↔ 0 ≤ s.f ∧ 1 ≤ s.c ∧ s.c ≤ (n : Int) ∧ s.f ≤ (n : Int) - s.c := by
  simp [fitB, and_assoc]
def fitA (n : Nat) (l : List Sc) : Bool := l.all (fitB n)
/-- a list of 'n' marks -/
def mk (n : Nat) (p : Nat → Bool) : List Bool := (List.range n).map p
/-- the frame 'g' lies within the first 'x' of the scratch -/
def covX (s : Sc) (x : Int) (g : Nat) : Bool := decide (s.f ≤ (g : Int)) && decide ((g : Int) < s.f + x)
def gon (l : List Sc) (g : Nat) : Bool := l.any fun s => covX s s.c g
theorem gon_iff (l : List Sc) (g : Nat) : gon l g = true ↔ ∃ s ∈ l, s.f ≤ (g : Int) ∧ (g : Int) < s.f + s.c := by
  simp [gon, covX]
theorem gon_snoc (l : List Sc) (s : Sc) (g : Nat) : gon (l ++ [s]) g = (gon l g || covX s s.c g) := by simp [gon]
/-- the first 'k' symbols of the word 'f', those that are erased -/
def ersK (l : List Sc) (f k : Nat) : List Int := ((List.range k).filter fun i => gon l (f + 4 * i)).map Int.ofNat
def ers (l : List Sc) (f : Nat) : List Int := ersK l f 28
theorem ersK_succ (l : List Sc) (f k : Nat) : ersK l f (k + 1) = if gon l (f + 4 * k) = true then ersK l f k ++ [(k : Int)] else ersK l f k := by
  unfold ersK
  rw [List.range_succ, List.filter_append, List.map_append]
  by_cases h : gon l (f + 4 * k) = true
  · rw [if_pos h]; simp [h]
  · rw [if_neg h]; simp [h]
theorem ersK_length (l : List Sc) (f k : Nat) : (ersK l f k).length ≤ k := by
  unfold ersK
  rw [List.length_map]
  have := List.length_filter_le (fun i => gon l (f + 4 * i)) (List.range k)
  rwa [List.length_range] at this
theorem mem_ersK (l : List Sc) (f k : Nat) (x : Int) : x ∈ ersK l f k ↔ ∃ i : Nat, i < k ∧ gon l (f + 4 * i) = true ∧ x = i := by
  simp only [ersK, List.mem_map, List.mem_filter, List.mem_range]
  constructor
  · rintro ⟨i, ⟨h1, h2⟩, rfl⟩; exact ⟨i, h1, h2, rfl⟩
  · rintro ⟨i, h1, h2, rfl⟩; exact ⟨i, ⟨h1, h2⟩, rfl⟩
/-- what of the erased symbols 'E' of the word 'f' is lost, the first 'k' looked at -/
def lsK (E : List Int) (f k : Nat) : List Int := if E.length ≤ 4 then [] else ((E.take k).filter fun i => decide (i < 24)).map fun i => 24 * (f : Int) + i
def ls (E : List Int) (f : Nat) : List Int := lsK E f E.length
theorem lsK_length (E : List Int) (f k : Nat) (hE : E.length ≤ 28) : (lsK E f k).length ≤ 28 := by
  unfold lsK
  split
  · simp
  · rw [List.length_map]
    have h1 := List.length_filter_le (fun i => decide (i < 24)) (E.take k)
    have h2 : (E.take k).length ≤ E.length := List.length_take_le' _ _
    omega
/-- what is lost of the first 'n' words -/
def lostN (l : List Sc) : Nat → List Int
  | 0 => []
  | n + 1 => lostN l n ++ ls (ers l n) n
theorem lostN_length (l : List Sc) : ∀ n, (lostN l n).length ≤ 28 * n
  | 0 => by simp [lostN]
  | n + 1 => by
    have h1 := lostN_length l n
    have h2 := lsK_length (ers l n) n (ers l n).length (ersK_length l n 28)
    show (lostN l n ++ lsK (ers l n) n (ers l n).length).length ≤ _
    rw [List.length_append]
    omega
theorem mem_ls (l : List Sc) (f : Nat) (x : Int) : x ∈ ls (ers l f) f ↔ ∃ i : Nat, i < 24 ∧ gon l (f + 4 * i) = true ∧ x = 24 * (f : Int) + i ∧ 4 < (ers l f).length := by
  unfold ls lsK
  by_cases h : (ers l f).length ≤ 4
  · rw [if_pos h]
    constructor
    · intro hx; simp at hx
    · rintro ⟨_, _, _, _, h2⟩; omega
  · rw [if_neg h, List.take_length]
    simp only [List.mem_map, List.mem_filter, decide_eq_true_eq]
    constructor
    · rintro ⟨y, ⟨hy, h2⟩, rfl⟩
      obtain ⟨i, h3, h4, rfl⟩ := (mem_ersK l f 28 y).1 hy
      exact ⟨i, by omega, h4, rfl, by omega⟩
    · rintro ⟨i, h2, h3, rfl, _⟩
      exact ⟨i, ⟨(mem_ersK l f 28 _).2 ⟨i, by omega, h3, rfl⟩, by omega⟩, rfl⟩
theorem mem_lostN (l : List Sc) (x : Int) : ∀ n, x ∈ lostN l n ↔ ∃ f i : Nat, f < n ∧ i < 24 ∧ gon l (f + 4 * i) = true ∧ x = 24 * (f : Int) + i ∧ 4 < (ers l f).length
  | 0 => by simp [lostN]
  | n + 1 => by
    show x ∈ lostN l n ++ ls (ers l n) n ↔ _
    rw [List.mem_append, mem_lostN l x n, mem_ls]
    constructor
    · rintro (⟨f, i, h1, h2⟩ | ⟨i, h1⟩)
      · exact ⟨f, i, by omega, h2⟩
      · exact ⟨n, i, by omega, h1⟩
    · rintro ⟨f, i, h1, h2⟩
      by_cases h : f = n
      · subst h; exact .inr ⟨i, h2⟩
      · exact .inl ⟨f, i, by omega, h2⟩
theorem lostN_bd (l : List Sc) (n : Nat) : ∀ x ∈ lostN l n, 0 ≤ x ∧ x < 24 * (n : Int) := by
  intro x hx
  obtain ⟨f, i, h1, h2, _, rfl, _⟩ := (mem_lostN l x n).1 hx
  omega
/-- of a word at most as many symbols are erased as frames are covered -/
theorem ersK_one (s : Sc) (f : Nat) : ∀ k, ((ersK [s] f k).length : Int) * 4 ≤ max 0 (min (s.c + 3) ((f : Int) + 4 * k - s.f))
  | 0 => by simp [ersK]; omega
  | k + 1 => by
    have ih := ersK_one s f k
    rw [ersK_succ]
    by_cases h : gon [s] (f + 4 * k) = true
    · rw [if_pos h]
      obtain ⟨t, ht, h1, h2⟩ := (gon_iff _ _).1 h
      simp only [List.mem_singleton] at ht
      subst ht
      simp only [List.length_append, List.length_cons, List.length_nil]
      omega
    · rw [if_neg h]
      omega
theorem lostN_none {l : List Sc} (h : ∀ f, (ers l f).length ≤ 4) : ∀ n, lostN l n = []
  | 0 => rfl
  | n + 1 => by
    show lostN l n ++ lsK _ _ _ = []
    rw [lostN_none h n]
    unfold lsK
    rw [if_pos (h n)]
    rfl
theorem lost_burst (s : Sc) (h : s.c ≤ 16) (n : Nat) : lostN [s] n = [] := lostN_none (fun f => by
  have := ersK_one s f 28
  unfold ers
  omega) n
end Go.Proofs.YtflmjdjkfognjaaGreat.C9
namespace Go.Proofs.YtflmjdjkfognjaaGreat.G
set_option linter.unusedVariables false
/-- row 'i' -/
def rw_ (R : List (List UInt8)) (i : Nat) : List UInt8 := R.getD i []
theorem rw_set_self (R : List (List UInt8)) (i : Nat) (l : List UInt8) (h : i < R.length) : rw_ (R.set i l) i = l := by simp [rw_, h]
theorem rw_set_ne (R : List (List UInt8)) {i j : Nat} (l : List UInt8) (h : j ≠ i) : rw_ (R.set i l) j = rw_ R j := by
  unfold rw_
  rw [List.getD_eq_getElem?_getD, List.getElem?_set_ne (by omega), ← List.getD_eq_getElem?_getD]
/-- a row as an equation -/
def dot (m : Nat) (l : List UInt8) (y : Nat → UInt8) : UInt8 := sumN (fun j => mul (ix l j) (y j)) m
theorem dot_xorL (m : Nat) {a b : List UInt8} (h : a.length = b.length) (y : Nat → UInt8) : dot m (xorL a b) y = dot m a y ^^^ dot m b y := by
  unfold dot; rw [← sumN_xor]; exact sumN_congr _ fun j _ => by rw [ix_xorL h, xor_mul]
theorem dot_scale (m : Nat) (a : UInt8) (l : List UInt8) (y : Nat → UInt8) : dot m (scale a l) y = mul a (dot m l y) := by
  unfold dot; rw [← sumN_mul]; exact sumN_congr _ fun j _ => by rw [ix_scale, mas]
/-- 'y' solves all rows -/
def Z (m : Nat) (R : List (List UInt8)) (y : Nat → UInt8) : Prop := ∀ i, i < R.length → dot m (rw_ R i) y = 0
/-- the columns below 'k' are those of a unit matrix -/
def Unit (R : List (List UInt8)) (k : Nat) : Prop := ∀ j, j < k → ∀ i, i < R.length → ix (rw_ R i) j = if i = j then 1 else 0
/-- what the elimination keeps -/
structure Elim (n m : Nat) (R0 R : List (List UInt8)) (k : Nat) : Prop where
  len : R.length = n
  row : ∀ i, i < n → (rw_ R i).length = m + 1
  sol : ∀ y, Z (m + 1) R y ↔ Z (m + 1) R0 y
  unit : Unit R k
theorem Elim.scale {n m k : Nat} {R0 R : List (List UInt8)} (h : Elim n m R0 R k) (hk : k < n) (a : UInt8) (ha : a ≠ 0) : Elim n m R0 (R.set k (scale a (rw_ R k))) k := by
  have hl := h.len
  refine ⟨by rw [List.length_set, hl], fun i hi => ?_, fun y => ?_, fun j hj i hi => ?_⟩
  · by_cases e : i = k
    · subst e; rw [rw_set_self _ _ _ (by omega), scale_length]; exact h.row i hi
    · rw [rw_set_ne _ _ e]; exact h.row i hi
  · rw [← h.sol y]
    constructor
    · intro hz i hi
      have := hz i (by rw [List.length_set]; exact hi)
      by_cases e : i = k
      · subst e
        rw [rw_set_self _ _ _ hi, dot_scale] at this
        exact (mul_eq_zero this).resolve_left ha
      · rw [rw_set_ne _ _ e] at this; exact this
    · intro hz i hi
      rw [List.length_set] at hi
      by_cases e : i = k
      · subst e; rw [rw_set_self _ _ _ hi, dot_scale, hz i hi, mul_zero]
      · rw [rw_set_ne _ _ e]; exact hz i hi
  · rw [List.length_set] at hi
    by_cases e : i = k
    · subst e; rw [rw_set_self _ _ _ hi, ix_scale, h.unit j hj i hi, if_neg (by omega), mul_zero]
    · rw [rw_set_ne _ _ e]; exact h.unit j hj i hi
theorem Elim.add {n m k i : Nat} {R0 R : List (List UInt8)} (h : Elim n m R0 R k) (hk : k < n) (hi : i < n) (hik : i ≠ k) (f : UInt8) : Elim n m R0 (R.set i (xorL (rw_ R i) (G.scale f (rw_ R k)))) k := by
  have hl := h.len
  have hle : (rw_ R i).length = (G.scale f (rw_ R k)).length := by rw [scale_length, h.row i hi, h.row k hk]
  refine ⟨by rw [List.length_set, hl], fun t ht => ?_, fun y => ?_, fun j hj t ht => ?_⟩
  · by_cases e : t = i
    · subst e; rw [rw_set_self _ _ _ (by omega), xorL_length hle]; exact h.row t ht
    · rw [rw_set_ne _ _ e]; exact h.row t ht
  · rw [← h.sol y]
    constructor
    · intro hz t ht
      have hk0 := hz k (by rw [List.length_set]; omega)
      rw [rw_set_ne _ _ (Ne.symm hik)] at hk0
      have := hz t (by rw [List.length_set]; exact ht)
      by_cases e : t = i
      · subst e
        rw [rw_set_self _ _ _ ht, dot_xorL _ hle, dot_scale, hk0, mul_zero, xor_zero] at this
        exact this
      · rw [rw_set_ne _ _ e] at this; exact this
    · intro hz t ht
      rw [List.length_set] at ht
      by_cases e : t = i
      · subst e; rw [rw_set_self _ _ _ ht, dot_xorL _ hle, dot_scale, hz t ht, hz k (by omega), mul_zero, xor_zero]
      · rw [rw_set_ne _ _ e]; exact hz t ht
  · rw [List.length_set] at ht
    by_cases e : t = i
    · subst e; rw [rw_set_self _ _ _ ht, ix_xorL hle, ix_scale, h.unit j hj t ht, h.unit j hj k (by omega), if_neg (show ¬ k = j by omega), mul_zero, xor_zero]
    · rw [rw_set_ne _ _ e]; exact h.unit j hj t ht
theorem Elim.next {n m k : Nat} {R0 R : List (List UInt8)} (h : Elim n m R0 R k) (hc : ∀ i, i < n → ix (rw_ R i) k = if i = k then 1 else 0) : Elim n m R0 R (k + 1) :=
  ⟨h.len, h.row, h.sol, fun j hj i hi => by
    by_cases e : j = k
    · subst e; exact hc i (by have := h.len; omega)
    · exact h.unit j (by omega) i hi⟩
end Go.Proofs.YtflmjdjkfognjaaGreat.G
namespace Go.Proofs.YtflmjdjkfognjaaGreat.G
theorem posB_mk {n : Nat} {l : List Int} (h1 : ∀ x ∈ l, 0 ≤ x ∧ x < (n : Int)) (h2 : l.Pairwise (· < ·)) : posB n l = true := by
  have hpw := List.pairwise_iff_getElem.1 h2
  suffices h : ∀ k, k ≤ l.length → posN n l k = true from h _ (Nat.le_refl _)
  intro k
  induction k with
  | zero => intro _; rfl
  | succ k ih =>
    intro hk
    have hkl : k < l.length := by omega
    have e := h1 _ (List.getElem_mem hkl)
    rw [posN, ih (by omega), ixI_get hkl]
    have e1 : decide (l[k] < 0) = false := by rw [decide_eq_false_iff_not]; omega
    have e2 : decide ((n : Int) ≤ l[k]) = false := by rw [decide_eq_false_iff_not]; omega
    rw [e1, e2]
    by_cases h0 : 0 < k
    · have := hpw (k - 1) k (by omega) hkl (by omega)
      rw [ixI_get (by omega : k - 1 < l.length)]
      have e3 : decide (l[k] ≤ l[k - 1]) = false := by rw [decide_eq_false_iff_not]; omega
      rw [e3]; simp
    · simp [h0]
def mgS (l : List Int) (x : Int) : Nat → List Int × Bool
  | 0 => ([], false)
  | k + 1 => if (mgS l x k).2 = false ∧ x < ixI l k then ((mgS l x k).1 ++ [x] ++ [ixI l k], true) else ((mgS l x k).1 ++ [ixI l k], (mgS l x k).2)
def mg (l : List Int) (x : Int) : List Int := if (mgS l x l.length).2 = true then (mgS l x l.length).1 else (mgS l x l.length).1 ++ [x]
theorem mem_mgS (l : List Int) (x y : Int) : ∀ k, k ≤ l.length → (y ∈ (mgS l x k).1 ↔ y ∈ l.take k ∨ ((mgS l x k).2 = true ∧ y = x))
  | 0, _ => by simp [mgS]
  | k + 1, hk => by
    have ih := mem_mgS l x y k (by omega)
    have hkl : k < l.length := by omega
    rw [mgS, List.take_succ_eq_append_getElem hkl, ixI_get hkl]
    split
    · next h =>
      simp only [List.mem_append, List.mem_singleton, ih, h.1]
      simp only [Bool.false_eq_true, false_and, or_false, true_and]
      constructor
      · rintro ((h | h) | h)
        · exact .inl (.inl h)
        · exact .inr h
        · exact .inl (.inr h)
      · rintro ((h | h) | h)
        · exact .inl (.inl h)
        · exact .inr h
        · exact .inl (.inr h)
    · simp only [List.mem_append, List.mem_singleton, ih]
      constructor
      · rintro ((h | h) | h)
        · exact .inl (.inl h)
        · exact .inr h
        · exact .inl (.inr h)
      · rintro ((h | h) | h)
        · exact .inl (.inl h)
        · exact .inr h
        · exact .inl (.inr h)
theorem mem_mg (l : List Int) (x y : Int) : y ∈ mg l x ↔ y ∈ l ∨ y = x := by
  have h := mem_mgS l x y l.length (Nat.le_refl _)
  rw [List.take_length] at h
  unfold mg
  split
  · next h1 => rw [h, h1]; simp
  · next h1 => rw [List.mem_append, List.mem_singleton, h]; simp [h1]
/-- 'c' is a codeword that differs from the word at listed positions, and at no more than 'e' further ones from 'from' on -/
def Near (p c : List UInt8) (n : Nat) (l : List Int) : Prop := c.length = p.length ∧ validB c n = true ∧ ∀ i : Nat, ix p i ≠ ix c i → (i : Int) ∈ l
/-- what a search finds: a codeword that differs at listed positions and at 'e' others, from 'fr' on -/
def Found (p c : List UInt8) (n : Nat) (l : List Int) (e : Nat) (fr : Nat) : Prop := ∃ E : List Nat, E.length = e ∧ E.Pairwise (· < ·) ∧ (∀ i ∈ E, fr ≤ i ∧ i < p.length ∧ (i : Int) ∉ l) ∧ c.length = p.length ∧ validB c n = true ∧ ∀ i : Nat, ix p i ≠ ix c i → (i : Int) ∈ l ∨ i ∈ E
theorem Found.zero {p c : List UInt8} {n : Nat} {l : List Int} {fr : Nat} : Found p c n l 0 fr ↔ Near p c n l := by
  constructor
  · rintro ⟨E, hE, _, _, h1, h2, h3⟩
    obtain rfl := List.eq_nil_of_length_eq_zero hE
    exact ⟨h1, h2, fun i hi => (h3 i hi).resolve_right (by simp)⟩
  · rintro ⟨h1, h2, h3⟩
    exact ⟨[], rfl, by simp, by simp, h1, h2, fun i hi => .inl (h3 i hi)⟩
/-- the first of the further positions is 'i' -/
theorem Found.step {p c : List UInt8} {n : Nat} {l : List Int} {e i fr : Nat} (hi : fr ≤ i) (hil : i < p.length) (hm : (i : Int) ∉ l) (h : Found p c n (mg l i) e (i + 1)) : Found p c n l (e + 1) fr := by
  obtain ⟨E, hE, hs, hb, h1, h2, h3⟩ := h
  refine ⟨i :: E, by simp [hE], ?_, fun j hj => ?_, h1, h2, fun j hj => ?_⟩
  · rw [List.pairwise_cons]
    exact ⟨fun j hj => by have := (hb j hj).1; omega, hs⟩
  · rcases List.mem_cons.1 hj with rfl | hj
    · exact ⟨hi, hil, hm⟩
    · obtain ⟨g1, g2, g3⟩ := hb j hj
      exact ⟨by omega, g2, fun hh => g3 ((mem_mg _ _ _).2 (.inl hh))⟩
  · rcases h3 j hj with h | h
    · rcases (mem_mg _ _ _).1 h with h | h
      · exact .inl h
      · exact .inr (by have : j = i := by omega
                       simp [this])
    · exact .inr (by simp [h])
theorem Found.split {p c : List UInt8} {n : Nat} {l : List Int} {e fr : Nat} (h : Found p c n l (e + 1) fr) : ∃ i, fr ≤ i ∧ i < p.length ∧ (i : Int) ∉ l ∧ Found p c n (mg l i) e (i + 1) := by
  obtain ⟨E, hE, hs, hb, h1, h2, h3⟩ := h
  match E, hE, hs, hb, h3 with
  | i :: E, hE, hs, hb, h3 =>
    obtain ⟨g1, g2, g3⟩ := hb i (by simp)
    obtain ⟨k1, k2⟩ := List.pairwise_cons.1 hs
    refine ⟨i, g1, g2, g3, E, by simpa using hE, k2, fun j hj => ?_, h1, h2, fun j hj => ?_⟩
    · obtain ⟨m1, m2, m3⟩ := hb j (by simp [hj])
      have := k1 j hj
      refine ⟨by omega, m2, fun hh => ?_⟩
      rcases (mem_mg _ _ _).1 hh with h | h
      · exact m3 h
      · omega
    · rcases h3 j hj with h | h
      · exact .inl ((mem_mg _ _ _).2 (.inl h))
      · rcases List.mem_cons.1 h with rfl | h
        · exact .inl ((mem_mg _ _ _).2 (.inr rfl))
        · exact .inr h
end Go.Proofs.YtflmjdjkfognjaaGreat.G
