/- A position merged into increasing positions; what a search finds. No program is named here. -/
import Derived.Test.YtkebnmmcogkldaaGauss
namespace Go.Proofs.Ytkebnmmcogkldaa.G

theorem posB_mk {n : Nat} {l : List Int} (h1 : ∀ x ∈ l, 0 ≤ x ∧ x < (n : Int)) (h2 : l.Pairwise (· < ·)) : posB n l = true := by
  have hpw := List.pairwise_iff_getElem.1 h2
  suffices h : ∀ k, k ≤ l.length → posN n l k = true from h _ (Nat.le_refl _)
  intro k
  induction k with
  | zero => intro _; rfl
  | succ k ih =>
    intro hk
    have hkl : k < l.length := by omega
    have e := h1 _ (List.getElem_mem hkl)
    rw [posN, ih (by omega), ixI_get hkl]
    have e1 : decide (l[k] < 0) = false := by rw [decide_eq_false_iff_not]; omega
    have e2 : decide ((n : Int) ≤ l[k]) = false := by rw [decide_eq_false_iff_not]; omega
    rw [e1, e2]
    by_cases h0 : 0 < k
    · have := hpw (k - 1) k (by omega) hkl (by omega)
      rw [ixI_get (by omega : k - 1 < l.length)]
      have e3 : decide (l[k] ≤ l[k - 1]) = false := by rw [decide_eq_false_iff_not]; omega
      rw [e3]; simp
    · simp [h0]
theorem posB_mem {n : Nat} {l : List Int} (h : posB n l = true) : ∀ x ∈ l, 0 ≤ x ∧ x < (n : Int) := by
  intro x hx
  obtain ⟨k, hk, rfl⟩ := List.getElem_of_mem hx
  have := posN_at n l hk h
  rw [ixI_get hk] at this
  exact ⟨this.1, this.2.1⟩
theorem posB_pw {n : Nat} {l : List Int} (h : posB n l = true) : l.Pairwise (· < ·) := by
  rw [List.pairwise_iff_getElem]
  intro i j hi hj hij
  have := pos_lt h hj hij
  rwa [ixI_get hi, ixI_get hj] at this

def mgS (l : List Int) (x : Int) : Nat → List Int × Bool
  | 0 => ([], false)
  | k + 1 => if (mgS l x k).2 = false ∧ x < ixI l k then ((mgS l x k).1 ++ [x] ++ [ixI l k], true) else ((mgS l x k).1 ++ [ixI l k], (mgS l x k).2)
def mg (l : List Int) (x : Int) : List Int := if (mgS l x l.length).2 = true then (mgS l x l.length).1 else (mgS l x l.length).1 ++ [x]
theorem mgS_length (l : List Int) (x : Int) : ∀ k, (mgS l x k).1.length = k + if (mgS l x k).2 = true then 1 else 0
  | 0 => rfl
  | k + 1 => by
    have ih := mgS_length l x k
    rw [mgS]
    split
    · next h => simp only [List.length_append, List.length_singleton, ih, h.1]; simp
    · simp only [List.length_append, List.length_singleton, ih]; omega
theorem mg_length (l : List Int) (x : Int) : (mg l x).length = l.length + 1 := by
  have := mgS_length l x l.length
  unfold mg
  split
  · next h => rw [this, if_pos h]
  · next h => rw [List.length_append, this, if_neg h]; rfl
theorem mem_mgS (l : List Int) (x y : Int) : ∀ k, k ≤ l.length → (y ∈ (mgS l x k).1 ↔ y ∈ l.take k ∨ ((mgS l x k).2 = true ∧ y = x))
  | 0, _ => by simp [mgS]
  | k + 1, hk => by
    have ih := mem_mgS l x y k (by omega)
    have hkl : k < l.length := by omega
    rw [mgS, List.take_succ_eq_append_getElem hkl, ixI_get hkl]
    split
    · next h =>
      simp only [List.mem_append, List.mem_singleton, ih, h.1]
      simp only [Bool.false_eq_true, false_and, or_false, true_and]
      constructor
      · rintro ((h | h) | h)
        · exact .inl (.inl h)
        · exact .inr h
        · exact .inl (.inr h)
      · rintro ((h | h) | h)
        · exact .inl (.inl h)
        · exact .inr h
        · exact .inl (.inr h)
    · simp only [List.mem_append, List.mem_singleton, ih]
      constructor
      · rintro ((h | h) | h)
        · exact .inl (.inl h)
        · exact .inr h
        · exact .inl (.inr h)
      · rintro ((h | h) | h)
        · exact .inl (.inl h)
        · exact .inr h
        · exact .inl (.inr h)
theorem mem_mg (l : List Int) (x y : Int) : y ∈ mg l x ↔ y ∈ l ∨ y = x := by
  have h := mem_mgS l x y l.length (Nat.le_refl _)
  rw [List.take_length] at h
  unfold mg
  split
  · next h1 => rw [h, h1]; simp
  · next h1 => rw [List.mem_append, List.mem_singleton, h]; simp [h1]
theorem mgS_sorted {n : Nat} {l : List Int} {x : Int} (hp : posB n l = true) (hx : x ∉ l) : ∀ k, k ≤ l.length → (mgS l x k).1.Pairwise (· < ·) ∧ (∀ y ∈ (mgS l x k).1, ∀ j (hj : j < l.length), k ≤ j → y < l[j]) ∧ ((mgS l x k).2 = false → ∀ y ∈ (mgS l x k).1, y < x)
  | 0, _ => by simp [mgS]
  | k + 1, hk => by
    obtain ⟨h1, h2, h3⟩ := mgS_sorted hp hx k (by omega)
    have hkl : k < l.length := by omega
    have hpw := List.pairwise_iff_getElem.1 (posB_pw hp)
    rw [mgS, ixI_get hkl]
    split
    · next h =>
      refine ⟨?_, fun y hy j hj hkj => ?_, fun hf => by simp at hf⟩
      · rw [List.append_assoc, List.pairwise_append]
        refine ⟨h1, by simp [h.2], fun a ha b hb => ?_⟩
        simp only [List.cons_append, List.nil_append, List.mem_cons, List.not_mem_nil, or_false] at hb
        rcases hb with rfl | rfl
        · exact h3 h.1 a ha
        · exact h2 a ha k hkl (Nat.le_refl _)
      · have hlt := hpw k j hkl hj (by omega)
        simp only [List.mem_append, List.mem_singleton] at hy
        rcases hy with (hy | rfl) | rfl
        · exact h2 y hy j hj (by omega)
        · omega
        · exact hlt
    · next h =>
      refine ⟨?_, fun y hy j hj hkj => ?_, fun hf y hy => ?_⟩
      · rw [List.pairwise_append]
        refine ⟨h1, by simp, fun a ha b hb => ?_⟩
        rw [List.mem_singleton] at hb
        rw [hb]; exact h2 a ha k hkl (Nat.le_refl _)
      · have hlt := hpw k j hkl hj (by omega)
        simp only [List.mem_append, List.mem_singleton] at hy
        rcases hy with hy | rfl
        · exact h2 y hy j hj (by omega)
        · exact hlt
      · simp only [List.mem_append, List.mem_singleton] at hy
        rcases hy with hy | rfl
        · exact h3 hf y hy
        · have hne : l[k] ≠ x := fun e => hx (e ▸ List.getElem_mem hkl)
          have : ¬ x < l[k] := fun e => h ⟨hf, e⟩
          omega
theorem mg_pos {n : Nat} {l : List Int} {x : Int} (hp : posB n l = true) (hx : x ∉ l) (h0 : 0 ≤ x) (hn : x < (n : Int)) : posB n (mg l x) = true := by
  obtain ⟨h1, _, h3⟩ := mgS_sorted hp hx l.length (Nat.le_refl _)
  refine posB_mk (fun y hy => ?_) ?_
  · rcases (mem_mg l x y).1 hy with h | rfl
    · exact posB_mem hp y h
    · exact ⟨h0, hn⟩
  · unfold mg
    split
    · exact h1
    · next hf =>
      rw [List.pairwise_append]
      refine ⟨h1, by simp, fun a ha b hb => ?_⟩
      rw [List.mem_singleton] at hb
      rw [hb]; exact h3 (by simpa using hf) a ha

/-- 'c' is a codeword that differs from the word at listed positions, and at no more than 'e' further ones from 'from' on -/
def Near (p c : List UInt8) (n : Nat) (l : List Int) : Prop := c.length = p.length ∧ validB c n = true ∧ ∀ i : Nat, ix p i ≠ ix c i → (i : Int) ∈ l
/-- what a search finds: a codeword that differs at listed positions and at 'e' others, from 'fr' on -/
def Found (p c : List UInt8) (n : Nat) (l : List Int) (e : Nat) (fr : Nat) : Prop := ∃ E : List Nat, E.length = e ∧ E.Pairwise (· < ·) ∧ (∀ i ∈ E, fr ≤ i ∧ i < p.length ∧ (i : Int) ∉ l) ∧ c.length = p.length ∧ validB c n = true ∧ ∀ i : Nat, ix p i ≠ ix c i → (i : Int) ∈ l ∨ i ∈ E
theorem Found.zero {p c : List UInt8} {n : Nat} {l : List Int} {fr : Nat} : Found p c n l 0 fr ↔ Near p c n l := by
  constructor
  · rintro ⟨E, hE, _, _, h1, h2, h3⟩
    obtain rfl := List.eq_nil_of_length_eq_zero hE
    exact ⟨h1, h2, fun i hi => (h3 i hi).resolve_right (by simp)⟩
  · rintro ⟨h1, h2, h3⟩
    exact ⟨[], rfl, by simp, by simp, h1, h2, fun i hi => .inl (h3 i hi)⟩
/-- the first of the further positions is 'i' -/
theorem Found.step {p c : List UInt8} {n : Nat} {l : List Int} {e i fr : Nat} (hi : fr ≤ i) (hil : i < p.length) (hm : (i : Int) ∉ l) (h : Found p c n (mg l i) e (i + 1)) : Found p c n l (e + 1) fr := by
  obtain ⟨E, hE, hs, hb, h1, h2, h3⟩ := h
  refine ⟨i :: E, by simp [hE], ?_, fun j hj => ?_, h1, h2, fun j hj => ?_⟩
  · rw [List.pairwise_cons]
    exact ⟨fun j hj => by have := (hb j hj).1; omega, hs⟩
  · rcases List.mem_cons.1 hj with rfl | hj
    · exact ⟨hi, hil, hm⟩
    · obtain ⟨g1, g2, g3⟩ := hb j hj
      exact ⟨by omega, g2, fun hh => g3 ((mem_mg _ _ _).2 (.inl hh))⟩
  · rcases h3 j hj with h | h
    · rcases (mem_mg _ _ _).1 h with h | h
      · exact .inl h
      · exact .inr (by have : j = i := by omega
                       simp [this])
    · exact .inr (by simp [h])
theorem Found.split {p c : List UInt8} {n : Nat} {l : List Int} {e fr : Nat} (h : Found p c n l (e + 1) fr) : ∃ i, fr ≤ i ∧ i < p.length ∧ (i : Int) ∉ l ∧ Found p c n (mg l i) e (i + 1) := by
  obtain ⟨E, hE, hs, hb, h1, h2, h3⟩ := h
  match E, hE, hs, hb, h3 with
  | i :: E, hE, hs, hb, h3 =>
    obtain ⟨g1, g2, g3⟩ := hb i (by simp)
    obtain ⟨k1, k2⟩ := List.pairwise_cons.1 hs
    refine ⟨i, g1, g2, g3, E, by simpa using hE, k2, fun j hj => ?_, h1, h2, fun j hj => ?_⟩
    · obtain ⟨m1, m2, m3⟩ := hb j (by simp [hj])
      have := k1 j hj
      refine ⟨by omega, m2, fun hh => ?_⟩
      rcases (mem_mg _ _ _).1 hh with h | h
      · exact m3 h
      · omega
    · rcases h3 j hj with h | h
      · exact .inl ((mem_mg _ _ _).2 (.inl h))
      · rcases List.mem_cons.1 h with rfl | h
        · exact .inl ((mem_mg _ _ _).2 (.inr rfl))
        · exact .inr h
/-- a codeword with 'e' errors is found with 'e' -/
theorem Found.of_oth {p c : List UInt8} {n : Nat} {l : List Int} (h1 : c.length = p.length) (h2 : validB c n = true) : Found p c n l (othN p c l p.length) 0 := by
  refine ⟨errL p c l p.length, errL_length p c l _, ?_, fun i hi => ?_, h1, h2, fun i hi => ?_⟩
  · exact List.Pairwise.sublist List.filter_sublist List.pairwise_lt_range
  · obtain ⟨g1, _, g3⟩ := (mem_errL p c l _ i).1 hi
    exact ⟨Nat.zero_le _, g1, g3⟩
  · by_cases hm : (i : Int) ∈ l
    · exact .inl hm
    · refine .inr ((mem_errL p c l _ i).2 ⟨?_, hi, hm⟩)
      by_cases h : i < p.length
      · exact h
      · exact absurd (by rw [ix_of_le (by omega), ix_of_le (by omega)]) hi
theorem Found.oth {p c : List UInt8} {n : Nat} {l : List Int} {e fr : Nat} (h : Found p c n l e fr) : othN p c l p.length ≤ e := by
  obtain ⟨E, hE, _, _, _, _, h3⟩ := h
  rw [← errL_length, ← hE]
  have hn : (errL p c l p.length).Nodup := List.Nodup.sublist List.filter_sublist List.nodup_range
  have hs : ∀ j ∈ errL p c l p.length, j ∈ E := fun j hj => by
    obtain ⟨_, g2, g3⟩ := (mem_errL p c l _ j).1 hj
    exact (h3 j g2).resolve_left g3
  exact nodup_length _ _ hn hs
/-- nothing is found within the limit: 'Decode' gives nothing -/
theorem decode_none {p : List UInt8} {n : Nat} {l : List Int} (hs : shapedB p n = true) (hp : posB p.length l = true) (h : ∀ e, 2 * e + l.length ≤ n → ∀ c, ¬ Found p c n l e 0) : decode p n l = ([], 0, 11) := by
  by_cases h0 : (decode p n l).2.2 = 0
  · obtain ⟨m, hm, h1, h2, _, h4, _⟩ := decode_sound p n l h0
    obtain rfl : m = n := by omega
    exact absurd (Found.of_oth h1 h2) (h _ h4 _)
  · obtain ⟨h1, h2⟩ := decode_bad2 p n l h0
    have h3 : (decode p n l).2.2 = 11 := by
      unfold decode at h0 ⊢
      rw [if_neg (by simp [hs]), if_neg (by simp [hp])] at h0 ⊢
      split at h0
      · next g => rw [if_pos g]
      · next g =>
        rw [if_neg g]
        split at h0
        · exact absurd rfl h0
        · next g2 =>
          rw [if_neg g2]
          split at h0
          · exact absurd rfl h0
          · next g3 => rw [if_neg g3]
    rcases hdd : decode p n l with ⟨a, b, c⟩
    rw [hdd] at h1 h2 h3
    simp only at h1 h2 h3
    rw [h1, h2, h3]
theorem decode_found {p c : List UInt8} {n : Nat} {l : List Int} {e : Nat} (hp : posB p.length l = true) (he : 2 * e + l.length ≤ n) (h : Found p c n l e 0) : decode p n l = (c, (allN p c p.length : Int), 0) := by
  have ho := h.oth
  obtain ⟨E, _, _, _, h1, h2, _⟩ := h
  exact decode_spec p c n l h1.symm h2 hp (by omega)
theorem fill_none {p : List UInt8} {n : Nat} {l : List Int} (hs : shapedB p n = true) (hp : posB p.length l = true) (h : ∀ c, ¬ Near p c n l) : fill p n l = ([], 11) := by
  by_cases h0 : (fill p n l).2 = 0
  · obtain ⟨m, hm, h1, h2, _, _, h6⟩ := fill_sound p n l h0
    obtain rfl : m = n := by omega
    exfalso
    refine h _ ⟨h1, h2, fun i hi => ?_⟩
    by_cases hm2 : (i : Int) ∈ l
    · exact hm2
    · exfalso; apply hi
      by_cases hil : i < p.length
      · exact h6 i hil hm2
      · rw [ix_of_le (by omega), ix_of_le (by rw [h1]; omega)]
  · have h1 := fill_bad2 p n l h0
    have h3 : (fill p n l).2 = 11 := by
      unfold fill at h0 ⊢
      rw [if_neg (by simp [hs]), if_neg (by simp [hp])] at h0 ⊢
      split at h0
      · next g => rw [if_pos g]
      · next g =>
        rw [if_neg g]
        split at h0
        · exact absurd rfl h0
        · next g2 => rw [if_neg g2]
    rcases hdd : fill p n l with ⟨a, b⟩
    rw [hdd] at h1 h3
    simp only at h1 h3
    rw [h1, h3]
theorem fill_near {p c : List UInt8} {n : Nat} {l : List Int} (hp : posB p.length l = true) (hl : l.length ≤ n) (h : Near p c n l) : fill p n l = (c, 0) :=
  fill_spec p c n l h.1.symm h.2.1 hp hl h.2.2
end Go.Proofs.Ytkebnmmcogkldaa.G
