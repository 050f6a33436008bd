/- Chapter 8, plain: each offset that takes part belongs to one P word and one Q word, the Q parity to one Q word only. -/
import Derived.Test.YtepdcpbgdfjobaaWi
namespace Go.Proofs.Ytepdcpbgdfjobaa.W8
set_option linter.unusedVariables false

/-- how many of the first 'k' offsets are 'x' -/
def cw (x : Int) (ws : List Int) : Nat → Nat
  | 0 => 0
  | k + 1 => cw x ws k + if ixI ws k = x then 1 else 0
theorem cw_one (x : Int) (ws : List Int) (A : Prop) [Decidable A] (j0 : Nat) (n : Nat) (h : ∀ j, j < n → (ixI ws j = x ↔ A ∧ j = j0)) : ∀ k, k ≤ n → cw x ws k = if A ∧ j0 < k then 1 else 0
  | 0, _ => by rw [if_neg (by omega)]; rfl
  | k + 1, hk => by
    have hj := h k (by omega)
    rw [cw, cw_one x ws A j0 n h k (by omega)]
    by_cases hA : A
    · by_cases h1 : j0 < k
      · rw [if_pos ⟨hA, h1⟩, if_neg (by rw [hj]; omega), if_pos ⟨hA, by omega⟩]
      · by_cases h2 : k = j0
        · rw [if_neg (by omega), if_pos (hj.2 ⟨hA, h2⟩), if_pos ⟨hA, by omega⟩]
        · rw [if_neg (by omega), if_neg (by rw [hj]; omega), if_neg (by omega)]
    · rw [if_neg (fun h => hA h.1), if_neg (fun h => hA (hj.1 h).1), if_neg (fun h => hA h.1)]
/-- the sums over the words -/
def psN (x : Int) : Nat → Nat
  | 0 => 0
  | n + 1 => psN x n + cw x (pw n) 26
def qsN (x : Int) : Nat → Nat
  | 0 => 0
  | n + 1 => qsN x n + cw x (qw n) 45
theorem cw_le (x : Int) (ws : List Int) : ∀ k, cw x ws k ≤ k
  | 0 => Nat.le_refl _
  | k + 1 => by have := cw_le x ws k; unfold cw; split <;> omega
theorem psN_le (x : Int) : ∀ n, psN x n ≤ 26 * n
  | 0 => Nat.le_refl _
  | n + 1 => by have := psN_le x n; have := cw_le x (pw n) 26; unfold psN; omega
theorem qsN_le (x : Int) : ∀ n, qsN x n ≤ 45 * n
  | 0 => Nat.le_refl _
  | n + 1 => by have := qsN_le x n; have := cw_le x (qw n) 45; unfold qsN; omega
theorem sum_one (f : Nat → Nat) (s : Nat → Nat) (h0 : s 0 = 0) (hs : ∀ n, s (n + 1) = s n + f n) (N m0 : Nat) (hf : ∀ n, n < N → f n = if n = m0 then 1 else 0) : ∀ n, n ≤ N → s n = if m0 < n then 1 else 0
  | 0, _ => by rw [h0]; rfl
  | n + 1, hn => by
    rw [hs, sum_one f s h0 hs N m0 hf n (by omega), hf n (by omega)]
    by_cases h1 : m0 < n
    · rw [if_pos h1, if_neg (by omega), if_pos (by omega)]
    · by_cases h2 : n = m0
      · rw [if_neg h1, if_pos h2, if_pos (by omega)]
      · rw [if_neg h1, if_neg h2, if_neg (by omega)]
theorem sum_none (f : Nat → Nat) (s : Nat → Nat) (h0 : s 0 = 0) (hs : ∀ n, s (n + 1) = s n + f n) (N : Nat) (hf : ∀ n, n < N → f n = 0) : ∀ n, n ≤ N → s n = 0
  | 0, _ => h0
  | n + 1, hn => by rw [hs, sum_none f s h0 hs N hf n (by omega), hf n (by omega)]
theorem ixI_pw (m i : Nat) (h : i < 26) : ixI (pw m) i = pf m i := by simp [ixI, pw, pl, h]
theorem ixI_qw (m i : Nat) (h : i < 43) : ixI (qw m) i = qf m i := by
  have : i < (ql m 43).length := by rw [ql_length]; exact h
  unfold ixI qw
  rw [List.getD_eq_getElem?_getD, List.getElem?_append_left this]
  simp [ql, h]
theorem ixI_qw43 (m : Nat) : ixI (qw m) 43 = 12 + 2 * (1118 + (m : Int) / 2) + m % 2 := by
  have h : (ql m 43).length = 43 := ql_length _ _
  unfold ixI qw
  rw [List.getD_eq_getElem?_getD, List.getElem?_append_right (by omega), h]
  rfl
theorem ixI_qw44 (m : Nat) : ixI (qw m) 44 = 12 + 2 * (1144 + (m : Int) / 2) + m % 2 := by
  have h : (ql m 43).length = 43 := ql_length _ _
  unfold ixI qw
  rw [List.getD_eq_getElem?_getD, List.getElem?_append_right (by omega), h]
  rfl

theorem ps_none (x : Int) (h1 : 2248 ≤ x) : psN x 86 = 0 := by
  refine sum_none (fun n => cw x (pw n) 26) (psN x) rfl (fun _ => rfl) 86 (fun n hn => ?_) 86 (Nat.le_refl _)
  have := cw_one x (pw n) False 0 26 (fun j hj => ⟨fun h => by rw [ixI_pw _ _ hj] at h; unfold pf at h; omega, fun h => h.1.elim⟩) 26 (Nat.le_refl _)
  rw [this, if_neg (fun h => h.1)]
theorem ps_one (x : Int) (h0 : 12 ≤ x) (h1 : x < 2248) : psN x 86 = 1 := by
  obtain ⟨k, hk⟩ : ∃ k : Nat, x = 12 + 2 * k + (x - 12) % 2 := ⟨((x - 12) / 2).toNat, by omega⟩
  obtain ⟨p, hp⟩ : ∃ p : Nat, (x - 12) % 2 = p := ⟨((x - 12) % 2).toNat, by omega⟩
  rw [hp] at hk
  have hp2 : p < 2 := by omega
  have hk2 : k < 1118 := by omega
  have hr := sum_one (fun n => cw x (pw n) 26) (psN x) rfl (fun _ => rfl) 86 (2 * (k % 43) + p) (fun n hn => ?_) 86 (Nat.le_refl _)
  · rw [hr, if_pos (by omega)]
  · have := cw_one x (pw n) (n = 2 * (k % 43) + p) (k / 43) 26 (fun j hj => by rw [ixI_pw _ _ hj]; unfold pf; omega) 26 (Nat.le_refl _)
    rw [this]
    by_cases e : n = 2 * (k % 43) + p
    · rw [if_pos ⟨e, by omega⟩, if_pos e]
    · rw [if_neg (by omega), if_neg e]
theorem q_solve (k i j : Nat) (hk : k < 1118) (hi : i < 43) (hj : j < 26) : (44 * i + 43 * j) % 1118 = k ↔ i = k % 43 ∧ j = (k / 43 + 26 * 43 - k % 43) % 26 := by
  obtain ⟨a, r, hr, ha, rfl⟩ : ∃ a r, r < 43 ∧ a < 26 ∧ k = 43 * a + r := ⟨k / 43, k % 43, by omega, by omega, by omega⟩
  have e1 : (43 * a + r) % 43 = r := by omega
  have e2 : (43 * a + r) / 43 = a := by omega
  rw [e1, e2]
  constructor
  · intro h
    have e : (44 * i + 43 * j) % 1118 % 43 = (44 * i + 43 * j) % 43 := Nat.mod_mod_of_dvd _ ⟨26, rfl⟩
    rw [h] at e
    have hir : i = r := by omega
    subst hir
    refine ⟨rfl, ?_⟩
    obtain ⟨q, hq⟩ : ∃ q, 44 * i + 43 * j = 1118 * q + (43 * a + i) := ⟨(44 * i + 43 * j) / 1118, by omega⟩
    have h3 : i + j = a + 26 * q := by omega
    have hq2 : q < 4 := by omega
    omega
  · rintro ⟨rfl, hj2⟩
    obtain ⟨t, ht⟩ : ∃ t, a + 26 * 43 - i = 26 * t + j := ⟨(a + 26 * 43 - i) / 26, by omega⟩
    have h4 : 44 * i + 43 * j + 1118 * t = 43 * a + i + 1118 * 43 := by omega
    have ht2 : t ≤ 43 := by omega
    obtain ⟨u, hu⟩ : ∃ u, 43 = t + u := ⟨43 - t, by omega⟩
    have h5 : 44 * i + 43 * j = 43 * a + i + 1118 * u := by omega
    rw [h5, Nat.add_mul_mod_self_left]
    exact Nat.mod_eq_of_lt hk
theorem qs_one (x : Int) (h0 : 12 ≤ x) (h1 : x < 2352) : qsN x 52 = 1 := by
  obtain ⟨k, hk⟩ : ∃ k : Nat, x = 12 + 2 * k + (x - 12) % 2 := ⟨((x - 12) / 2).toNat, by omega⟩
  obtain ⟨p, hp⟩ : ∃ p : Nat, (x - 12) % 2 = p := ⟨((x - 12) % 2).toNat, by omega⟩
  rw [hp] at hk
  have hp2 : p < 2 := by omega
  have key : ∀ (m0 i0 : Nat), m0 < 52 → i0 < 45 → (∀ n, n < 52 → ∀ j, j < 45 → (ixI (qw n) j = x ↔ n = m0 ∧ j = i0)) → qsN x 52 = 1 := fun m0 i0 hm0 hi0 h => by
    have hr := sum_one (fun n => cw x (qw n) 45) (qsN x) rfl (fun _ => rfl) 52 m0 (fun n hn => ?_) 52 (Nat.le_refl _)
    · rw [hr, if_pos hm0]
    · have := cw_one x (qw n) (n = m0) i0 45 (fun j hj => h n hn j hj) 45 (Nat.le_refl _)
      rw [this]
      by_cases e : n = m0
      · rw [if_pos ⟨e, hi0⟩, if_pos e]
      · rw [if_neg (by omega), if_neg e]
  by_cases c1 : k < 1118
  · refine key (2 * ((k / 43 + 26 * 43 - k % 43) % 26) + p) (k % 43) (by omega) (by omega) fun n hn j hj => ?_
    by_cases g1 : j < 43
    · rw [ixI_qw _ _ g1]
      have hs := q_solve k j (n / 2) c1 g1 (by omega)
      unfold qf
      generalize (k / 43 + 26 * 43 - k % 43) % 26 = z at hs ⊢
      generalize k % 43 = y at hs ⊢
      have e : (44 * (j : Int) + 43 * ((n : Int) / 2)) % 1118 = ((44 * j + 43 * (n / 2)) % 1118 : Nat) := by omega
      rw [e]
      generalize (44 * j + 43 * (n / 2)) % 1118 = t at hs ⊢
      omega
    · by_cases g2 : j = 43
      · subst g2; rw [ixI_qw43]; omega
      · obtain rfl : j = 44 := by omega
        rw [ixI_qw44]; omega
  · by_cases c2 : k < 1144
    · refine key (2 * (k - 1118) + p) 43 (by omega) (by omega) fun n hn j hj => ?_
      by_cases g1 : j < 43
      · rw [ixI_qw _ _ g1]; unfold qf; omega
      · by_cases g2 : j = 43
        · subst g2; rw [ixI_qw43]; omega
        · obtain rfl : j = 44 := by omega
          rw [ixI_qw44]; omega
    · refine key (2 * (k - 1144) + p) 44 (by omega) (by omega) fun n hn j hj => ?_
      by_cases g1 : j < 43
      · rw [ixI_qw _ _ g1]; unfold qf; omega
      · by_cases g2 : j = 43
        · subst g2; rw [ixI_qw43]; omega
        · obtain rfl : j = 44 := by omega
          rw [ixI_qw44]; omega
end Go.Proofs.Ytepdcpbgdfjobaa.W8
