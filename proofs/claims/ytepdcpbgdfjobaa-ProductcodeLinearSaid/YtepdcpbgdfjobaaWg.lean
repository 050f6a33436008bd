/- Chapter 8, plain: the encoding is a codeword, keeps what is no parity, is linear and idempotent. -/
import Derived.Test.YtepdcpbgdfjobaaWe
import Derived.Test.YtepdcpbgdfjobaaCode
import Derived.Test.YtepdcpbgdfjobaaDecP
namespace Go.Proofs.Ytepdcpbgdfjobaa.W8
open Go.RowKit
set_option linter.unusedVariables false

theorem pf_at (m i : Nat) : pf m i = 12 + m + 86 * i := by unfold pf; omega
/-- the offsets of the word 'k' -/
theorem wd_at (k i : Nat) (hk : k < 138) (hi : i < (wd k).length) :
    (k < 86 ∧ i < 26 ∧ ixI (wd k) i = 12 + k + 86 * i) ∨ (86 ≤ k ∧ i < 43 ∧ ixI (wd k) i = qf (k - 86) i) ∨ (86 ≤ k ∧ i = 43 ∧ ixI (wd k) i = 2162 + k) ∨ (86 ≤ k ∧ i = 44 ∧ ixI (wd k) i = 2214 + k) := by
  rw [wd_length] at hi
  unfold wd
  by_cases h : k < 86
  · rw [if_pos h] at hi ⊢
    exact .inl ⟨h, hi, by rw [ixI_pw _ _ hi, pf_at]⟩
  · rw [if_neg h] at hi ⊢
    by_cases h1 : i < 43
    · exact .inr (.inl ⟨by omega, h1, ixI_qw _ _ h1⟩)
    · by_cases h2 : i = 43
      · subst h2; exact .inr (.inr (.inl ⟨by omega, rfl, by rw [ixI_qw43]; omega⟩))
      · obtain rfl : i = 44 := by omega
        exact .inr (.inr (.inr ⟨by omega, rfl, by rw [ixI_qw44]; omega⟩))
theorem qf_inj {m i j : Nat} (hm : m < 52) (hi : i < 43) (hj : j < 43) (h : qf m i = qf m j) : i = j := by
  unfold qf at h
  have e1 : (44 * (i : Int) + 43 * ((m : Int) / 2)) % 1118 = ((44 * i + 43 * (m / 2)) % 1118 : Nat) := by omega
  have e2 : (44 * (j : Int) + 43 * ((m : Int) / 2)) % 1118 = ((44 * j + 43 * (m / 2)) % 1118 : Nat) := by omega
  rw [e1, e2] at h
  have hk : (44 * i + 43 * (m / 2)) % 1118 < 1118 := Nat.mod_lt _ (by omega)
  have h1 := (q_solve _ i (m / 2) hk hi (by omega)).1 rfl
  have h2 := (q_solve ((44 * i + 43 * (m / 2)) % 1118) j (m / 2) hk hj (by omega)).1 (by omega)
  omega
theorem wd_inj {k a b : Nat} (hk : k < 138) (ha : a < (wd k).length) (hb : b < (wd k).length) (h : ixI (wd k) a = ixI (wd k) b) : a = b := by
  rcases wd_at k a hk ha with ⟨h1, h2, h3⟩ | ⟨h1, h2, h3⟩ | ⟨h1, h2, h3⟩ | ⟨h1, h2, h3⟩ <;>
  rcases wd_at k b hk hb with ⟨g1, g2, g3⟩ | ⟨g1, g2, g3⟩ | ⟨g1, g2, g3⟩ | ⟨g1, g2, g3⟩ <;>
  rw [h3, g3] at h <;>
  first | omega | exact qf_inj (by omega) h2 g2 h | (have := qf_bd (m := k - 86) (i := a) (by omega); omega) | (have := qf_bd (m := k - 86) (i := b) (by omega); omega)
/-- the parity of a word lies in no earlier one -/
theorem wd_apart {j k a b : Nat} (hk : k < 138) (hj : j < k) (ha : a < (wd j).length) (hb : b < (wd k).length) (hb2 : (wd k).length - 2 ≤ b) : ixI (wd j) a ≠ ixI (wd k) b := by
  intro h
  have hl := wd_length k
  rcases wd_at j a (by omega) ha with ⟨h1, h2, h3⟩ | ⟨h1, h2, h3⟩ | ⟨h1, h2, h3⟩ | ⟨h1, h2, h3⟩ <;>
  rcases wd_at k b hk hb with ⟨g1, g2, g3⟩ | ⟨g1, g2, g3⟩ | ⟨g1, g2, g3⟩ | ⟨g1, g2, g3⟩ <;>
  rw [h3, g3] at h <;>
  first | omega | (rw [if_neg (by omega)] at hl; omega) | (have := qf_bd (m := j - 86) (i := a) (by omega); omega)
theorem wd_par {k b : Nat} (hk : k < 138) (hb : b < (wd k).length) (hb2 : (wd k).length - 2 ≤ b) : 2076 ≤ ixI (wd k) b := by
  have hl := wd_length k
  rcases wd_at k b hk hb with ⟨g1, g2, g3⟩ | ⟨g1, g2, g3⟩ | ⟨g1, g2, g3⟩ | ⟨g1, g2, g3⟩ <;> rw [g3]
  · rw [if_pos g1] at hl; omega
  · rw [if_neg (by omega)] at hl; omega
  · omega
  · omega
theorem wd_len2 (k : Nat) : 26 ≤ (wd k).length ∧ (wd k).length ≤ 45 := by rw [wd_length]; split <;> omega
theorem wd_ix {k i : Nat} (hk : k < 138) (hi : i < (wd k).length) : 12 ≤ ixI (wd k) i ∧ ixI (wd k) i < 2352 := wd_bd hk _ (ixI_mem hi)

/-- a byte behind one step -/
theorem ix_stepW {R : List UInt8} {k : Nat} (hk : k < 138) (hl : R.length = 2352) (f : Int) (x : Nat) (hx1 : (x : Int) ≠ ixI (wd k) ((wd k).length - 2)) (hx2 : (x : Int) ≠ ixI (wd k) ((wd k).length - 1)) : G.ix (stepW R (wd k) f) x = G.ix R x := by
  have h2 := wd_len2 k
  have b1 := wd_ix hk (show (wd k).length - 2 < (wd k).length by omega)
  have b2 := wd_ix hk (show (wd k).length - 1 < (wd k).length by omega)
  unfold stepW
  rw [ix_set _ _ _ _ (by rw [List.length_set]; omega), if_neg (by omega), ix_set _ _ _ _ (by omega), if_neg (by omega)]
theorem take_stepW_other {R : List UInt8} {j k : Nat} (hk : k < 138) (hj : j < k) (hl : R.length = 2352) (f : Int) : takeL (stepW R (wd k) f) (wd j) f = takeL R (wd j) f := by
  apply G.ext_ix
  · rw [takeL_length, takeL_length]
  · intro i hi
    rw [takeL_length] at hi
    rw [ix_takeL _ _ _ _ hi, ix_takeL _ _ _ _ hi]
    unfold sym
    split
    · rfl
    · have h2 := wd_len2 k
      have hb := wd_ix (show j < 138 by omega) hi
      exact ix_stepW hk hl f _ (by have := wd_apart hk hj hi (show (wd k).length - 2 < (wd k).length by omega) (Nat.le_refl _); omega) (by have := wd_apart hk hj hi (show (wd k).length - 1 < (wd k).length by omega) (by omega); omega)
theorem take_stepW_same {R : List UInt8} {k : Nat} (hk : k < 138) (hl : R.length = 2352) (f : Int) (hf : f ≤ 16) : takeL (stepW R (wd k) f) (wd k) f = cwd R (wd k) f := by
  have h2 := wd_len2 k
  have hlast := wd_last hk
  have b1 := wd_ix hk (show (wd k).length - 2 < (wd k).length by omega)
  have b2 := wd_ix hk (show (wd k).length - 1 < (wd k).length by omega)
  apply G.ext_ix
  · rw [takeL_length, cwd_length _ _ _ (by omega)]
  · intro i hi
    rw [takeL_length] at hi
    have hb := wd_ix hk hi
    rw [ix_takeL _ _ _ _ hi]
    by_cases c1 : i < (wd k).length - 2
    · rw [ix_cwd _ _ _ _ c1]
      unfold sym
      split
      · rfl
      · exact ix_stepW hk hl f _ (fun e => by have := wd_inj hk hi (show (wd k).length - 2 < (wd k).length by omega) (by omega); omega) (fun e => by have := wd_inj hk hi (show (wd k).length - 1 < (wd k).length by omega) (by omega); omega)
    · by_cases c2 : i = (wd k).length - 2
      · subst c2
        have hne : ixI (wd k) ((wd k).length - 2) ≠ ixI (wd k) ((wd k).length - 1) := fun e => by
          have := wd_inj hk (show (wd k).length - 2 < (wd k).length by omega) (show (wd k).length - 1 < (wd k).length by omega) e
          omega
        unfold sym
        rw [if_neg (by omega)]
        unfold stepW
        rw [ix_set _ _ _ _ (by rw [List.length_set]; omega), if_neg (by omega), ix_set _ _ _ _ (by omega), if_pos rfl]
      · have c3 : i = (wd k).length - 1 := by omega
        subst c3
        unfold sym
        rw [if_neg (by omega)]
        unfold stepW
        rw [ix_set _ _ _ _ (by rw [List.length_set]; omega), if_pos rfl]
theorem cwd_valid {R : List UInt8} {k : Nat} (f : Int) : G.validB (cwd R (wd k) f) 2 = true := by
  have h2 := wd_len2 k
  have hl : (takeL R ((wd k).take ((wd k).length - 2)) f).length = (wd k).length - 2 := by rw [takeL_length, List.length_take]; omega
  have h := G.enc_valid (takeL R ((wd k).take ((wd k).length - 2)) f) 2 (by
    unfold G.encB
    simp only [Bool.and_eq_true, decide_eq_true_eq]
    refine ⟨⟨⟨by omega, by omega⟩, fun e => ?_⟩, by omega⟩
    rw [e] at hl
    simp at hl
    omega)
  exact h
theorem enc_words {raw : List UInt8} {f : Int} (hl : raw.length = 2352) (hf : f ≤ 16) : ∀ n, n ≤ 138 → ∀ j, j < n → G.validB (takeL (encN raw f n) (wd j) f) 2 = true
  | 0, _, j, h => by omega
  | n + 1, hn, j, h => by
    have hen := encN_length raw f n
    rw [encN]
    by_cases e : j = n
    · subst e
      rw [take_stepW_same (by omega) (by rw [hen]; exact hl) f hf]
      exact cwd_valid f
    · rw [take_stepW_other (by omega) (by omega) (by rw [hen]; exact hl) f]
      exact enc_words hl hf n (by omega) j (by omega)
/-- two codewords with the same data are one -/
theorem code_eq {c d : List UInt8} (hl : c.length = d.length) (h1 : G.validB c 2 = true) (h2 : G.validB d 2 = true) (h : ∀ i, i < c.length - 2 → G.ix c i = G.ix d i) : c = d := by
  obtain ⟨s1, e1⟩ := (G.validB_iff c 2).1 h1
  obtain ⟨s2, e2⟩ := (G.validB_iff d 2).1 h2
  obtain ⟨q1, q2, q3, q4, q5⟩ := (G.shapedB_iff c 2).1 s1
  have hx := G.xorL_length hl
  have hsupp : ∀ k, k ≤ c.length → (G.supp (G.xorL c d) k).length ≤ k - (c.length - 2) := by
    intro k
    induction k with
    | zero => intro _; simp [G.supp]
    | succ k ih =>
      intro hk
      rw [G.supp_succ]
      by_cases hlt : k < c.length - 2
      · rw [if_pos (by rw [G.ix_xorL hl, h k hlt]; simp)]
        have := ih (by omega)
        omega
      · have := ih (by omega)
        split <;> omega
  have hz := G.few_zero (G.xorL c d) 2 (by omega) (fun k hk => by rw [G.eval_xorL hl, e1 k hk, e2 k hk]; rfl) (by rw [hx]; have := hsupp c.length (Nat.le_refl _); omega)
  apply G.ext_ix hl
  intro i hi
  have := hz i
  rw [G.ix_xorL hl] at this
  exact UInt8.xor_eq_zero_iff.1 this
/-- a word that is a codeword is left alone -/
theorem step_valid {R : List UInt8} {k : Nat} {f : Int} (hk : k < 138) (hf : f ≤ 16) (h : G.validB (takeL R (wd k) f) 2 = true) : stepW R (wd k) f = R := by
  have h2 := wd_len2 k
  have hlast := wd_last hk
  have e : cwd R (wd k) f = takeL R (wd k) f := code_eq (by rw [cwd_length _ _ _ (by omega), takeL_length]) (cwd_valid f) h (fun i hi => by
    rw [cwd_length _ _ _ (by omega)] at hi
    rw [ix_cwd _ _ _ _ hi, ix_takeL _ _ _ _ (by omega)])
  unfold stepW
  rw [e, ix_takeL _ _ _ _ (by omega), ix_takeL _ _ _ _ (by omega)]
  unfold sym
  rw [if_neg (by omega), if_neg (by omega), set_self, set_self]
theorem enc_same {R : List UInt8} {f : Int} (hf : f ≤ 16) (h : ∀ j, j < 138 → G.validB (takeL R (wd j) f) 2 = true) : ∀ k, k ≤ 138 → encN R f k = R
  | 0, _ => rfl
  | k + 1, hk => by rw [encN, enc_same hf h k (by omega), step_valid (by omega) hf (h k (by omega))]
/-- what is no parity stays -/
theorem enc_keeps {raw : List UInt8} {f : Int} (hl : raw.length = 2352) (x : Nat) (hx : x < 2076) : ∀ k, k ≤ 138 → G.ix (encN raw f k) x = G.ix raw x
  | 0, _ => rfl
  | k + 1, hk => by
    have h2 := wd_len2 k
    rw [encN, ix_stepW (by omega) (by rw [encN_length]; exact hl) f x (by have := wd_par (show k < 138 by omega) (show (wd k).length - 2 < (wd k).length by omega) (Nat.le_refl _); omega) (by have := wd_par (show k < 138 by omega) (show (wd k).length - 1 < (wd k).length by omega) (by omega); omega)]
    exact enc_keeps hl x hx k (by omega)
/-- linear -/
theorem take_xor {a b : List UInt8} (h : a.length = b.length) (ws : List Int) (f : Int) : takeL (G.xorL a b) ws f = G.xorL (takeL a ws f) (takeL b ws f) := by
  have hl : (takeL a ws f).length = (takeL b ws f).length := by rw [takeL_length, takeL_length]
  apply G.ext_ix
  · rw [takeL_length, G.xorL_length hl, takeL_length]
  · intro i hi
    rw [takeL_length] at hi
    rw [G.ix_xorL hl, ix_takeL _ _ _ _ hi, ix_takeL _ _ _ _ hi, ix_takeL _ _ _ _ hi]
    unfold sym
    split
    · rfl
    · exact G.ix_xorL h _
theorem step_xor {a b : List UInt8} (h : a.length = b.length) {ws : List Int} (f : Int) : stepW (G.xorL a b) ws f = G.xorL (stepW a ws f) (stepW b ws f) := by
  have hs : (stepW a ws f).length = (stepW b ws f).length := by rw [stepW_length, stepW_length, h]
  have hc : cwd (G.xorL a b) ws f = G.xorL (cwd a ws f) (cwd b ws f) := by
    unfold cwd
    rw [take_xor h, G.enc_xorL _ _ _ (by rw [takeL_length, takeL_length])]
  have hcl : (cwd a ws f).length = (cwd b ws f).length := by
    unfold cwd
    rw [G.enc_length, G.enc_length, takeL_length, takeL_length]
  have hx := G.xorL_length h
  apply G.ext_ix
  · rw [stepW_length, hx, G.xorL_length hs, stepW_length]
  · intro i hi
    rw [stepW_length, hx] at hi
    rw [G.ix_xorL hs]
    unfold stepW
    rw [hc, G.ix_xorL hcl, G.ix_xorL hcl]
    have key : ∀ (l : List UInt8) (p q : Nat) (u v : UInt8), l.length = a.length → G.ix ((l.set p u).set q v) i = if i = q then v else if i = p then u else G.ix l i := by
      intro l p q u v hl
      by_cases c1 : q < l.length
      · rw [ix_set _ _ _ _ (by rw [List.length_set]; exact c1)]
        by_cases e1 : i = q
        · rw [if_pos e1, if_pos e1]
        · rw [if_neg e1, if_neg e1]
          by_cases c2 : p < l.length
          · rw [ix_set _ _ _ _ c2]
          · rw [List.set_eq_of_length_le (by omega), if_neg (by omega)]
      · rw [List.set_eq_of_length_le (by rw [List.length_set]; omega), if_neg (by omega)]
        by_cases c2 : p < l.length
        · rw [ix_set _ _ _ _ c2]
        · rw [List.set_eq_of_length_le (by omega), if_neg (by omega)]
    rw [key _ _ _ _ _ hx, key _ _ _ _ _ rfl, key _ _ _ _ _ h.symm]
    split
    · rfl
    · split
      · rfl
      · exact G.ix_xorL h _
theorem enc_xor {a b : List UInt8} (h : a.length = b.length) (f : Int) : ∀ k, encN (G.xorL a b) f k = G.xorL (encN a f k) (encN b f k)
  | 0 => rfl
  | k + 1 => by rw [encN, enc_xor h f k, step_xor (by rw [encN_length, encN_length, h])]; rfl
end Go.Proofs.Ytepdcpbgdfjobaa.W8
