/- Parts: XWe XWg XWu -/
import Derived.Test.YtflmjdjkfognjaaGreatTe13
import Derived.Test.YtflmjdjkfognjaaGreatTe17
import Derived.Test.YtflmjdjkfognjaaGreatTe01
import Derived.Test.YtflmjdjkfognjaaGreatTe03
namespace Go.Proofs.YtflmjdjkfognjaaGreat.W8
open Go.RowKit
set_option linter.unusedVariables false
def cwd (raw : List UInt8) (ws : List Int) (f : Int) : List UInt8 := G.enc (takeL raw (ws.take (ws.length - 2)) f) 2
def stepW (raw : List UInt8) (ws : List Int) (f : Int) : List UInt8 :=
  (raw.set (ixI ws (ws.length - 2)).toNat (G.ix (cwd raw ws f) (ws.length - 2))).set (ixI ws (ws.length - 1)).toNat (G.ix (cwd raw ws f) (ws.length - 1))
theorem stepW_length (raw : List UInt8) (ws : List Int) (f : Int) : (stepW raw ws f).length = raw.length := by simp [stepW]
theorem cwd_length (raw : List UInt8) (ws : List Int) (f : Int) (h : 2 ≤ ws.length) : (cwd raw ws f).length = ws.length := by
  unfold cwd
  rw [G.enc_length, takeL_length, List.length_take]
  omega
theorem ix_append_left {l m : List UInt8} {i : Nat} (h : i < l.length) : G.ix (l ++ m) i = G.ix l i := by
  unfold G.ix
  rw [List.getD_eq_getElem?_getD, List.getD_eq_getElem?_getD, List.getElem?_append_left h]
theorem ixI_take {l : List Int} {k i : Nat} (h : i < k) : ixI (l.take k) i = ixI l i := by simp [ixI, h]
theorem ix_cwd (raw : List UInt8) (ws : List Int) (f : Int) (i : Nat) (h : i < ws.length - 2) : G.ix (cwd raw ws f) i = sym raw f (ixI ws i) := by
  have hl : i < (takeL raw (ws.take (ws.length - 2)) f).length := by rw [takeL_length, List.length_take]; omega
  unfold cwd G.enc
  rw [ix_append_left hl, ix_takeL _ _ _ _ (by rw [takeL_length] at hl; exact hl), ixI_take h]
theorem set_self (l : List UInt8) (i : Nat) : l.set i (G.ix l i) = l := by
  apply G.ext_ix
  · simp
  · intro j hj
    by_cases h : i < l.length
    · rw [ix_set _ _ _ _ h]; split
      · next e => rw [e]
      · rfl
    · rw [List.set_eq_of_length_le (by omega)]
theorem pk_same (raw : List UInt8) (ws : List Int) (f : Int) (s : List UInt8) : ∀ k, (∀ i, i < k → G.ix s i = sym raw f (ixI ws i)) → pkL raw ws f s k = raw
  | 0, _ => rfl
  | k + 1, h => by
    have ih := pk_same raw ws f s k (fun i hi => h i (by omega))
    unfold pkL
    rw [ih]
    split
    · rfl
    · next hf =>
      rw [h k (by omega)]
      unfold sym
      rw [if_neg hf]
      exact set_self _ _
theorem put_enc (raw : List UInt8) (ws : List Int) (f : Int) (hL : 2 ≤ ws.length) (h1 : f ≤ ixI ws (ws.length - 2)) (h2 : f ≤ ixI ws (ws.length - 1)) : putL raw ws f (cwd raw ws f) = stepW raw ws f := by
  have hs := pk_same raw ws f (cwd raw ws f) (ws.length - 2) (fun i hi => ix_cwd raw ws f i hi)
  obtain ⟨n, hn⟩ : ∃ n, ws.length = n + 2 := ⟨ws.length - 2, by omega⟩
  have e1 : ws.length - 2 = n := by omega
  have e2 : ws.length - 1 = n + 1 := by omega
  rw [e1] at hs h1
  rw [e2] at h2
  unfold putL stepW
  rw [e1, e2, hn]
  show (if ixI ws (n + 1) < f then pkL raw ws f (cwd raw ws f) (n + 1) else (pkL raw ws f (cwd raw ws f) (n + 1)).set (ixI ws (n + 1)).toNat (G.ix (cwd raw ws f) (n + 1))) = _
  rw [if_neg (by omega)]
  congr 1
  show (if ixI ws n < f then pkL raw ws f (cwd raw ws f) n else (pkL raw ws f (cwd raw ws f) n).set (ixI ws n).toNat (G.ix (cwd raw ws f) n)) = _
  rw [if_neg (by omega), hs]
theorem wd_last {k : Nat} (hk : k < 138) : 16 ≤ ixI (wd k) ((wd k).length - 2) ∧ 16 ≤ ixI (wd k) ((wd k).length - 1) := by
  rw [wd_length]
  unfold wd
  by_cases h : k < 86
  · rw [if_pos h, if_pos h]
    show 16 ≤ ixI (pw k) 24 ∧ 16 ≤ ixI (pw k) 25
    rw [ixI_pw _ _ (by omega), ixI_pw _ _ (by omega)]
    unfold pf; omega
  · rw [if_neg h, if_neg h]
    show 16 ≤ ixI (qw (k - 86)) 43 ∧ 16 ≤ ixI (qw (k - 86)) 44
    rw [ixI_qw43, ixI_qw44]
    omega
def encN (raw : List UInt8) (f : Int) : Nat → List UInt8
  | 0 => raw
  | k + 1 => stepW (encN raw f k) (wd k) f
theorem encN_length (raw : List UInt8) (f : Int) : ∀ k, (encN raw f k).length = raw.length
  | 0 => rfl
  | k + 1 => by rw [encN, stepW_length, encN_length raw f k]
theorem encN_put (raw : List UInt8) (f : Int) (k : Nat) (hk : k < 138) (hf : f ≤ 16) : putL (encN raw f k) (wd k) f (cwd (encN raw f k) (wd k) f) = encN raw f (k + 1) := by
  have h := wd_last hk
  have hl := wd_length k
  exact put_enc _ _ _ (by rw [hl]; split <;> omega) (by omega) (by omega)
theorem run_cutI {P : Program} {t e : TypeId} (ht : P.underlying t = some (.slice e)) (hs : (P.info? e).map (·.size) = some 1) {v : Value} {l : List Int} {w : World} (h : RdI w v l) (hi : Nat) (h2 : hi ≤ l.length) :
    ∃ v', (∀ W, RdI W v l → RdI W v' (l.take hi)) ∧ ∀ (y : Int) (w' : World), y = hi → (Instr.slice t v none (some (.int .i64 y)) none).run P w' = .ok v' w' := by
  obtain ⟨h0, ⟨a, c, b, off, rfl, hc, hcell⟩, hr⟩ := h
  cases hq : P.info? e with
  | none => simp [hq] at hs
  | some i =>
    have hs1 : i.size = 1 := by simpa [hq] using hs
    refine ⟨.slice (if c = 0 then a else a.map (·.add (0 * 1))) hi c, fun W hW => ?_, ?_⟩
    · obtain ⟨_, ⟨a', c', b', off', e1, hc', hcell'⟩, hr'⟩ := hW
      injection e1 with e1 e2 e3
      subst e1 e3
      have hL : (l.take hi).length = hi := by rw [List.length_take]; omega
      refine ⟨by rw [hL]; omega, ⟨_, c, b', off', by rw [hL], by rw [hL]; omega, fun j hj => ?_⟩, fun j hj => ?_⟩
      · rw [hL] at hj
        obtain ⟨g1, g2⟩ := hcell' j (by omega)
        exact ⟨by rw [g1]; split <;> simp [Addr.add], by rw [ixI_take hj]; exact g2⟩
      · rw [hL] at hj
        rw [ixI_take hj]
        exact hr' j (by omega)
    · rintro y w' rfl
      simp [Instr.slice, run_underlying ht, Instr.sliceBounds, run_sliceBound, sizeOf, typeInfo, hq, (by omega : hi ≤ c)]
end Go.Proofs.YtflmjdjkfognjaaGreat.W8
namespace Go.Proofs.YtflmjdjkfognjaaGreat.W8
open Go.RowKit
set_option linter.unusedVariables false
theorem pf_at (m i : Nat) : pf m i = 12 + m + 86 * i := by unfold pf; omega
theorem wd_at (k i : Nat) (hk : k < 138) (hi : i < (wd k).length) :
    (k < 86 ∧ i < 26 ∧ ixI (wd k) i = 12 + k + 86 * i) ∨ (86 ≤ k ∧ i < 43 ∧ ixI (wd k) i = qf (k - 86) i) ∨ (86 ≤ k ∧ i = 43 ∧ ixI (wd k) i = 2162 + k) ∨ (86 ≤ k ∧ i = 44 ∧ ixI (wd k) i = 2214 + k) := by
  rw [wd_length] at hi
  unfold wd
  by_cases h : k < 86
  · rw [if_pos h] at hi ⊢
    exact .inl ⟨h, hi, by rw [ixI_pw _ _ hi, pf_at]⟩
  · rw [if_neg h] at hi ⊢
    by_cases h1 : i < 43
    · exact .inr (.inl ⟨by omega, h1, ixI_qw _ _ h1⟩)
    · by_cases h2 : i = 43
      · subst h2; exact .inr (.inr (.inl ⟨by omega, rfl, by rw [ixI_qw43]; omega⟩))
      · obtain rfl : i = 44 := by omega
        exact .inr (.inr (.inr ⟨by omega, rfl, by rw [ixI_qw44]; omega⟩))
theorem qf_inj {m i j : Nat} (hm : m < 52) (hi : i < 43) (hj : j < 43) (h : qf m i = qf m j) : i = j := by
  unfold qf at h
  have e1 : (44 * (i : Int) + 43 * ((m : Int) / 2)) % 1118 = ((44 * i + 43 * (m / 2)) % 1118 : Nat) := by omega
  have e2 : (44 * (j : Int) + 43 * ((m : Int) / 2)) % 1118 = ((44 * j + 43 * (m / 2)) % 1118 : Nat) := by omega
  rw [e1, e2] at h
  have hk : (44 * i + 43 * (m / 2)) % 1118 < 1118 := Nat.mod_lt _ (by omega)
  have h1 := (q_solve _ i (m / 2) hk hi (by omega)).1 rfl
  have h2 := (q_solve ((44 * i + 43 * (m / 2)) % 1118) j (m / 2) hk hj (by omega)).1 (by omega)
  omega
theorem wd_inj {k a b : Nat} (hk : k < 138) (ha : a < (wd k).length) (hb : b < (wd k).length) (h : ixI (wd k) a = ixI (wd k) b) : a = b := by
  rcases wd_at k a hk ha with ⟨h1, h2, h3⟩ | ⟨h1, h2, h3⟩ | ⟨h1, h2, h3⟩ | ⟨h1, h2, h3⟩ <;>
  rcases wd_at k b hk hb with ⟨g1, g2, g3⟩ | ⟨g1, g2, g3⟩ | ⟨g1, g2, g3⟩ | ⟨g1, g2, g3⟩ <;>
  rw [h3, g3] at h <;>
  first | omega | exact qf_inj (by omega) h2 g2 h | (have := qf_bd (m := k - 86) (i := a) (by omega); omega) | (have := qf_bd (m := k - 86) (i := b) (by omega); omega)
theorem wd_apart {j k a b : Nat} (hk : k < 138) (hj : j < k) (ha : a < (wd j).length) (hb : b < (wd k).length) (hb2 : (wd k).length - 2 ≤ b) : ixI (wd j) a ≠ ixI (wd k) b := by
  intro h
  have hl := wd_length k
  rcases wd_at j a (by omega) ha with ⟨h1, h2, h3⟩ | ⟨h1, h2, h3⟩ | ⟨h1, h2, h3⟩ | ⟨h1, h2, h3⟩ <;>
  rcases wd_at k b hk hb with ⟨g1, g2, g3⟩ | ⟨g1, g2, g3⟩ | ⟨g1, g2, g3⟩ | ⟨g1, g2, g3⟩ <;>
  rw [h3, g3] at h <;>
  first | omega | (rw [if_neg (by omega)] at hl; omega) | (have := qf_bd (m := j - 86) (i := a) (by omega); omega)
theorem wd_par {k b : Nat} (hk : k < 138) (hb : b < (wd k).length) (hb2 : (wd k).length - 2 ≤ b) : 2076 ≤ ixI (wd k) b := by
  have hl := wd_length k
  rcases wd_at k b hk hb with ⟨g1, g2, g3⟩ | ⟨g1, g2, g3⟩ | ⟨g1, g2, g3⟩ | ⟨g1, g2, g3⟩ <;> rw [g3]
  · rw [if_pos g1] at hl; omega
  · rw [if_neg (by omega)] at hl; omega
  · omega
  · omega
theorem wd_len2 (k : Nat) : 26 ≤ (wd k).length ∧ (wd k).length ≤ 45 := by rw [wd_length]; split <;> omega
theorem wd_ix {k i : Nat} (hk : k < 138) (hi : i < (wd k).length) : 12 ≤ ixI (wd k) i ∧ ixI (wd k) i < 2352 := wd_bd hk _ (ixI_mem hi)
theorem ix_stepW {R : List UInt8} {k : Nat} (hk : k < 138) (hl : R.length = 2352) (f : Int) (x : Nat) (hx1 : (x : Int) ≠ ixI (wd k) ((wd k).length - 2)) (hx2 : (x : Int) ≠ ixI (wd k) ((wd k).length - 1)) : G.ix (stepW R (wd k) f) x = G.ix R x := by
  have h2 := wd_len2 k
  have b1 := wd_ix hk (show (wd k).length - 2 < (wd k).length by omega)
  have b2 := wd_ix hk (show (wd k).length - 1 < (wd k).length by omega)
  unfold stepW
  rw [ix_set _ _ _ _ (by rw [List.length_set]; omega), if_neg (by omega), ix_set _ _ _ _ (by omega), if_neg (by omega)]
theorem take_stepW_other {R : List UInt8} {j k : Nat} (hk : k < 138) (hj : j < k) (hl : R.length = 2352) (f : Int) : takeL (stepW R (wd k) f) (wd j) f = takeL R (wd j) f := by
  apply G.ext_ix
  · rw [takeL_length, takeL_length]
  · intro i hi
    rw [takeL_length] at hi
    rw [ix_takeL _ _ _ _ hi, ix_takeL _ _ _ _ hi]
    unfold sym
    split
    · rfl
    · have h2 := wd_len2 k
      have hb := wd_ix (show j < 138 by omega) hi
      exact ix_stepW hk hl f _ (by have := wd_apart hk hj hi (show (wd k).length - 2 < (wd k).length by omega) (Nat.le_refl _); omega) (by have := wd_apart hk hj hi (show (wd k).length - 1 < (wd k).length by omega) (by omega); omega)
theorem take_stepW_same {R : List UInt8} {k : Nat} (hk : k < 138) (hl : R.length = 2352) (f : Int) (hf : f ≤ 16) : takeL (stepW R (wd k) f) (wd k) f = cwd R (wd k) f := by
  have h2 := wd_len2 k
  have hlast := wd_last hk
  have b1 := wd_ix hk (show (wd k).length - 2 < (wd k).length by omega)
  have b2 := wd_ix hk (show (wd k).length - 1 < (wd k).length by omega)
  apply G.ext_ix
  · rw [takeL_length, cwd_length _ _ _ (by omega)]
  · intro i hi
    rw [takeL_length] at hi
    have hb := wd_ix hk hi
    rw [ix_takeL _ _ _ _ hi]
    by_cases c1 : i < (wd k).length - 2
    · rw [ix_cwd _ _ _ _ c1]
      unfold sym
      split
      · rfl
      · exact ix_stepW hk hl f _ (fun e => by have := wd_inj hk hi (show (wd k).length - 2 < (wd k).length by omega) (by omega); omega) (fun e => by have := wd_inj hk hi (show (wd k).length - 1 < (wd k).length by omega) (by omega); omega)
    · by_cases c2 : i = (wd k).length - 2
      · subst c2
        have hne : ixI (wd k) ((wd k).length - 2) ≠ ixI (wd k) ((wd k).length - 1) := fun e => by
          have := wd_inj hk (show (wd k).length - 2 < (wd k).length by omega) (show (wd k).length - 1 < (wd k).length by omega) e
          omega
        unfold sym
        rw [if_neg (by omega)]
        unfold stepW
        rw [ix_set _ _ _ _ (by rw [List.length_set]; omega), if_neg (by omega), ix_set _ _ _ _ (by omega), if_pos rfl]
      · have c3 : i = (wd k).length - 1 := by omega
        subst c3
        unfold sym
        rw [if_neg (by omega)]
        unfold stepW
        rw [ix_set _ _ _ _ (by rw [List.length_set]; omega), if_pos rfl]
theorem cwd_valid {R : List UInt8} {k : Nat} (f : Int) : G.validB (cwd R (wd k) f) 2 = true := by
  have h2 := wd_len2 k
  have hl : (takeL R ((wd k).take ((wd k).length - 2)) f).length = (wd k).length - 2 := by rw [takeL_length, List.length_take]; omega
  have h := G.enc_valid (takeL R ((wd k).take ((wd k).length - 2)) f) 2 (by
    unfold G.encB
    simp only [Bool.and_eq_true, decide_eq_true_eq]
    refine ⟨⟨⟨by omega, by omega⟩, fun e => ?_⟩, by omega⟩
    rw [e] at hl
    simp at hl
    omega)
  exact h
theorem enc_words {raw : List UInt8} {f : Int} (hl : raw.length = 2352) (hf : f ≤ 16) : ∀ n, n ≤ 138 → ∀ j, j < n → G.validB (takeL (encN raw f n) (wd j) f) 2 = true
  | 0, _, j, h => by omega
  | n + 1, hn, j, h => by
    have hen := encN_length raw f n
    rw [encN]
    by_cases e : j = n
    · subst e
      rw [take_stepW_same (by omega) (by rw [hen]; exact hl) f hf]
      exact cwd_valid f
    · rw [take_stepW_other (by omega) (by omega) (by rw [hen]; exact hl) f]
      exact enc_words hl hf n (by omega) j (by omega)
theorem code_eq {c d : List UInt8} (hl : c.length = d.length) (h1 : G.validB c 2 = true) (h2 : G.validB d 2 = true) (h : ∀ i, i < c.length - 2 → G.ix c i = G.ix d i) : c = d := by
  obtain ⟨s1, e1⟩ := (G.validB_iff c 2).1 h1
  obtain ⟨s2, e2⟩ := (G.validB_iff d 2).1 h2
  obtain ⟨q1, q2, q3, q4, q5⟩ := (G.shapedB_iff c 2).1 s1
  have hx := G.xorL_length hl
  have hsupp : ∀ k, k ≤ c.length → (G.supp (G.xorL c d) k).length ≤ k - (c.length - 2) := by
    intro k
    induction k with
    | zero => intro _; simp [G.supp]
    | succ k ih =>
      intro hk
      rw [G.supp_succ]
      by_cases hlt : k < c.length - 2
      · rw [if_pos (by rw [G.ix_xorL hl, h k hlt]; simp)]
        have := ih (by omega)
        omega
      · have := ih (by omega)
        split <;> omega
  have hz := G.few_zero (G.xorL c d) 2 (by omega) (fun k hk => by rw [G.eval_xorL hl, e1 k hk, e2 k hk]; rfl) (by rw [hx]; have := hsupp c.length (Nat.le_refl _); omega)
  apply G.ext_ix hl
  intro i hi
  have := hz i
  rw [G.ix_xorL hl] at this
  exact UInt8.xor_eq_zero_iff.1 this
theorem step_valid {R : List UInt8} {k : Nat} {f : Int} (hk : k < 138) (hf : f ≤ 16) (h : G.validB (takeL R (wd k) f) 2 = true) : stepW R (wd k) f = R := by
  have h2 := wd_len2 k
  have hlast := wd_last hk
  have e : cwd R (wd k) f = takeL R (wd k) f := code_eq (by rw [cwd_length _ _ _ (by omega), takeL_length]) (cwd_valid f) h (fun i hi => by
    rw [cwd_length _ _ _ (by omega)] at hi
    rw [ix_cwd _ _ _ _ hi, ix_takeL _ _ _ _ (by omega)])
  unfold stepW
  rw [e, ix_takeL _ _ _ _ (by omega), ix_takeL _ _ _ _ (by omega)]
  unfold sym
  rw [if_neg (by omega), if_neg (by omega), set_self, set_self]
theorem enc_same {R : List UInt8} {f : Int} (hf : f ≤ 16) (h : ∀ j, j < 138 → G.validB (takeL R (wd j) f) 2 = true) : ∀ k, k ≤ 138 → encN R f k = R
  | 0, _ => rfl
  | k + 1, hk => by rw [encN, enc_same hf h k (by omega), step_valid (by omega) hf (h k (by omega))]
theorem enc_keeps {raw : List UInt8} {f : Int} (hl : raw.length = 2352) (x : Nat) (hx : x < 2076) : ∀ k, k ≤ 138 → G.ix (encN raw f k) x = G.ix raw x
  | 0, _ => rfl
  | k + 1, hk => by
    have h2 := wd_len2 k
    rw [encN, ix_stepW (by omega) (by rw [encN_length]; exact hl) f x (by have := wd_par (show k < 138 by omega) (show (wd k).length - 2 < (wd k).length by omega) (Nat.le_refl _); omega) (by have := wd_par (show k < 138 by omega) (show (wd k).length - 1 < (wd k).length by omega) (by omega); omega)]
    exact enc_keeps hl x hx k (by omega)
end Go.Proofs.YtflmjdjkfognjaaGreat.W8
namespace Go.Proofs.YtflmjdjkfognjaaGreat.W8
open Go.RowKit
set_option linter.unusedVariables false
theorem posN8_iff (ws S : List Int) (i : Nat) : ∀ k, (i : Int) ∈ posN8 ws S k ↔ i < k ∧ S.contains (ixI ws i) = true
  | 0 => by simp [posN8]
  | k + 1 => by
    have ih := posN8_iff ws S i k
    unfold posN8
    by_cases hc : S.contains (ixI ws k) = true
    · rw [if_pos hc, List.mem_append, ih]
      constructor
      · rintro (h | h)
        · exact ⟨by omega, h.2⟩
        · have : i = k := by simp at h; omega
          subst this; exact ⟨by omega, hc⟩
      · rintro ⟨h1, h2⟩
        by_cases e : i = k
        · right; simp [e]
        · left; exact ⟨by omega, h2⟩
    · rw [if_neg hc, ih]
      constructor
      · rintro ⟨h1, h2⟩; exact ⟨by omega, h2⟩
      · rintro ⟨h1, h2⟩
        by_cases e : i = k
        · subst e; exact absurd h2 hc
        · exact ⟨by omega, h2⟩
theorem ixI_append {l m : List Int} {i : Nat} (h : i < l.length) : ixI (l ++ m) i = ixI l i := by
  unfold ixI
  rw [List.getD_eq_getElem?_getD, List.getD_eq_getElem?_getD, List.getElem?_append_left h]
theorem ixI_last (l : List Int) (x : Int) : ixI (l ++ [x]) l.length = x := by simp [ixI]
theorem posN_append (n : Nat) (l m : List Int) : ∀ k, k ≤ l.length → G.posN n (l ++ m) k = G.posN n l k
  | 0, _ => rfl
  | k + 1, h => by
    unfold G.posN
    rw [posN_append n l m k (by omega), ixI_append (by omega)]
    by_cases e : 0 < k
    · rw [ixI_append (i := k - 1) (by omega)]
    · simp [e]
theorem posB_snoc {n : Nat} {l : List Int} {x : Int} (h : G.posB n l = true) (h0 : 0 ≤ x) (hx : x < n) (hl : ∀ y ∈ l, y < x) : G.posB n (l ++ [x]) = true := by
  unfold G.posB at h ⊢
  rw [List.length_append, List.length_singleton]
  show (G.posN n (l ++ [x]) l.length && _) = true
  rw [posN_append n l [x] _ (Nat.le_refl _), h, Bool.true_and, ixI_last]
  by_cases e : 0 < l.length
  · have h2 := hl _ (ixI_mem (show l.length - 1 < l.length by omega))
    rw [ixI_append (i := l.length - 1) (by omega)]
    have a1 : ¬ x < 0 := by omega
    have a2 : ¬ (n : Int) ≤ x := by omega
    have a3 : ¬ x ≤ ixI l (l.length - 1) := by omega
    simp [a1, a2, a3]
  · have a1 : ¬ x < 0 := by omega
    have a2 : ¬ (n : Int) ≤ x := by omega
    simp [a1, a2, e]
theorem posN8_posB (ws S : List Int) (n : Nat) : ∀ k, k ≤ n → G.posB n (posN8 ws S k) = true
  | 0, _ => rfl
  | k + 1, h => by
    have ih := posN8_posB ws S n k (by omega)
    unfold posN8
    split
    · exact posB_snoc ih (by omega) (by omega) (fun y hy => (posN8_bd ws S k y hy).2)
    · exact ih
theorem posS_posB (ws S : List Int) : G.posB ws.length (posS ws S) = true := posN8_posB ws S _ _ (Nat.le_refl _)
theorem mem_posS {ws S : List Int} {i : Nat} (h : i < ws.length) : (i : Int) ∈ posS ws S ↔ ixI ws i ∈ S := by
  unfold posS
  rw [posN8_iff]
  simp [h]
theorem take_snocI' (l : List Int) (k : Nat) (h : k < l.length) : l.take (k + 1) = l.take k ++ [ixI l k] := by
  rw [List.take_succ_eq_append_getElem h, ixI_get h]
theorem relN_mem (S ws : List Int) (x : Int) : ∀ k, k ≤ ws.length → (x ∈ relN S ws k ↔ x ∈ S ∧ x ∉ ws.take k)
  | 0, _ => by simp [relN]
  | k + 1, h => by
    rw [relN, take_snocI' ws k (by omega)]
    unfold del
    rw [List.mem_filter, relN_mem S ws x k (by omega), List.mem_append]
    simp only [List.mem_singleton, bne_iff_ne, ne_eq]
    constructor
    · rintro ⟨⟨h1, h2⟩, h3⟩; exact ⟨h1, fun h => h.elim h2 h3⟩
    · rintro ⟨h1, h2⟩; exact ⟨⟨h1, fun h => h2 (.inl h)⟩, fun h => h2 (.inr h)⟩
theorem rel_mem (S ws : List Int) (x : Int) : x ∈ rel S ws ↔ x ∈ S ∧ x ∉ ws := by
  unfold rel
  rw [relN_mem S ws x _ (Nat.le_refl _), List.take_length]
theorem insB_take (c : List UInt8) (ws : List Int) (f : Int) : insB ws f (takeL c ws f) = true := by
  unfold insB
  have h : ∀ k, k ≤ ws.length → insN ws f (takeL c ws f) k = true := by
    intro k
    induction k with
    | zero => intro _; rfl
    | succ k ih =>
      intro hk
      rw [insN, ih (by omega), Bool.true_and, ix_takeL _ _ _ _ (by omega)]
      unfold sym
      by_cases h : ixI ws k < f
      · rw [if_pos h]; simp
      · have : f ≤ ixI ws k := by omega
        simp [this]
  exact h _ (Nat.le_refl _)
theorem pk_fix {R c : List UInt8} {ws : List Int} {f : Int} (hl : R.length = c.length) (hb : ∀ y ∈ ws, 0 ≤ y ∧ y < R.length) (x : Nat) : ∀ k, k ≤ ws.length → G.ix (pkL R ws f (takeL c ws f) k) x = if (x : Int) ∈ ws.take k ∧ f ≤ x then G.ix c x else G.ix R x
  | 0, _ => by rw [if_neg (by simp)]; rfl
  | k + 1, h => by
    have ih := pk_fix (f := f) hl hb x k (by omega)
    have hy := hb _ (ixI_mem (show k < ws.length by omega))
    rw [take_snocI' ws k (by omega)]
    unfold pkL
    by_cases hf : ixI ws k < f
    · rw [if_pos hf, ih]
      by_cases c1 : (x : Int) ∈ ws.take k ∧ f ≤ x
      · rw [if_pos c1, if_pos ⟨List.mem_append_left _ c1.1, c1.2⟩]
      · rw [if_neg c1, if_neg]
        rintro ⟨h1, h2⟩
        rcases List.mem_append.1 h1 with h1 | h1
        · exact c1 ⟨h1, h2⟩
        · simp at h1; omega
    · rw [if_neg hf, ix_set _ _ _ _ (by rw [pkL_length]; omega), ih, ix_takeL _ _ _ _ (by omega)]
      unfold sym
      rw [if_neg hf]
      by_cases e : x = (ixI ws k).toNat
      · rw [if_pos e, if_pos ⟨List.mem_append_right _ (by simp; omega), by omega⟩, e]
      · rw [if_neg e]
        by_cases c1 : (x : Int) ∈ ws.take k ∧ f ≤ x
        · rw [if_pos c1, if_pos ⟨List.mem_append_left _ c1.1, c1.2⟩]
        · rw [if_neg c1, if_neg]
          rintro ⟨h1, h2⟩
          rcases List.mem_append.1 h1 with h1 | h1
          · exact c1 ⟨h1, h2⟩
          · simp at h1; omega
theorem put_fix {R c : List UInt8} {ws : List Int} {f : Int} (hl : R.length = c.length) (hb : ∀ y ∈ ws, 0 ≤ y ∧ y < R.length) (x : Nat) : G.ix (putL R ws f (takeL c ws f)) x = if (x : Int) ∈ ws ∧ f ≤ x then G.ix c x else G.ix R x := by
  have := pk_fix (f := f) hl hb x ws.length (Nat.le_refl _)
  rw [List.take_length] at this
  exact this
structure Good (c : List UInt8) (f : Int) : Prop where
  len : c.length = 2352
  word : ∀ k, k < 138 → G.validB (takeL c (wd k) f) 2 = true
theorem step_spec {R c : List UInt8} {S : List Int} {f : Int} {C : Bool} {k : Nat} (hc : Good c f) (hl : R.length = 2352) (hk : k < 138) (h : 2 * G.othN (takeL R (wd k) f) (takeL c (wd k) f) (posS (wd k) S) (wd k).length + (posS (wd k) S).length ≤ 2) :
    passS f (R, S, C) k = (putL R (wd k) f (takeL c (wd k) f), rel S (wd k), putB R (wd k) f (takeL c (wd k) f) || C) := by
  have hd := G.decode_spec (takeL R (wd k) f) (takeL c (wd k) f) 2 (posS (wd k) S) (by rw [takeL_length, takeL_length]) (hc.word k hk) (by rw [takeL_length]; exact posS_posB _ _) (by rw [takeL_length]; exact h)
  have hd' : G.decode (takeL R (wd k) f) 2 (posS (wd k) S) = _ := hd
  unfold passS
  dsimp only
  rw [hd']
  rw [if_pos ⟨rfl, insB_take c (wd k) f⟩]
theorem step_many {R : List UInt8} {S : List Int} {f : Int} {C : Bool} {k : Nat} (h : 2 < (posS (wd k) S).length) : passS f (R, S, C) k = (R, S, C) := by
  have he : (G.decode (takeL R (wd k) f) 2 (posS (wd k) S)).2.2 ≠ 0 := by
    unfold G.decode
    split
    · simp
    · split
      · simp
      · rw [if_pos (by omega)]; simp
  unfold passS
  dsimp only
  rw [if_neg (fun h => he h.1)]
theorem oth_zero {a b : List UInt8} {l : List Int} : ∀ n, (∀ i, i < n → G.ix a i ≠ G.ix b i → (i : Int) ∈ l) → G.othN a b l n = 0
  | 0, _ => rfl
  | n + 1, h => by
    rw [G.othN, oth_zero n (fun i hi => h i (by omega))]
    by_cases e : G.ix a n = G.ix b n
    · rw [if_pos e]
    · rw [if_neg e, if_pos ((G.cont_iff _ _).2 (h n (by omega) e))]
structure Inv (c R : List UInt8) (S : List Int) : Prop where
  len : R.length = 2352
  diff : ∀ x : Nat, x < 2352 → G.ix R x ≠ G.ix c x → (x : Int) ∈ S
def pkS (S : List Int) (k : Nat) : List Int := if (posS (wd k) S).length ≤ 2 then rel S (wd k) else S
def pkN (S : List Int) : Nat → List Int
  | 0 => S
  | k + 1 => pkS (pkN S k) k
theorem Inv.step {c R : List UInt8} {S : List Int} {f : Int} {C : Bool} {k : Nat} (hc : Good c f) (h : Inv c R S) (hS : ∀ x ∈ S, f ≤ x) (hk : k < 138) : Inv c (passS f (R, S, C) k).1 (passS f (R, S, C) k).2.1 ∧ (passS f (R, S, C) k).2.1 = pkS S k := by
  unfold pkS
  by_cases hn : (posS (wd k) S).length ≤ 2
  · have ho : G.othN (takeL R (wd k) f) (takeL c (wd k) f) (posS (wd k) S) (wd k).length = 0 := oth_zero _ fun i hi hne => by
      rw [mem_posS hi]
      rw [ix_takeL _ _ _ _ hi, ix_takeL _ _ _ _ hi] at hne
      have hb := wd_ix hk hi
      unfold sym at hne
      by_cases hf : ixI (wd k) i < f
      · rw [if_pos hf, if_pos hf] at hne; exact absurd rfl hne
      · rw [if_neg hf, if_neg hf] at hne
        have := h.diff _ (by omega) hne
        rwa [show ((ixI (wd k) i).toNat : Int) = ixI (wd k) i by omega] at this
    rw [step_spec hc h.len hk (by rw [ho]; omega), if_pos hn]
    refine ⟨⟨by dsimp only; rw [putL_length]; exact h.len, fun x hx hne => ?_⟩, rfl⟩
    dsimp only at hne ⊢
    rw [put_fix (by rw [h.len, hc.len]) (fun y hy => by have := wd_bd hk y hy; rw [h.len]; omega)] at hne
    rw [rel_mem]
    by_cases hm : (x : Int) ∈ wd k ∧ f ≤ x
    · rw [if_pos hm] at hne; exact absurd rfl hne
    · rw [if_neg hm] at hne
      have hx2 := h.diff x hx hne
      exact ⟨hx2, fun hw => hm ⟨hw, hS _ hx2⟩⟩
  · rw [step_many (by omega), if_neg hn]
    exact ⟨h, rfl⟩
theorem pkS_sub (S : List Int) (k : Nat) : ∀ x ∈ pkS S k, x ∈ S := fun x hx => by
  unfold pkS at hx
  split at hx
  · exact ((rel_mem S (wd k) x).1 hx).1
  · exact hx
theorem pkN_sub (S : List Int) : ∀ k, ∀ x ∈ pkN S k, x ∈ S
  | 0, x, hx => hx
  | k + 1, x, hx => pkN_sub S k x (pkS_sub _ _ x hx)
theorem Inv.pass {c R : List UInt8} {S : List Int} {f : Int} (hc : Good c f) (h : Inv c R S) (hS : ∀ x ∈ S, f ≤ x) : ∀ k, k ≤ 138 → Inv c (passN f R S k).1 (passN f R S k).2.1 ∧ (passN f R S k).2.1 = pkN S k
  | 0, _ => ⟨h, rfl⟩
  | k + 1, hk => by
    obtain ⟨h1, h2⟩ := Inv.pass hc h hS k (by omega)
    have h3 := h1.step (C := (passN f R S k).2.2) hc (fun x hx => hS x (pkN_sub S k x (by rw [← h2]; exact hx))) (show k < 138 by omega)
    refine ⟨h3.1, ?_⟩
    show (passS f (passN f R S k) k).2.1 = pkS (pkN S k) k
    rw [← h2]
    exact h3.2
theorem Inv.done {c R : List UInt8} {f : Int} (hc : Good c f) (h : Inv c R []) : R = c := by
  apply G.ext_ix (by rw [h.len, hc.len])
  intro i hi
  rcases Decidable.em (G.ix R i = G.ix c i) with e | e
  · exact e
  · have := h.diff i (by rw [h.len] at hi; exact hi) e
    cases this
end Go.Proofs.YtflmjdjkfognjaaGreat.W8
