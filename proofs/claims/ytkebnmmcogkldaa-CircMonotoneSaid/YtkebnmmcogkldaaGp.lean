/- Polynomials over the field: values, products, remainders, generators. -/
import Derived.Test.YtkebnmmcogkldaaG8
namespace Go.Proofs.Ytkebnmmcogkldaa.G

def pw (x : UInt8) : Nat → UInt8
  | 0 => 1
  | n + 1 => mul (pw x n) x

theorem pw_add (x : UInt8) (m n : Nat) : pw x (m + n) = mul (pw x m) (pw x n) := by
  induction n with
  | zero => simp [pw, mul_one]
  | succ n ih => rw [← Nat.add_assoc, pw, ih, pw, mul_assoc]
theorem pw_succ' (x : UInt8) (n : Nat) : pw x (n + 1) = mul x (pw x n) := by rw [pw, mul_comm]
theorem pw_ne {x : UInt8} (h : x ≠ 0) (n : Nat) : pw x n ≠ 0 := by
  induction n with
  | zero => simp [pw]
  | succ n ih => exact mul_ne ih h
theorem pw_exp (k n : Nat) : pw (exp k) n = exp (k * n) := by
  induction n with
  | zero => simp [pw, exp_zero]
  | succ n ih => rw [pw, ih, ← exp_add, Nat.mul_succ]

theorem evalA_eq (x : UInt8) (l : List UInt8) : ∀ s, evalA x s l = mul s (pw x l.length) ^^^ evalA x 0 l := by
  induction l with
  | nil => intro s; simp [evalA, pw, mul_one]
  | cons c l ih =>
    intro s
    simp only [evalA, List.length_cons]
    rw [ih, ih (mul 0 x ^^^ c), zero_mul, zero_xor, xor_mul, pw_succ', mul_assoc]
    rw [xor_assoc]
theorem eval_nil (x : UInt8) : eval [] x = 0 := rfl
theorem eval_cons (x c : UInt8) (l : List UInt8) : eval (c :: l) x = mul c (pw x l.length) ^^^ eval l x := by
  unfold eval
  rw [evalA, zero_mul, zero_xor, evalA_eq]
theorem eval_append (x : UInt8) (l m : List UInt8) : eval (l ++ m) x = mul (eval l x) (pw x m.length) ^^^ eval m x := by
  induction l with
  | nil => rw [List.nil_append, eval_nil, zero_mul, zero_xor]
  | cons c l ih => rw [List.cons_append, eval_cons, ih, eval_cons, List.length_append, pw_add, mul_assoc, xor_mul, xor_assoc]
theorem eval_snoc (x c : UInt8) (l : List UInt8) : eval (l ++ [c]) x = mul (eval l x) x ^^^ c := by
  rw [eval_append, eval_cons, eval_nil]
  simp [pw, one_mul, mul_one]
theorem eval_zeros (x : UInt8) (n : Nat) : eval (List.replicate n 0) x = 0 := by
  induction n with
  | zero => rfl
  | succ n ih => rw [List.replicate_succ, eval_cons, zero_mul, zero_xor, ih]
theorem eval_pad (x : UInt8) (m : Nat) (p : List UInt8) : eval (pad m p) x = eval p x := by
  unfold pad; rw [eval_append, eval_zeros, zero_mul, zero_xor]

theorem ix_cons_zero (c : UInt8) (l : List UInt8) : ix (c :: l) 0 = c := rfl
theorem ix_cons_succ (c : UInt8) (l : List UInt8) (i : Nat) : ix (c :: l) (i + 1) = ix l i := by simp [ix]
theorem bump_cons_zero (c : UInt8) (l : List UInt8) (v : UInt8) : bump (c :: l) 0 v = (c ^^^ v) :: l := by simp [bump, ix_cons_zero]
theorem bump_cons_succ (c : UInt8) (l : List UInt8) (j : Nat) (v : UInt8) : bump (c :: l) (j + 1) v = c :: bump l j v := by simp [bump, ix_cons_succ]

theorem eval_bump (x v : UInt8) (out : List UInt8) : ∀ j, j < out.length → eval (bump out j v) x = eval out x ^^^ mul v (pw x (out.length - 1 - j)) := by
  induction out with
  | nil => intro j h; simp at h
  | cons c l ih =>
    intro j h
    cases j with
    | zero =>
      rw [bump_cons_zero, eval_cons, eval_cons, xor_mul, List.length_cons]
      rw [show l.length + 1 - 1 - 0 = l.length by omega, xor_assoc, xor_assoc, xor_comm (mul v _)]
    | succ j =>
      rw [bump_cons_succ, eval_cons, eval_cons, bump_length, ih j (by simpa using h), List.length_cons, xor_assoc]
      rw [show l.length + 1 - 1 - (j + 1) = l.length - 1 - j by omega]

theorem take_succ_ix (l : List UInt8) (k : Nat) (h : k < l.length) : l.take (k + 1) = l.take k ++ [ix l k] := by
  rw [List.take_succ_eq_append_getElem h]; simp [ix, h]

theorem eval_addRow (x a : UInt8) (q : List UInt8) (i : Nat) (out : List UInt8) : ∀ k, k ≤ q.length → i + k ≤ out.length →
    eval (addRow i a q k out) x = eval out x ^^^ mul a (mul (eval (q.take k) x) (pw x (out.length - i - k))) := by
  intro k
  induction k with
  | zero => intro _ _; simp [addRow, eval_nil, zero_mul, mul_zero]
  | succ k ih =>
    intro hk hi
    rw [addRow, eval_bump _ _ _ _ (by rw [addRow_length]; omega), addRow_length, ih (by omega) (by omega), take_succ_ix q k (by omega), eval_snoc, xor_mul, mul_xor]
    rw [show out.length - i - k = (out.length - i - (k + 1)) + 1 by omega, pw_succ', show out.length - 1 - (i + k) = out.length - i - (k + 1) by omega]
    rw [xor_assoc, mul_assoc (eval (q.take k) x) x, mul_assoc a (ix q k)]

theorem eval_addRow_full (x a : UInt8) (q : List UInt8) (i : Nat) (out : List UInt8) (h : i + q.length ≤ out.length) :
    eval (addRow i a q q.length out) x = eval out x ^^^ mul (mul a (pw x (out.length - i - q.length))) (eval q x) := by
  rw [eval_addRow x a q i out _ (Nat.le_refl _) h, List.take_length, ← mul_assoc, mul_comm (pw x _)]

theorem eval_addRows (x : UInt8) (p q : List UInt8) (hq : q ≠ []) : ∀ i, i ≤ p.length → eval (addRows p q i) x = mul (mul (eval (p.take i) x) (pw x (p.length - i))) (eval q x) := by
  have hl : 0 < q.length := List.length_pos_iff.2 hq
  intro i
  induction i with
  | zero => intro _; simp [addRows, eval_zeros, eval_nil, zero_mul]
  | succ i ih =>
    intro h
    rw [addRows, eval_addRow_full _ _ _ _ _ (by rw [addRows_length]; omega), ih (by omega), addRows_length, take_succ_ix p i (by omega), eval_snoc,
      show p.length - i = (p.length - (i + 1)) + 1 by omega, pw_succ', mul_assoc (eval _ x) x, show p.length + q.length - 1 - i - q.length = p.length - (i + 1) by omega, ← xor_mul, ← xor_mul]

/-- the value of a product is the product of the values -/
theorem eval_prod (p q : List UInt8) (x : UInt8) : eval (prod p q) x = mul (eval p x) (eval q x) := by
  by_cases hp : p = []
  · subst hp; rw [prod_nil_left, eval_nil, zero_mul]
  · by_cases hq : q = []
    · subst hq; rw [prod_nil_right, eval_nil, mul_zero]
    · rw [prod_eq hp hq, eval_addRows x p q hq _ (Nat.le_refl _), List.take_length, Nat.sub_self, pw, mul_one]

/-! ### coefficients -/
theorem ext_ix {l m : List UInt8} (hl : l.length = m.length) (h : ∀ i, i < l.length → ix l i = ix m i) : l = m := by
  apply List.ext_getElem hl
  intro i h1 h2
  have := h i h1
  simpa [ix, h1, h2] using this
theorem ix_bump (out : List UInt8) (j : Nat) (v : UInt8) (t : Nat) : ix (bump out j v) t = if t = j ∧ j < out.length then ix out t ^^^ v else ix out t := by
  unfold bump ix
  rw [List.getD_eq_getElem?_getD, List.getElem?_set]
  by_cases h : j = t
  · subst h
    by_cases hl : j < out.length
    · simp [hl]
    · simp [hl]
  · rw [if_neg h, if_neg (by omega), List.getD_eq_getElem?_getD]
theorem ix_addRow (i : Nat) (a : UInt8) (q : List UInt8) (out : List UInt8) (t : Nat) : ∀ k, ix (addRow i a q k out) t = if i ≤ t ∧ t < i + k ∧ t < out.length then ix out t ^^^ mul a (ix q (t - i)) else ix out t := by
  intro k
  induction k with
  | zero => rw [addRow, if_neg (by omega)]
  | succ k ih =>
    rw [addRow, ix_bump, addRow_length, ih]
    by_cases h : t = i + k ∧ i + k < out.length
    · obtain ⟨rfl, h2⟩ := h
      rw [if_pos ⟨rfl, h2⟩, if_neg (by omega), if_pos (by omega), show i + k - i = k by omega]
    · rw [if_neg h]
      by_cases h' : i ≤ t ∧ t < i + k ∧ t < out.length
      · rw [if_pos h', if_pos (by omega)]
      · rw [if_neg h', if_neg (by omega)]
theorem ix_addRow_full (i : Nat) (a : UInt8) (q : List UInt8) (out : List UInt8) (t : Nat) (ht : t < out.length) :
    ix (addRow i a q q.length out) t = ix out t ^^^ (if i ≤ t then mul a (ix q (t - i)) else 0) := by
  rw [ix_addRow]
  by_cases h : i ≤ t
  · by_cases h2 : t < i + q.length
    · rw [if_pos ⟨h, h2, ht⟩, if_pos h]
    · rw [if_neg (by omega), if_pos h, ix_of_le (l := q) (i := t - i) (by omega), mul_zero, xor_zero]
  · rw [if_neg (by omega), if_neg h, xor_zero]

/-! ### remainders -/
theorem divRows_done (q : List UInt8) (r : List UInt8) (h0 : ix q 0 ≠ 0) (hq : q ≠ []) : ∀ i, i + (q.length - 1) ≤ r.length → ∀ t, t < i → ix (divRows q (inv (ix q 0)) i r) t = 0 := by
  have hl : 0 < q.length := List.length_pos_iff.2 hq
  intro i
  induction i with
  | zero => intro _ t ht; omega
  | succ i ih =>
    intro hi t ht
    rw [divRows, ix_addRow_full _ _ _ _ _ (by rw [divRows_length]; omega)]
    by_cases h : i ≤ t
    · obtain rfl : t = i := by omega
      rw [if_pos h, Nat.sub_self, ← mul_assoc, inv_mul h0, mul_one, xor_self]
    · rw [if_neg h, xor_zero]
      exact ih (by omega) t (by omega)
theorem eval_divRows (q : List UInt8) (iv x : UInt8) (r : List UInt8) (hx : eval q x = 0) (hq : q ≠ []) : ∀ i, i + (q.length - 1) ≤ r.length → eval (divRows q iv i r) x = eval r x := by
  have hl : 0 < q.length := List.length_pos_iff.2 hq
  intro i
  induction i with
  | zero => intro _; rfl
  | succ i ih =>
    intro hi
    rw [divRows, eval_addRow_full _ _ _ _ _ (by rw [divRows_length]; omega), hx, mul_zero, xor_zero, ih (by omega)]
theorem eval_drop_zero (x : UInt8) (l : List UInt8) (k : Nat) (hk : k ≤ l.length) (h : ∀ t, t < k → ix l t = 0) : eval (l.drop k) x = eval l x := by
  conv => rhs; rw [← List.take_append_drop k l]
  rw [eval_append]
  have e : l.take k = List.replicate k 0 := by
    apply ext_ix
    · simp; omega
    · intro i hi
      simp at hi
      rw [ix_zeros]
      have := h i (by omega)
      unfold ix at this ⊢
      simpa [List.getElem?_take, (by omega : i < k)] using this
  rw [e, eval_zeros, zero_mul, zero_xor]
/-- the remainder has the value of the dividend at each root of the divisor -/
theorem eval_rem (p q : List UInt8) (x : UInt8) (hq : q ≠ []) (h0 : ix q 0 ≠ 0) (hx : eval q x = 0) : eval (rem p q) x = eval p x := by
  unfold rem
  rw [eval_drop_zero, eval_divRows q _ x _ hx hq, eval_pad]
  · rw [pad_length]; omega
  · rw [divRows_length, pad_length]; omega
  · exact divRows_done q _ h0 hq _ (by rw [pad_length]; omega)

/-- the sum of two lists -/
def xorL (a b : List UInt8) : List UInt8 := List.zipWith (· ^^^ ·) a b
theorem xorL_length {a b : List UInt8} (h : a.length = b.length) : (xorL a b).length = a.length := by simp [xorL, h]
theorem ix_xorL {a b : List UInt8} (h : a.length = b.length) (i : Nat) : ix (xorL a b) i = ix a i ^^^ ix b i := by
  unfold xorL ix
  by_cases hi : i < a.length
  · have hb : i < b.length := by omega
    simp [List.getElem?_zipWith, hi, hb]
  · have hb : ¬ i < b.length := by omega
    simp [List.getElem?_zipWith, hi, hb]
theorem addRow_xorL (i : Nat) (f g : UInt8) (q a b : List UInt8) (h : a.length = b.length) : addRow i (f ^^^ g) q q.length (xorL a b) = xorL (addRow i f q q.length a) (addRow i g q q.length b) := by
  apply ext_ix
  · rw [addRow_length, xorL_length h, xorL_length (by rw [addRow_length, addRow_length, h]), addRow_length]
  · intro t ht
    rw [addRow_length, xorL_length h] at ht
    rw [ix_addRow_full _ _ _ _ _ (by rw [xorL_length h]; exact ht), ix_xorL h, ix_xorL (by rw [addRow_length, addRow_length, h]), ix_addRow_full _ _ _ _ _ ht, ix_addRow_full _ _ _ _ _ (by omega)]
    by_cases hi : i ≤ t
    · simp only [if_pos hi, xor_mul]
      exact xor_4 _ _ _ _
    · simp only [if_neg hi, xor_zero]
theorem divRows_xorL (q : List UInt8) (iv : UInt8) (a b : List UInt8) (h : a.length = b.length) : ∀ i, divRows q iv i (xorL a b) = xorL (divRows q iv i a) (divRows q iv i b) := by
  intro i
  induction i with
  | zero => rfl
  | succ i ih =>
    have hl : (divRows q iv i a).length = (divRows q iv i b).length := by rw [divRows_length, divRows_length, h]
    rw [divRows, ih, ix_xorL hl, xor_mul, addRow_xorL _ _ _ _ _ _ hl]
    rfl
theorem pad_xorL (m : Nat) (a b : List UInt8) (h : a.length = b.length) : pad m (xorL a b) = xorL (pad m a) (pad m b) := by
  apply ext_ix
  · rw [pad_length, xorL_length h, xorL_length (by rw [pad_length, pad_length, h]), pad_length]
  · intro t ht
    rw [ix_xorL (by rw [pad_length, pad_length, h])]
    unfold pad
    by_cases hm : t < m
    · rw [ix_append_left (by simpa using hm), ix_append_left (by simpa using hm), ix_append_left (by simpa using hm), ix_zeros, xor_zero]
    · rw [ix_append_right (by simp; omega), ix_append_right (by simp; omega), ix_append_right (by simp; omega), ix_xorL h]
theorem drop_xorL (k : Nat) (a b : List UInt8) : (xorL a b).drop k = xorL (a.drop k) (b.drop k) := by simp [xorL, List.drop_zipWith]
theorem rem_xorL (a b q : List UInt8) (h : a.length = b.length) : rem (xorL a b) q = xorL (rem a q) (rem b q) := by
  unfold rem
  rw [xorL_length h, pad_xorL _ _ _ h, divRows_xorL _ _ _ _ (by rw [pad_length, pad_length, h]), drop_xorL, ← h]
theorem divRows_zeros (q : List UInt8) (iv : UInt8) (n i : Nat) : divRows q iv i (List.replicate n 0) = List.replicate n 0 := by
  induction i with
  | zero => rfl
  | succ i ih => rw [divRows, ih, ix_zeros, zero_mul, addRow_zero]
theorem pad_zeros (m n : Nat) : pad m (List.replicate n 0) = List.replicate (m + n) 0 := by unfold pad; rw [List.replicate_append_replicate]
theorem rem_zeros (n : Nat) (q : List UInt8) : rem (List.replicate n 0) q = List.replicate (q.length - 1) 0 := by
  unfold rem
  rw [pad_zeros, divRows_zeros]
  simp
/-- division of one row -/
theorem divRows_row (q : List UInt8) (h0 : ix q 0 ≠ 0) (n j : Nat) (c : UInt8) (hj : j < n) : ∀ i, divRows q (inv (ix q 0)) i (addRow j c q q.length (List.replicate n 0)) = if i ≤ j then addRow j c q q.length (List.replicate n 0) else List.replicate n 0 := by
  intro i
  induction i with
  | zero => rfl
  | succ i ih =>
    rw [divRows, ih]
    by_cases h : i + 1 ≤ j
    · have e : ix (addRow j c q q.length (List.replicate n 0)) i = 0 := by rw [ix_addRow, if_neg (by omega), ix_zeros]
      rw [if_pos (by omega), if_pos h, e, zero_mul, addRow_zero]
    · rw [if_neg h]
      by_cases h2 : i ≤ j
      · obtain rfl : i = j := by omega
        rw [if_pos h2]
        have e : ix (addRow i c q q.length (List.replicate n 0)) i = mul c (ix q 0) := by
          rw [ix_addRow_full _ _ _ _ _ (by simpa using hj), ix_zeros, zero_xor, if_pos (Nat.le_refl _), Nat.sub_self]
        rw [e, ← mul_assoc, mul_inv h0, mul_one]
        apply ext_ix
        · simp [addRow_length]
        · intro t ht
          simp only [addRow_length, List.length_replicate] at ht
          rw [ix_addRow_full _ _ _ _ _ (by simpa [addRow_length] using ht), ix_addRow_full _ _ _ _ _ (by simpa using ht), ix_zeros, zero_xor, xor_self]
      · rw [if_neg h2, ix_zeros, zero_mul, addRow_zero]
theorem addRow_len0 (i : Nat) (a : UInt8) (q : List UInt8) (k n : Nat) : (addRow i a q k (List.replicate n 0)).length = n := by simp [addRow_length]
theorem rem_row (q : List UInt8) (h0 : ix q 0 ≠ 0) (n j : Nat) (c : UInt8) (hj : j + (q.length - 1) < n) : rem (addRow j c q q.length (List.replicate n 0)) q = List.replicate (q.length - 1) 0 := by
  unfold rem
  have e : pad (q.length - 1) (addRow j c q q.length (List.replicate n 0)) = addRow (q.length - 1 + j) c q q.length (List.replicate (q.length - 1 + n) 0) := by
    rw [← addRow_pad, pad_zeros]
  rw [e, addRow_len0, divRows_row q h0 _ _ _ (by omega), if_neg (by omega)]
  simp
theorem xorL_zeros (a : List UInt8) (n : Nat) (h : a.length = n) : xorL a (List.replicate n 0) = a := by
  apply ext_ix
  · rw [xorL_length (by simpa using h)]
  · intro i _; rw [ix_xorL (by simpa using h), ix_zeros, xor_zero]
theorem addRow_split (i : Nat) (a : UInt8) (q out : List UInt8) : addRow i a q q.length out = xorL out (addRow i a q q.length (List.replicate out.length 0)) := by
  have := addRow_xorL i 0 a q out (List.replicate out.length 0) (by simp)
  rw [zero_xor, xorL_zeros _ _ rfl, addRow_zero] at this
  exact this
theorem rem_addRows (p q : List UInt8) (h0 : ix q 0 ≠ 0) (hq : q ≠ []) : ∀ i, i ≤ p.length → rem (addRows p q i) q = List.replicate (q.length - 1) 0 := by
  have hl : 0 < q.length := List.length_pos_iff.2 hq
  intro i
  induction i with
  | zero => intro _; rw [addRows, rem_zeros]
  | succ i ih =>
    intro h
    rw [addRows, addRow_split, rem_xorL _ _ _ (by rw [addRow_len0]), ih (by omega), rem_row q h0 _ _ _ (by rw [addRows_length]; omega), xorL_zeros _ _ (by simp)]
theorem rem_prod (p q : List UInt8) (h0 : ix q 0 ≠ 0) (hq : q ≠ []) : rem (prod p q) q = List.replicate (q.length - 1) 0 := by
  by_cases hp : p = []
  · subst hp
    rw [prod_nil_left]
    exact rem_zeros 0 q
  · rw [prod_eq hp hq, rem_addRows p q h0 hq _ (Nat.le_refl _)]
/-- what is shorter than the divisor is its own remainder -/
theorem rem_low (r q : List UInt8) (n : Nat) (h : r.length ≤ q.length - 1) : rem (pad n r) q = pad (q.length - 1 - r.length) r := by
  have e : ∀ i, i ≤ n + r.length → divRows q (inv (ix q 0)) i (pad (q.length - 1 + n) r) = pad (q.length - 1 + n) r := by
    intro i hi
    exact divRows_low q _ _ r i (by omega)
  unfold rem
  have e2 : pad (q.length - 1) (pad n r) = pad (q.length - 1 + n) r := by unfold pad; rw [← List.append_assoc, List.replicate_append_replicate]
  rw [e2, pad_length, e _ (Nat.le_refl _), pad_drop _ _ _ (by omega)]
  congr 1
  omega

/-- the first 'k' of 'r' are added to the end of 's' -/
def addEnd (s r : List UInt8) : Nat → List UInt8
  | 0 => s
  | k + 1 => bump (addEnd s r k) (s.length - r.length + k) (ix r k)
theorem addEnd_length (s r : List UInt8) (k : Nat) : (addEnd s r k).length = s.length := by
  induction k with
  | zero => rfl
  | succ k ih => rw [addEnd, bump_length, ih]
theorem ix_addEnd (s r : List UInt8) (h : r.length ≤ s.length) (t : Nat) : ∀ k, k ≤ r.length → ix (addEnd s r k) t = if s.length - r.length ≤ t ∧ t < s.length - r.length + k then ix s t ^^^ ix r (t - (s.length - r.length)) else ix s t := by
  intro k
  induction k with
  | zero => intro _; rw [addEnd, if_neg (by omega)]
  | succ k ih =>
    intro hk
    rw [addEnd, ix_bump, addEnd_length, ih (by omega)]
    by_cases h1 : t = s.length - r.length + k
    · subst h1
      rw [if_pos (by omega), if_neg (by omega), if_pos (by omega), show s.length - r.length + k - (s.length - r.length) = k by omega]
    · rw [if_neg (by omega)]
      by_cases h2 : s.length - r.length ≤ t ∧ t < s.length - r.length + k
      · rw [if_pos h2, if_pos (by omega)]
      · rw [if_neg h2, if_neg (by omega)]
theorem addEnd_eq (s r : List UInt8) (h : r.length ≤ s.length) : addEnd s r r.length = xorL s (pad (s.length - r.length) r) := by
  have hl : s.length = (pad (s.length - r.length) r).length := by rw [pad_length]; omega
  apply ext_ix
  · rw [addEnd_length, xorL_length hl]
  · intro t ht
    rw [addEnd_length] at ht
    rw [ix_addEnd s r h t _ (Nat.le_refl _), ix_xorL hl]
    unfold pad
    by_cases h1 : s.length - r.length ≤ t
    · rw [if_pos (by omega), ix_append_right (by simpa using h1)]
      simp
    · rw [if_neg (by omega), ix_append_left (by simp; omega), ix_zeros, xor_zero]
theorem rem_addEnd (s r q : List UInt8) (h : r.length ≤ s.length) (hr : r.length ≤ q.length - 1) (hs : rem s q = List.replicate (q.length - 1) 0) : rem (addEnd s r r.length) q = pad (q.length - 1 - r.length) r := by
  rw [addEnd_eq s r h, rem_xorL _ _ _ (by rw [pad_length]; omega), hs, rem_low _ _ _ hr]
  apply ext_ix
  · rw [xorL_length (by rw [pad_length]; simp; omega), pad_length]; simp; omega
  · intro i _
    rw [ix_xorL (by rw [pad_length]; simp; omega), ix_zeros, zero_xor]

/-! ### generators -/
theorem gen_head (n : Nat) : ix (gen n) 0 = 1 := by
  induction n with
  | zero => rfl
  | succ n ih =>
    have hl := gen_length n
    have h : gen n ≠ [] := by intro e; rw [e] at hl; simp at hl
    have key : ∀ i, ix (addRows (gen n) [1, exp n] (i + 1)) 0 = 1 := by
      intro i
      induction i with
      | zero =>
        rw [addRows, ix_addRow_full _ _ _ _ _ (by rw [addRows_length]; simp), addRows, ix_zeros, if_pos (Nat.le_refl _), ih]
        simp [ix, one_mul]
      | succ i ih2 =>
        rw [addRows, ix_addRow_full _ _ _ _ _ (by rw [addRows_length]; simp), ih2, if_neg (by omega), xor_zero]
    rw [gen, prod_eq h (by simp), hl]
    exact key n
theorem eval_gen (n : Nat) (x : UInt8) : eval (gen n) x = 0 ↔ ∃ i, i < n ∧ x = exp i := by
  induction n with
  | zero =>
    constructor
    · intro h; simp [gen, eval_cons, eval_nil, pw, mul_one] at h
    · rintro ⟨i, hi, _⟩; omega
  | succ n ih =>
    rw [gen, eval_prod]
    have e : eval [1, exp n] x = x ^^^ exp n := by
      rw [eval_cons, eval_cons, eval_nil]; simp [pw, one_mul, mul_one]
    rw [e]
    constructor
    · intro h
      rcases mul_eq_zero h with h | h
      · obtain ⟨i, hi, rfl⟩ := ih.1 h
        exact ⟨i, by omega, rfl⟩
      · exact ⟨n, by omega, xor_eq_zero h⟩
    · rintro ⟨i, hi, rfl⟩
      by_cases h : i = n
      · subst h; rw [xor_self, mul_zero]
      · rw [ih.2 ⟨i, by omega, rfl⟩, zero_mul]
end Go.Proofs.Ytkebnmmcogkldaa.G
