/- Shaken out of XGpo XRs XAlg -/
import Derived.Test.YtflmjdjkfognjaaGreatTp00
namespace Go.Proofs.YtflmjdjkfognjaaGreat.G
def pw (x : UInt8) : Nat → UInt8
  | 0 => 1
  | n + 1 => mul (pw x n) x
theorem pw_add (x : UInt8) (m n : Nat) : pw x (m + n) = mul (pw x m) (pw x n) := by
  induction n with
  | zero => simp [pw, mul_one]
  | succ n ih => rw [← Nat.add_assoc, pw, ih, pw, mul_assoc]
theorem pw_succ' (x : UInt8) (n : Nat) : pw x (n + 1) = mul x (pw x n) := by rw [pw, mul_comm]
theorem pw_ne {x : UInt8} (h : x ≠ 0) (n : Nat) : pw x n ≠ 0 := by
  induction n with
  | zero => simp [pw]
  | succ n ih => exact mul_ne ih h
theorem pw_exp (k n : Nat) : pw (exp k) n = exp (k * n) := by
  induction n with
  | zero => simp [pw, exp_zero]
  | succ n ih => rw [pw, ih, ← exp_add, Nat.mul_succ]
theorem evalA_eq (x : UInt8) (l : List UInt8) : ∀ s, evalA x s l = mul s (pw x l.length) ^^^ evalA x 0 l := by
  induction l with
  | nil => intro s; simp [evalA, pw, mul_one]
  | cons c l ih =>
    intro s
    simp only [evalA, List.length_cons]
    rw [ih, ih (mul 0 x ^^^ c), zero_mul, zero_xor, xor_mul, pw_succ', mul_assoc]
    rw [xor_assoc]
theorem eval_nil (x : UInt8) : eval [] x = 0 := rfl
theorem eval_cons (x c : UInt8) (l : List UInt8) : eval (c :: l) x = mul c (pw x l.length) ^^^ eval l x := by
  unfold eval
  rw [evalA, zero_mul, zero_xor, evalA_eq]
theorem eval_append (x : UInt8) (l m : List UInt8) : eval (l ++ m) x = mul (eval l x) (pw x m.length) ^^^ eval m x := by
  induction l with
  | nil => rw [List.nil_append, eval_nil, zero_mul, zero_xor]
  | cons c l ih => rw [List.cons_append, eval_cons, ih, eval_cons, List.length_append, pw_add, mul_assoc, xor_mul, xor_assoc]
theorem eval_snoc (x c : UInt8) (l : List UInt8) : eval (l ++ [c]) x = mul (eval l x) x ^^^ c := by
  rw [eval_append, eval_cons, eval_nil]
  simp [pw, one_mul, mul_one]
theorem eval_zeros (x : UInt8) (n : Nat) : eval (List.replicate n 0) x = 0 := by
  induction n with
  | zero => rfl
  | succ n ih => rw [List.replicate_succ, eval_cons, zero_mul, zero_xor, ih]
theorem eval_pad (x : UInt8) (m : Nat) (p : List UInt8) : eval (pad m p) x = eval p x := by
  unfold pad; rw [eval_append, eval_zeros, zero_mul, zero_xor]
theorem ix_cons_zero (c : UInt8) (l : List UInt8) : ix (c :: l) 0 = c := rfl
theorem ix_cons_succ (c : UInt8) (l : List UInt8) (i : Nat) : ix (c :: l) (i + 1) = ix l i := by simp [ix]
theorem bump_cons_zero (c : UInt8) (l : List UInt8) (v : UInt8) : bump (c :: l) 0 v = (c ^^^ v) :: l := by simp [bump, ix_cons_zero]
theorem bump_cons_succ (c : UInt8) (l : List UInt8) (j : Nat) (v : UInt8) : bump (c :: l) (j + 1) v = c :: bump l j v := by simp [bump, ix_cons_succ]
theorem eval_bump (x v : UInt8) (out : List UInt8) : ∀ j, j < out.length → eval (bump out j v) x = eval out x ^^^ mul v (pw x (out.length - 1 - j)) := by
  induction out with
  | nil => intro j h; simp at h
  | cons c l ih =>
    intro j h
    cases j with
    | zero =>
      rw [bump_cons_zero, eval_cons, eval_cons, xor_mul, List.length_cons]
      rw [show l.length + 1 - 1 - 0 = l.length by omega, xor_assoc, xor_assoc, xor_comm (mul v _)]
    | succ j =>
      rw [bump_cons_succ, eval_cons, eval_cons, bump_length, ih j (by simpa using h), List.length_cons, xor_assoc]
      rw [show l.length + 1 - 1 - (j + 1) = l.length - 1 - j by omega]
theorem take_succ_ix (l : List UInt8) (k : Nat) (h : k < l.length) : l.take (k + 1) = l.take k ++ [ix l k] := by
  rw [List.take_succ_eq_append_getElem h]; simp [ix, h]
theorem eval_addRow (x a : UInt8) (q : List UInt8) (i : Nat) (out : List UInt8) : ∀ k, k ≤ q.length → i + k ≤ out.length →
    eval (addRow i a q k out) x = eval out x ^^^ mul a (mul (eval (q.take k) x) (pw x (out.length - i - k))) := by
  intro k
  induction k with
  | zero => intro _ _; simp [addRow, eval_nil, zero_mul, mul_zero]
  | succ k ih =>
    intro hk hi
    rw [addRow, eval_bump _ _ _ _ (by rw [addRow_length]; omega), addRow_length, ih (by omega) (by omega), take_succ_ix q k (by omega), eval_snoc, xor_mul, mul_xor]
    rw [show out.length - i - k = (out.length - i - (k + 1)) + 1 by omega, pw_succ', show out.length - 1 - (i + k) = out.length - i - (k + 1) by omega]
    rw [xor_assoc, mul_assoc (eval (q.take k) x) x, mul_assoc a (ix q k)]
theorem eval_addRow_full (x a : UInt8) (q : List UInt8) (i : Nat) (out : List UInt8) (h : i + q.length ≤ out.length) :
    eval (addRow i a q q.length out) x = eval out x ^^^ mul (mul a (pw x (out.length - i - q.length))) (eval q x) := by
  rw [eval_addRow x a q i out _ (Nat.le_refl _) h, List.take_length, ← mul_assoc, mul_comm (pw x _)]
theorem eval_addRows (x : UInt8) (p q : List UInt8) (hq : q ≠ []) : ∀ i, i ≤ p.length → eval (addRows p q i) x = mul (mul (eval (p.take i) x) (pw x (p.length - i))) (eval q x) := by
  have hl : 0 < q.length := List.length_pos_iff.2 hq
  intro i
  induction i with
  | zero => intro _; simp [addRows, eval_zeros, eval_nil, zero_mul]
  | succ i ih =>
    intro h
    rw [addRows, eval_addRow_full _ _ _ _ _ (by rw [addRows_length]; omega), ih (by omega), addRows_length, take_succ_ix p i (by omega), eval_snoc,
      show p.length - i = (p.length - (i + 1)) + 1 by omega, pw_succ', mul_assoc (eval _ x) x, show p.length + q.length - 1 - i - q.length = p.length - (i + 1) by omega, ← xor_mul, ← xor_mul]
/-- the value of a product is the product of the values -/
theorem eval_prod (p q : List UInt8) (x : UInt8) : eval (prod p q) x = mul (eval p x) (eval q x) := by
  by_cases hp : p = []
  · subst hp; rw [prod_nil_left, eval_nil, zero_mul]
  · by_cases hq : q = []
    · subst hq; rw [prod_nil_right, eval_nil, mul_zero]
    · rw [prod_eq hp hq, eval_addRows x p q hq _ (Nat.le_refl _), List.take_length, Nat.sub_self, pw, mul_one]

/-! ### coefficients -/
theorem ext_ix {l m : List UInt8} (hl : l.length = m.length) (h : ∀ i, i < l.length → ix l i = ix m i) : l = m := by
  apply List.ext_getElem hl
  intro i h1 h2
  have := h i h1
  simpa [ix, h1, h2] using this
theorem ix_bump (out : List UInt8) (j : Nat) (v : UInt8) (t : Nat) : ix (bump out j v) t = if t = j ∧ j < out.length then ix out t ^^^ v else ix out t := by
  unfold bump ix
  rw [List.getD_eq_getElem?_getD, List.getElem?_set]
  by_cases h : j = t
  · subst h
    by_cases hl : j < out.length
    · simp [hl]
    · simp [hl]
  · rw [if_neg h, if_neg (by omega), List.getD_eq_getElem?_getD]
theorem ix_addRow (i : Nat) (a : UInt8) (q : List UInt8) (out : List UInt8) (t : Nat) : ∀ k, ix (addRow i a q k out) t = if i ≤ t ∧ t < i + k ∧ t < out.length then ix out t ^^^ mul a (ix q (t - i)) else ix out t := by
  intro k
  induction k with
  | zero => rw [addRow, if_neg (by omega)]
  | succ k ih =>
    rw [addRow, ix_bump, addRow_length, ih]
    by_cases h : t = i + k ∧ i + k < out.length
    · obtain ⟨rfl, h2⟩ := h
      rw [if_pos ⟨rfl, h2⟩, if_neg (by omega), if_pos (by omega), show i + k - i = k by omega]
    · rw [if_neg h]
      by_cases h' : i ≤ t ∧ t < i + k ∧ t < out.length
      · rw [if_pos h', if_pos (by omega)]
      · rw [if_neg h', if_neg (by omega)]
theorem ix_addRow_full (i : Nat) (a : UInt8) (q : List UInt8) (out : List UInt8) (t : Nat) (ht : t < out.length) :
    ix (addRow i a q q.length out) t = ix out t ^^^ (if i ≤ t then mul a (ix q (t - i)) else 0) := by
  rw [ix_addRow]
  by_cases h : i ≤ t
  · by_cases h2 : t < i + q.length
    · rw [if_pos ⟨h, h2, ht⟩, if_pos h]
    · rw [if_neg (by omega), if_pos h, ix_of_le (l := q) (i := t - i) (by omega), mul_zero, xor_zero]
  · rw [if_neg (by omega), if_neg h, xor_zero]

/-! ### remainders -/
theorem divRows_done (q : List UInt8) (r : List UInt8) (h0 : ix q 0 ≠ 0) (hq : q ≠ []) : ∀ i, i + (q.length - 1) ≤ r.length → ∀ t, t < i → ix (divRows q (inv (ix q 0)) i r) t = 0 := by
  have hl : 0 < q.length := List.length_pos_iff.2 hq
  intro i
  induction i with
  | zero => intro _ t ht; omega
  | succ i ih =>
    intro hi t ht
    rw [divRows, ix_addRow_full _ _ _ _ _ (by rw [divRows_length]; omega)]
    by_cases h : i ≤ t
    · obtain rfl : t = i := by omega
      rw [if_pos h, Nat.sub_self, ← mul_assoc, inv_mul h0, mul_one, xor_self]
    · rw [if_neg h, xor_zero]
      exact ih (by omega) t (by omega)
theorem eval_divRows (q : List UInt8) (iv x : UInt8) (r : List UInt8) (hx : eval q x = 0) (hq : q ≠ []) : ∀ i, i + (q.length - 1) ≤ r.length → eval (divRows q iv i r) x = eval r x := by
  have hl : 0 < q.length := List.length_pos_iff.2 hq
  intro i
  induction i with
  | zero => intro _; rfl
  | succ i ih =>
    intro hi
    rw [divRows, eval_addRow_full _ _ _ _ _ (by rw [divRows_length]; omega), hx, mul_zero, xor_zero, ih (by omega)]
theorem eval_drop_zero (x : UInt8) (l : List UInt8) (k : Nat) (hk : k ≤ l.length) (h : ∀ t, t < k → ix l t = 0) : eval (l.drop k) x = eval l x := by
  conv => rhs; rw [← List.take_append_drop k l]
  rw [eval_append]
  have e : l.take k = List.replicate k 0 := by
    apply ext_ix
    · simp; omega
    · intro i hi
      simp at hi
      rw [ix_zeros]
      have := h i (by omega)
      unfold ix at this ⊢
      simpa [List.getElem?_take, (by omega : i < k)] using this
  rw [e, eval_zeros, zero_mul, zero_xor]
/-- the remainder has the value of the dividend at each root of the divisor -/
theorem eval_rem (p q : List UInt8) (x : UInt8) (hq : q ≠ []) (h0 : ix q 0 ≠ 0) (hx : eval q x = 0) : eval (rem p q) x = eval p x := by
  unfold rem
  rw [eval_drop_zero, eval_divRows q _ x _ hx hq, eval_pad]
  · rw [pad_length]; omega
  · rw [divRows_length, pad_length]; omega
  · exact divRows_done q _ h0 hq _ (by rw [pad_length]; omega)
/-- the sum of two lists -/
def xorL (a b : List UInt8) : List UInt8 := List.zipWith (· ^^^ ·) a b
theorem xorL_length {a b : List UInt8} (h : a.length = b.length) : (xorL a b).length = a.length := by simp [xorL, h]
theorem ix_xorL {a b : List UInt8} (h : a.length = b.length) (i : Nat) : ix (xorL a b) i = ix a i ^^^ ix b i := by
  unfold xorL ix
  by_cases hi : i < a.length
  · have hb : i < b.length := by omega
    simp [List.getElem?_zipWith, hi, hb]
  · have hb : ¬ i < b.length := by omega
    simp [List.getElem?_zipWith, hi, hb]
theorem gen_head (n : Nat) : ix (gen n) 0 = 1 := by
  induction n with
  | zero => rfl
  | succ n ih =>
    have hl := gen_length n
    have h : gen n ≠ [] := by intro e; rw [e] at hl; simp at hl
    have key : ∀ i, ix (addRows (gen n) [1, exp n] (i + 1)) 0 = 1 := by
      intro i
      induction i with
      | zero =>
        rw [addRows, ix_addRow_full _ _ _ _ _ (by rw [addRows_length]; simp), addRows, ix_zeros, if_pos (Nat.le_refl _), ih]
        simp [ix, one_mul]
      | succ i ih2 =>
        rw [addRows, ix_addRow_full _ _ _ _ _ (by rw [addRows_length]; simp), ih2, if_neg (by omega), xor_zero]
    rw [gen, prod_eq h (by simp), hl]
    exact key n
theorem eval_gen (n : Nat) (x : UInt8) : eval (gen n) x = 0 ↔ ∃ i, i < n ∧ x = exp i := by
  induction n with
  | zero =>
    constructor
    · intro h; simp [gen, eval_cons, eval_nil, pw, mul_one] at h
    · rintro ⟨i, hi, _⟩; omega
  | succ n ih =>
    rw [gen, eval_prod]
    have e : eval [1, exp n] x = x ^^^ exp n := by
      rw [eval_cons, eval_cons, eval_nil]; simp [pw, one_mul, mul_one]
    rw [e]
    constructor
    · intro h
      rcases mul_eq_zero h with h | h
      · obtain ⟨i, hi, rfl⟩ := ih.1 h
        exact ⟨i, by omega, rfl⟩
      · exact ⟨n, by omega, xor_eq_zero h⟩
    · rintro ⟨i, hi, rfl⟩
      by_cases h : i = n
      · subst h; rw [xor_self, mul_zero]
      · rw [ih.2 ⟨i, by omega, rfl⟩, zero_mul]
end Go.Proofs.YtflmjdjkfognjaaGreat.G
namespace Go.Proofs.YtflmjdjkfognjaaGreat.G
def shapedB (l : List UInt8) (n : Int) : Bool := decide (2 ≤ l.length) && decide (l.length ≤ 255) && decide (1 ≤ n) && decide (n ≤ 16) && decide (n < (l.length : Int))
theorem shapedB_iff (l : List UInt8) (n : Int) : shapedB l n = true ↔ 2 ≤ l.length ∧ l.length ≤ 255 ∧ 1 ≤ n ∧ n ≤ 16 ∧ n < (l.length : Int) := by
  simp [shapedB, and_assoc]
def synd (l : List UInt8) (n : Nat) : List UInt8 := (List.range n).map fun i => eval l (exp i)
theorem synd_length (l : List UInt8) (n : Nat) : (synd l n).length = n := by simp [synd]
theorem ix_synd (l : List UInt8) (n i : Nat) (h : i < n) : ix (synd l n) i = eval l (exp i) := by simp [synd, ix, h]
def zeroB (l : List UInt8) : Bool := l.all (· == 0)
def validB (l : List UInt8) (n : Int) : Bool := shapedB l n && zeroB (synd l n.toNat)
/-- the codeword -/
def enc (l : List UInt8) (n : Nat) : List UInt8 := l ++ rem (l ++ List.replicate n 0) (gen n)
def encB (l : List UInt8) (n : Int) : Bool := decide (1 ≤ n) && decide (n ≤ 16) && decide (l ≠ []) && decide ((l.length : Int) + n ≤ 255)
theorem enc_length (l : List UInt8) (n : Nat) : (enc l n).length = l.length + n := by
  unfold enc; rw [List.length_append, rem_length, gen_length]; omega
/-- the degree, -1 for zero: looked for below 'n' -/
def degN (p : List UInt8) : Nat → Int
  | 0 => -1
  | n + 1 => if ix p n = 0 then degN p n else n
def deg (p : List UInt8) : Int := degN p p.length
def plus (p q : List UInt8) : List UInt8 := (List.range (max p.length q.length)).map fun i => ix p i ^^^ ix q i
/-- the value, the lowest power first -/
def val (p : List UInt8) (x : UInt8) : UInt8 := eval p.reverse x
def deriv (p : List UInt8) : List UInt8 := (List.range (p.length - 1)).map fun i => if i % 2 = 0 then ix p (i + 1) else 0
/-- one row of a division: 'f' times the first 'k' coefficients of 'q', from place 'i' on: as 'addRow' -/
def divStep (q : List UInt8) (n : Nat) (iv : UInt8) (i : Nat) (s : List UInt8 × List UInt8) : List UInt8 × List UInt8 :=
  (s.1.set (i - n) (mul (ix s.2 i) iv), addRow (i - n) (mul (ix s.2 i) iv) q (n + 1) s.2)
/-- the steps at 'n + k - 1' down to 'n' -/
def divLoop (q : List UInt8) (n : Nat) (iv : UInt8) : Nat → List UInt8 × List UInt8 → List UInt8 × List UInt8
  | 0, s => s
  | k + 1, s => divLoop q n iv k (divStep q n iv (n + k) s)
/-- quotient and remainder; 'q' is not zero -/
def divide (p q : List UInt8) : List UInt8 × List UInt8 :=
  divLoop q (deg q).toNat (inv (ix q (deg q).toNat)) (deg p + 1 - deg q).toNat (List.replicate (max ((p.length : Int) - deg q) 1).toNat 0, p)
end Go.Proofs.YtflmjdjkfognjaaGreat.G
namespace Go.Proofs.YtflmjdjkfognjaaGreat
/-- an element of a list of ints -/
def ixI (l : List Int) (i : Nat) : Int := l.getD i 0
namespace G
/-- the first 'k' positions lie in the word and increase -/
def posN (n : Nat) (l : List Int) : Nat → Bool
  | 0 => true
  | k + 1 => posN n l k && !(decide (ixI l k < 0) || decide ((n : Int) ≤ ixI l k) || (decide (0 < k) && decide (ixI l k ≤ ixI l (k - 1))))
def posB (n : Nat) (l : List Int) : Bool := posN n l l.length
/-- the polynomial of the first 'k' erased positions -/
def erasI (n : Nat) (l : List Int) : Nat → List UInt8
  | 0 => [1]
  | k + 1 => prod (erasI n l k) [1, exp (n - 1 - (ixI l k).toNat)]
theorem erasI_length (n : Nat) (l : List Int) : ∀ k, (erasI n l k).length = k + 1
  | 0 => rfl
  | k + 1 => by
    have h := erasI_length n l k
    have h1 : erasI n l k ≠ [] := by intro e; rw [e] at h; simp at h
    rw [erasI, prod_length _ _ h1 (by simp), h]
    simp
theorem posN_mono (n : Nat) (l : List Int) : ∀ (m k : Nat), k ≤ m → posN n l m = true → posN n l k = true
  | 0, k, h, hp => by obtain rfl : k = 0 := by omega
                      exact hp
  | m + 1, k, h, hp => by
    by_cases e : k = m + 1
    · rw [e]; exact hp
    · unfold posN at hp
      rw [Bool.and_eq_true] at hp
      exact posN_mono n l m k (by omega) hp.1
theorem posN_at (n : Nat) (l : List Int) {m k : Nat} (h : k < m) (hp : posN n l m = true) : 0 ≤ ixI l k ∧ ixI l k < n ∧ (0 < k → ixI l (k - 1) < ixI l k) := by
  have := posN_mono n l m (k + 1) (by omega) hp
  unfold posN at this
  simp only [Bool.and_eq_true, Bool.not_eq_true', Bool.or_eq_false_iff, decide_eq_false_iff_not, Bool.and_eq_false_iff] at this
  omega
/-- the syndromes times the polynomial of the erased positions, cut off -/
def xi (p : List UInt8) (n : Nat) (l : List Int) : List UInt8 := (prod (synd p n) (erasI p.length l l.length)).take n
/-- the powers of the inverse of 2, as 'repair' reckons them -/
def hp : Nat → UInt8
  | 0 => 1
  | j + 1 => mul (hp j) (inv 2)
/-- what is added to the symbol whose locator is the 'j'th power of 2 -/
def fixB (psi om : List UInt8) (j : Nat) : UInt8 :=
  if val psi (hp j) = 0 then mul (exp j) (mul (val om (hp j)) (inv (val (deriv psi) (hp j)))) else 0
def repair (p psi om : List UInt8) : List UInt8 := (List.range p.length).map fun i => ix p i ^^^ fixB psi om (p.length - 1 - i)
theorem repair_length (p psi om : List UInt8) : (repair p psi om).length = p.length := by simp [repair]
theorem ix_repair (p psi om : List UInt8) (i : Nat) (h : i < p.length) : ix (repair p psi om) i = ix p i ^^^ fixB psi om (p.length - 1 - i) := by
  simp [repair, ix, h]
def cont (l : List Int) (x : Int) : Bool := l.contains x
theorem cont_iff (l : List Int) (x : Int) : cont l x = true ↔ x ∈ l := by unfold cont; exact List.contains_iff_mem
/-- how many of the first 'k' positions differ -/
def allN (a b : List UInt8) : Nat → Nat
  | 0 => 0
  | k + 1 => allN a b k + if ix a k = ix b k then 0 else 1
/-- how many of the first 'k' positions differ and are not listed -/
def othN (a b : List UInt8) (l : List Int) : Nat → Nat
  | 0 => 0
  | k + 1 => othN a b l k + if ix a k = ix b k then 0 else if cont l (k : Int) then 0 else 1
theorem allN_le (a b : List UInt8) : ∀ k, allN a b k ≤ k
  | 0 => by simp [allN]
  | k + 1 => by have := allN_le a b k; unfold allN; split <;> omega
theorem othN_le (a b : List UInt8) (l : List Int) : ∀ k, othN a b l k ≤ k
  | 0 => by simp [othN]
  | k + 1 => by have := othN_le a b l k; unfold othN; (repeat' split) <;> omega
end G
end Go.Proofs.YtflmjdjkfognjaaGreat
namespace Go.Proofs.YtflmjdjkfognjaaGreat.G
theorem val_nil (x : UInt8) : val [] x = 0 := rfl
theorem val_cons (c : UInt8) (l : List UInt8) (x : UInt8) : val (c :: l) x = mul (val l x) x ^^^ c := by
  unfold val; rw [List.reverse_cons, eval_snoc]
theorem val_append (l m : List UInt8) (x : UInt8) : val (l ++ m) x = val l x ^^^ mul (val m x) (pw x l.length) := by
  unfold val
  rw [List.reverse_append, eval_append, List.length_reverse, xor_comm]
theorem val_zeros (n : Nat) (x : UInt8) : val (List.replicate n 0) x = 0 := by
  unfold val; rw [List.reverse_replicate, eval_zeros]
theorem val_bump (x v : UInt8) : ∀ (out : List UInt8) (j : Nat), j < out.length → val (bump out j v) x = val out x ^^^ mul v (pw x j)
  | [], j, h => by simp at h
  | c :: l, 0, _ => by
    rw [bump_cons_zero, val_cons, val_cons, pw, mul_one, xor_assoc]
  | c :: l, j + 1, h => by
    rw [bump_cons_succ, val_cons, val_cons, val_bump x v l j (by simpa using h), xor_mul, pw, ← mul_assoc, xor_assoc, xor_assoc]
    congr 1
    exact xor_comm _ _
theorem val_take_succ (q : List UInt8) (k : Nat) (h : k < q.length) (x : UInt8) : val (q.take (k + 1)) x = val (q.take k) x ^^^ mul (ix q k) (pw x k) := by
  rw [take_succ_ix q k h, val_append, List.length_take, Nat.min_eq_left (by omega)]
  congr 2
  rw [val_cons, val_nil, zero_mul, zero_xor]
theorem val_addRow (x a : UInt8) (q : List UInt8) (i : Nat) (out : List UInt8) : ∀ k, k ≤ q.length → i + k ≤ out.length →
    val (addRow i a q k out) x = val out x ^^^ mul (mul a (pw x i)) (val (q.take k) x)
  | 0, _, _ => by rw [addRow, List.take_zero, val_nil, mul_zero, xor_zero]
  | k + 1, h1, h2 => by
    rw [addRow, val_bump _ _ _ _ (by rw [addRow_length]; omega), val_addRow x a q i out k (by omega) (by omega), val_take_succ q k (by omega), mul_xor, xor_assoc]
    congr 2
    rw [pw_add, mul_assoc, mul_assoc]
    congr 1
    rw [← mul_assoc, ← mul_assoc, mul_comm (ix q k)]
theorem degN_spec (p : List UInt8) : ∀ n, (∀ i, i < n → (degN p n < (i : Int) → ix p i = 0)) ∧ (0 ≤ degN p n → ix p (degN p n).toNat ≠ 0) ∧ -1 ≤ degN p n ∧ degN p n < n
  | 0 => ⟨fun i h => by omega, fun h => by simp [degN] at h, by simp [degN], by simp [degN]⟩
  | n + 1 => by
    obtain ⟨h1, h2, h3, h4⟩ := degN_spec p n
    unfold degN
    by_cases h : ix p n = 0
    · rw [if_pos h]
      refine ⟨fun i hi hd => ?_, h2, h3, by omega⟩
      by_cases e : i = n
      · rw [e]; exact h
      · exact h1 i (by omega) hd
    · rw [if_neg h]
      exact ⟨fun i hi hd => by omega, fun _ => by simpa using h, by omega, by omega⟩
theorem ix_of_deg {p : List UInt8} {i : Nat} (h : deg p < (i : Int)) : ix p i = 0 := by
  by_cases hi : i < p.length
  · exact (degN_spec p p.length).1 i hi h
  · exact ix_of_le (by omega)
theorem deg_bounds (p : List UInt8) : -1 ≤ deg p ∧ deg p < p.length := ⟨(degN_spec p _).2.2.1, (degN_spec p _).2.2.2⟩
theorem ix_deg {p : List UInt8} {n : Nat} (h : deg p = (n : Int)) : ix p n ≠ 0 := by
  have := (degN_spec p p.length).2.1 (by show 0 ≤ deg p; omega)
  have e : (degN p p.length).toNat = n := by show (deg p).toNat = n; omega
  rwa [e] at this
theorem deg_lt {p : List UInt8} {n : Nat} (h : ∀ i, n ≤ i → ix p i = 0) : deg p < (n : Int) := by
  by_cases hd : deg p < (n : Int)
  · exact hd
  · have hb := deg_bounds p
    exact absurd (h (deg p).toNat (by omega)) (ix_deg (by omega))
theorem divLoop_done (q : List UInt8) (n : Nat) (h0 : ix q n ≠ 0) : ∀ (k : Nat) (S1 S2 : List UInt8), (∀ i, n + k ≤ i → ix S2 i = 0) → ∀ i, n ≤ i → ix (divLoop q n (inv (ix q n)) k (S1, S2)).2 i = 0
  | 0, S1, S2, h, i, hi => h i (by omega)
  | k + 1, S1, S2, h, i, hi => by
    rw [divLoop, divStep]
    refine divLoop_done q n h0 k _ _ (fun t ht => ?_) i hi
    rw [ix_addRow]
    by_cases e : t = n + k
    · subst e
      simp only [Nat.add_sub_cancel_left]
      split
      · rw [Nat.add_sub_cancel, ← mul_assoc, inv_mul h0, mul_one, xor_self]
      · next hh =>
          by_cases hl : n + k < S2.length
          · exact absurd ⟨by omega, by omega, hl⟩ hh
          · exact ix_of_le (by omega)
    · rw [if_neg (by omega)]
      exact h t (by omega)
theorem divide_eq {p q : List UInt8} {n : Nat} (hn : deg q = (n : Int)) : divide p q = divLoop q n (inv (ix q n)) (deg p + 1 - n).toNat (List.replicate (max ((p.length : Int) - n) 1).toNat 0, p) := by
  unfold divide
  rw [hn]
  simp only [Int.toNat_natCast]
/-- the remainder's degree is less than the divisor's -/
theorem divide_deg (p q : List UInt8) (h : 0 ≤ deg q) : deg (divide p q).2 < deg q := by
  obtain ⟨n, hn⟩ : ∃ n : Nat, deg q = (n : Int) := ⟨(deg q).toNat, by omega⟩
  rw [hn, divide_eq hn]
  refine deg_lt fun i hi => divLoop_done q n (ix_deg hn) _ _ _ (fun t ht => ix_of_deg (by omega)) i hi
theorem divLoop_len (q : List UInt8) (n : Nat) (iv : UInt8) : ∀ (k : Nat) (s : List UInt8 × List UInt8), (divLoop q n iv k s).1.length = s.1.length ∧ (divLoop q n iv k s).2.length = s.2.length
  | 0, s => ⟨rfl, rfl⟩
  | k + 1, s => by
    rw [divLoop]
    obtain ⟨h1, h2⟩ := divLoop_len q n iv k (divStep q n iv (n + k) s)
    rw [h1, h2]
    simp [divStep, addRow_length]
theorem divide_len (p q : List UInt8) : (divide p q).1.length = (max ((p.length : Int) - deg q) 1).toNat ∧ (divide p q).2.length = p.length := by
  have := divLoop_len q (deg q).toNat (inv (ix q (deg q).toNat)) (deg p + 1 - deg q).toNat (List.replicate (max ((p.length : Int) - deg q) 1).toNat 0, p)
  unfold divide
  exact ⟨by rw [this.1]; simp, this.2⟩
/-- Euclid's steps with the threshold 't': remainders a, b; factors u, v -/
def euc (t : Int) : Nat → List UInt8 → List UInt8 → List UInt8 → List UInt8 → List UInt8 × List UInt8
  | 0, _, b, _, v => (b, v)
  | f + 1, a, b, u, v => if t ≤ 2 * deg b then euc t f b (divide a b).2 v (plus u (prod (divide a b).1 v)) else (b, v)
theorem plus_len (p q : List UInt8) : (plus p q).length = max p.length q.length := by simp [plus]
def decOut (p : List UInt8) (n : Nat) (l : List Int) : List UInt8 :=
  repair p (prod (euc ((n : Int) + l.length) n (List.replicate n 0 ++ [1]) (xi p n l) [0] [1]).2 (erasI p.length l l.length)) (euc ((n : Int) + l.length) n (List.replicate n 0 ++ [1]) (xi p n l) [0] [1]).1
def decode (p : List UInt8) (n : Int) (l : List Int) : List UInt8 × Int × Int :=
  if shapedB p n = false then ([], 0, 1) else if posB p.length l = false then ([], 0, 1) else if n < l.length then ([], 0, 11)
  else if l = [] ∧ zeroB (xi p n.toNat l) = true then (p, 0, 0)
  else if validB (decOut p n.toNat l) n = true ∧ 2 * othN p (decOut p n.toNat l) l p.length + l.length ≤ n.toNat then (decOut p n.toNat l, (allN p (decOut p n.toNat l) p.length : Int), 0) else ([], 0, 11)
theorem xi_length (p : List UInt8) (n : Nat) (l : List Int) (hn : 1 ≤ n) : (xi p n l).length = n := by
  unfold xi
  have e1 := synd_length p n
  have e2 := erasI_length p.length l l.length
  rw [List.length_take, prod_length _ _ (by intro e; rw [e] at e1; simp at e1; omega) (by intro e; rw [e] at e2; simp at e2), e1, e2]
  omega
end Go.Proofs.YtflmjdjkfognjaaGreat.G
