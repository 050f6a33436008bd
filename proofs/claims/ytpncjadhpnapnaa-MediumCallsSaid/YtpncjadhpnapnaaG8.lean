/- The field with 256 elements over bytes; polynomials as lists of bytes, the coefficient of the highest power first. -/
import Derived.Test.YtpncjadhpnapnaaGf
namespace Go.Proofs.Ytpncjadhpnapnaa.G

def mul (a b : UInt8) : UInt8 := UInt8.ofNat (Gf.mul a.toNat b.toNat)
def inv (a : UInt8) : UInt8 := UInt8.ofNat (Gf.inv a.toNat)
def exp (n : Nat) : UInt8 := UInt8.ofNat (Gf.exp n)
def log (a : UInt8) : Nat := Gf.log a.toNat
def dbl (a : UInt8) : UInt8 := UInt8.ofNat (Gf.dbl a.toNat)

theorem lt (a : UInt8) : a.toNat < 256 := UInt8.toNat_lt a
theorem toNat_of {n : Nat} (h : n < 256) : (UInt8.ofNat n).toNat = n := by simp; omega
theorem toNat_mul (a b : UInt8) : (mul a b).toNat = Gf.mul a.toNat b.toNat := toNat_of (Gf.mul_lt (lt a))
theorem toNat_inv (a : UInt8) : (inv a).toNat = Gf.inv a.toNat := toNat_of (Gf.inv_lt _)
theorem toNat_exp (n : Nat) : (exp n).toNat = Gf.exp n := toNat_of (Gf.exp_lt n)
theorem toNat_dbl (a : UInt8) : (dbl a).toNat = Gf.dbl a.toNat := toNat_of (Gf.dbl_lt (lt a))
theorem ext {a b : UInt8} (h : a.toNat = b.toNat) : a = b := UInt8.toNat_inj.1 h
theorem toNat_ne {a : UInt8} (h : a ≠ 0) : a.toNat ≠ 0 := fun e => h (ext (by simpa using e))

theorem mul_comm (a b : UInt8) : mul a b = mul b a := ext (by rw [toNat_mul, toNat_mul, Gf.mul_comm (lt a) (lt b)])
theorem mul_assoc (a b c : UInt8) : mul a (mul b c) = mul (mul a b) c := ext (by simp only [toNat_mul]; exact Gf.mul_assoc (lt a) (lt b) (lt c))
theorem mul_xor (a b c : UInt8) : mul a (b ^^^ c) = mul a b ^^^ mul a c := ext (by simp only [toNat_mul, UInt8.toNat_xor]; exact Gf.mul_xor (lt a) (lt b) (lt c))
theorem xor_mul (a b c : UInt8) : mul (a ^^^ b) c = mul a c ^^^ mul b c := by rw [mul_comm, mul_xor, mul_comm c, mul_comm c]
theorem zero_mul (a : UInt8) : mul 0 a = 0 := ext (by rw [toNat_mul]; exact Gf.zero_mul _)
theorem mul_zero (a : UInt8) : mul a 0 = 0 := by rw [mul_comm, zero_mul]
theorem one_mul (a : UInt8) : mul 1 a = a := ext (by rw [toNat_mul]; exact Gf.one_mul (lt a))
theorem mul_one (a : UInt8) : mul a 1 = a := by rw [mul_comm, one_mul]
theorem mul_inv {a : UInt8} (h : a ≠ 0) : mul a (inv a) = 1 := ext (by rw [toNat_mul, toNat_inv, Gf.mul_inv (lt a) (toNat_ne h)]; rfl)
theorem inv_mul {a : UInt8} (h : a ≠ 0) : mul (inv a) a = 1 := by rw [mul_comm, mul_inv h]
theorem inv_zero : inv 0 = 0 := by decide +kernel
theorem inv_ne {a : UInt8} (h : a ≠ 0) : inv a ≠ 0 := fun e => Gf.inv_ne_zero (toNat_ne h) (by rw [← toNat_inv, e]; rfl)
theorem mul_eq_zero {a b : UInt8} (h : mul a b = 0) : a = 0 ∨ b = 0 := by
  have h' : (mul a b).toNat = 0 := by rw [h]; rfl
  rw [toNat_mul] at h'
  rcases Gf.mul_eq_zero (lt a) (lt b) h' with h | h
  · exact .inl (ext (by simpa using h))
  · exact .inr (ext (by simpa using h))
theorem mul_ne {a b : UInt8} (ha : a ≠ 0) (hb : b ≠ 0) : mul a b ≠ 0 := fun h => (mul_eq_zero h).elim ha hb
theorem mul_cancel {a b c : UInt8} (ha : a ≠ 0) (h : mul a b = mul a c) : b = c := by
  have e := congrArg (mul (inv a)) h
  rwa [mul_assoc, mul_assoc, inv_mul ha, one_mul, one_mul] at e
theorem exp_add (m n : Nat) : exp (m + n) = mul (exp m) (exp n) := ext (by rw [toNat_mul, toNat_exp, toNat_exp, toNat_exp, Gf.exp_add])
theorem exp_zero : exp 0 = 1 := by decide +kernel
theorem exp_one : exp 1 = 2 := by decide +kernel
theorem exp_ne (n : Nat) : exp n ≠ 0 := fun h => Gf.exp_ne_zero n (by rw [← toNat_exp, h]; rfl)
theorem exp_mod (n : Nat) : exp (n % 255) = exp n := ext (by rw [toNat_exp, toNat_exp, Gf.exp_mod])
theorem exp_255 : exp 255 = 1 := by rw [← exp_mod]; exact exp_zero
theorem exp_log {a : UInt8} (h : a ≠ 0) : exp (log a) = a := ext (by rw [toNat_exp]; exact (Gf.exp_log (lt a) (toNat_ne h)).2)
theorem log_lt {a : UInt8} (h : a ≠ 0) : log a < 255 := (Gf.exp_log (lt a) (toNat_ne h)).1
theorem log_exp {n : Nat} (h : n < 255) : log (exp n) = n := by unfold log; rw [toNat_exp, Gf.log_exp h]
theorem exp_inj {m n : Nat} (hm : m < 255) (hn : n < 255) (h : exp m = exp n) : m = n := by rw [← log_exp hm, h, log_exp hn]

theorem xor_assoc (a b c : UInt8) : (a ^^^ b) ^^^ c = a ^^^ (b ^^^ c) := UInt8.xor_assoc a b c
theorem xor_comm (a b : UInt8) : a ^^^ b = b ^^^ a := UInt8.xor_comm a b
theorem xor_self (a : UInt8) : a ^^^ a = 0 := UInt8.xor_self
theorem xor_zero (a : UInt8) : a ^^^ 0 = a := UInt8.xor_zero
theorem zero_xor (a : UInt8) : 0 ^^^ a = a := UInt8.zero_xor
theorem xor_4 (a b c d : UInt8) : (a ^^^ b) ^^^ (c ^^^ d) = (a ^^^ c) ^^^ (b ^^^ d) := by
  rw [xor_assoc, xor_assoc, ← xor_assoc b, xor_comm b c, xor_assoc c]
theorem xor_eq_zero {a b : UInt8} (h : a ^^^ b = 0) : a = b := by
  have : (a ^^^ b) ^^^ b = b := by rw [h, zero_xor]
  rwa [xor_assoc, xor_self, xor_zero] at this
theorem xor_cancel (a b : UInt8) : a ^^^ (a ^^^ b) = b := by rw [← xor_assoc, xor_self, zero_xor]

/-- the coefficient with number 'i', 0 beyond the end -/
def ix (l : List UInt8) (i : Nat) : UInt8 := l.getD i 0

/-- the value of a polynomial -/
def evalA (x : UInt8) : UInt8 → List UInt8 → UInt8
  | s, [] => s
  | s, c :: p => evalA x (mul s x ^^^ c) p
def eval (p : List UInt8) (x : UInt8) : UInt8 := evalA x 0 p

/-- 'v' is added to the coefficient with number 'j' -/
def bump (out : List UInt8) (j : Nat) (v : UInt8) : List UInt8 := out.set j (ix out j ^^^ v)
/-- the first 'k' coefficients of 'q', times 'a', are added from place 'i' on -/
def addRow (i : Nat) (a : UInt8) (q : List UInt8) : Nat → List UInt8 → List UInt8
  | 0, out => out
  | k + 1, out => bump (addRow i a q k out) (i + k) (mul a (ix q k))
/-- the rows of the first 'i' coefficients of 'p' -/
def addRows (p q : List UInt8) : Nat → List UInt8
  | 0 => List.replicate (p.length + q.length - 1) 0
  | i + 1 => addRow i (ix p i) q q.length (addRows p q i)
/-- the product of two polynomials -/
def prod (p q : List UInt8) : List UInt8 := if p = [] ∨ q = [] then [] else addRows p q p.length

theorem bump_length (out : List UInt8) (j : Nat) (v : UInt8) : (bump out j v).length = out.length := by simp [bump]
theorem addRow_length (i : Nat) (a : UInt8) (q : List UInt8) (k : Nat) (out : List UInt8) : (addRow i a q k out).length = out.length := by
  induction k with
  | zero => rfl
  | succ k ih => rw [addRow, bump_length, ih]
theorem addRows_length (p q : List UInt8) (i : Nat) : (addRows p q i).length = p.length + q.length - 1 := by
  induction i with
  | zero => simp [addRows]
  | succ i ih => rw [addRows, addRow_length, ih]
theorem prod_length (p q : List UInt8) (hp : p ≠ []) (hq : q ≠ []) : (prod p q).length = p.length + q.length - 1 := by
  unfold prod; rw [if_neg (by simp [hp, hq]), addRows_length]
theorem prod_eq {p q : List UInt8} (hp : p ≠ []) (hq : q ≠ []) : prod p q = addRows p q p.length := by
  unfold prod; rw [if_neg (by simp [hp, hq])]
theorem prod_nil_left (q : List UInt8) : prod [] q = [] := by simp [prod]
theorem prod_nil_right (p : List UInt8) : prod p [] = [] := by simp [prod]
/-- the rows of a division: 'i' steps -/
def divRows (q : List UInt8) (iv : UInt8) : Nat → List UInt8 → List UInt8
  | 0, r => r
  | i + 1, r => addRow i (mul (ix (divRows q iv i r) i) iv) q q.length (divRows q iv i r)
theorem divRows_length (q : List UInt8) (iv : UInt8) (i : Nat) (r : List UInt8) : (divRows q iv i r).length = r.length := by
  induction i with
  | zero => rfl
  | succ i ih => rw [divRows, addRow_length, ih]
/-- 'm' zeros ahead of 'p' -/
def pad (m : Nat) (p : List UInt8) : List UInt8 := List.replicate m 0 ++ p
theorem pad_length (m : Nat) (p : List UInt8) : (pad m p).length = m + p.length := by simp [pad]
/-- the remainder of a division by 'q', whose first coefficient is not 0 -/
def rem (p q : List UInt8) : List UInt8 := (divRows q (inv (ix q 0)) p.length (pad (q.length - 1) p)).drop p.length
theorem rem_length (p q : List UInt8) : (rem p q).length = q.length - 1 := by
  unfold rem; rw [List.length_drop, divRows_length, pad_length]; omega
/-- the remainder as the reference computes it -/
def rrem (p q : List UInt8) : List UInt8 :=
  pad ((q.length - 1) - (p.length - (p.length - (q.length - 1)))) ((divRows q (inv (ix q 0)) (p.length - (q.length - 1)) p).drop (p.length - (q.length - 1)))

theorem ix_append_left {l m : List UInt8} {i : Nat} (h : i < l.length) : ix (l ++ m) i = ix l i := by
  unfold ix; rw [List.getD_eq_getElem?_getD, List.getD_eq_getElem?_getD, List.getElem?_append_left h]
theorem ix_append_right {l m : List UInt8} {i : Nat} (h : l.length ≤ i) : ix (l ++ m) i = ix m (i - l.length) := by
  unfold ix; rw [List.getD_eq_getElem?_getD, List.getD_eq_getElem?_getD, List.getElem?_append_right h]
theorem ix_zeros (n i : Nat) : ix (List.replicate n 0) i = 0 := by
  unfold ix
  by_cases h : i < n
  · simp [h]
  · simp [h]
theorem ix_of_le {l : List UInt8} {i : Nat} (h : l.length ≤ i) : ix l i = 0 := by
  unfold ix; rw [List.getD_eq_getElem?_getD, List.getElem?_eq_none h]; rfl

theorem bump_zero (out : List UInt8) (j : Nat) : bump out j 0 = out := by
  unfold bump
  rw [xor_zero]
  by_cases h : j < out.length
  · have : ix out j = out[j] := by simp [ix, h]
    rw [this, List.set_getElem_self]
  · rw [List.set_eq_of_length_le (by omega)]
theorem addRow_zero (i : Nat) (q : List UInt8) (k : Nat) (out : List UInt8) : addRow i 0 q k out = out := by
  induction k with
  | zero => rfl
  | succ k ih => rw [addRow, ih, zero_mul, bump_zero]
theorem bump_pad (m : Nat) (out : List UInt8) (j : Nat) (v : UInt8) : bump (pad m out) (m + j) v = pad m (bump out j v) := by
  have e : ix (pad m out) (m + j) = ix out j := by
    unfold pad; rw [ix_append_right (by simp)]; simp
  unfold bump
  rw [e]
  unfold pad
  rw [List.set_append_right _ _ (by simp)]
  simp
theorem addRow_pad (m i : Nat) (a : UInt8) (q : List UInt8) (k : Nat) (out : List UInt8) : addRow (m + i) a q k (pad m out) = pad m (addRow i a q k out) := by
  induction k with
  | zero => rfl
  | succ k ih => rw [addRow, ih, addRow, Nat.add_assoc, bump_pad]
theorem divRows_low (q : List UInt8) (iv : UInt8) (m : Nat) (p : List UInt8) : ∀ i, i ≤ m → divRows q iv i (pad m p) = pad m p := by
  intro i
  induction i with
  | zero => intro _; rfl
  | succ i ih =>
    intro h
    have e : ix (pad m p) i = 0 := by unfold pad; rw [ix_append_left (by simp; omega), ix_zeros]
    rw [divRows, ih (by omega), e, zero_mul, addRow_zero]
theorem divRows_pad (q : List UInt8) (iv : UInt8) (m : Nat) (p : List UInt8) (t : Nat) : divRows q iv (m + t) (pad m p) = pad m (divRows q iv t p) := by
  induction t with
  | zero => exact divRows_low q iv m p m (Nat.le_refl _)
  | succ t ih =>
    have e : ix (pad m (divRows q iv t p)) (m + t) = ix (divRows q iv t p) t := by
      unfold pad; rw [ix_append_right (by simp)]; simp
    rw [← Nat.add_assoc, divRows, ih, e, addRow_pad, divRows]
theorem pad_drop (m k : Nat) (p : List UInt8) (h : k ≤ m) : (pad m p).drop k = pad (m - k) p := by
  unfold pad
  rw [List.drop_append_of_le_length (by simp; omega)]
  simp
theorem rem_eq (p q : List UInt8) : rem p q = rrem p q := by
  unfold rem rrem
  by_cases h : p.length ≤ q.length - 1
  · rw [divRows_low _ _ _ _ _ h, pad_drop _ _ _ h, show p.length - (q.length - 1) = 0 by omega]
    rfl
  · obtain ⟨t, ht⟩ : ∃ t, t = p.length - (q.length - 1) := ⟨_, rfl⟩
    rw [← ht, show q.length - 1 - (p.length - t) = 0 by omega]
    have e : p.length = (q.length - 1) + t := by omega
    conv => lhs; rw [e]
    rw [divRows_pad]
    unfold pad
    rw [List.drop_append, List.drop_of_length_le (by simp)]
    simp
/-- the generator polynomial -/
def gen : Nat → List UInt8
  | 0 => [1]
  | n + 1 => prod (gen n) [1, exp n]
theorem gen_length (n : Nat) : (gen n).length = n + 1 := by
  induction n with
  | zero => rfl
  | succ n ih =>
    have h : gen n ≠ [] := by intro e; rw [e] at ih; simp at ih
    rw [gen, prod_length _ _ h (by simp), ih]; rfl
end Go.Proofs.Ytpncjadhpnapnaa.G
