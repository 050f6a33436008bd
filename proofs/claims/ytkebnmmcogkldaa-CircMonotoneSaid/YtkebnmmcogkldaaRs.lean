/- The Reed-Solomon code over lists of bytes: what the functions of the package compute. A polynomial of the package 'reedsolomon' has the coefficient of the lowest power first. -/
import Derived.Test.YtkebnmmcogkldaaGp
namespace Go.Proofs.Ytkebnmmcogkldaa.G

def shapedB (l : List UInt8) (n : Int) : Bool := decide (2 ≤ l.length) && decide (l.length ≤ 255) && decide (1 ≤ n) && decide (n ≤ 16) && decide (n < (l.length : Int))
theorem shapedB_iff (l : List UInt8) (n : Int) : shapedB l n = true ↔ 2 ≤ l.length ∧ l.length ≤ 255 ∧ 1 ≤ n ∧ n ≤ 16 ∧ n < (l.length : Int) := by
  simp [shapedB, and_assoc]
def synd (l : List UInt8) (n : Nat) : List UInt8 := (List.range n).map fun i => eval l (exp i)
theorem synd_length (l : List UInt8) (n : Nat) : (synd l n).length = n := by simp [synd]
theorem ix_synd (l : List UInt8) (n i : Nat) (h : i < n) : ix (synd l n) i = eval l (exp i) := by simp [synd, ix, h]
def zeroB (l : List UInt8) : Bool := l.all (· == 0)
def validB (l : List UInt8) (n : Int) : Bool := shapedB l n && zeroB (synd l n.toNat)
/-- the codeword -/
def enc (l : List UInt8) (n : Nat) : List UInt8 := l ++ rem (l ++ List.replicate n 0) (gen n)
def encB (l : List UInt8) (n : Int) : Bool := decide (1 ≤ n) && decide (n ≤ 16) && decide (l ≠ []) && decide ((l.length : Int) + n ≤ 255)
theorem enc_length (l : List UInt8) (n : Nat) : (enc l n).length = l.length + n := by
  unfold enc; rw [List.length_append, rem_length, gen_length]; omega

/-- the degree, -1 for zero: looked for below 'n' -/
def degN (p : List UInt8) : Nat → Int
  | 0 => -1
  | n + 1 => if ix p n = 0 then degN p n else n
def deg (p : List UInt8) : Int := degN p p.length
def plus (p q : List UInt8) : List UInt8 := (List.range (max p.length q.length)).map fun i => ix p i ^^^ ix q i
/-- the value, the lowest power first -/
def val (p : List UInt8) (x : UInt8) : UInt8 := eval p.reverse x
def deriv (p : List UInt8) : List UInt8 := (List.range (p.length - 1)).map fun i => if i % 2 = 0 then ix p (i + 1) else 0
/-- one row of a division: 'f' times the first 'k' coefficients of 'q', from place 'i' on: as 'addRow' -/
def divStep (q : List UInt8) (n : Nat) (iv : UInt8) (i : Nat) (s : List UInt8 × List UInt8) : List UInt8 × List UInt8 :=
  (s.1.set (i - n) (mul (ix s.2 i) iv), addRow (i - n) (mul (ix s.2 i) iv) q (n + 1) s.2)
/-- the steps at 'n + k - 1' down to 'n' -/
def divLoop (q : List UInt8) (n : Nat) (iv : UInt8) : Nat → List UInt8 × List UInt8 → List UInt8 × List UInt8
  | 0, s => s
  | k + 1, s => divLoop q n iv k (divStep q n iv (n + k) s)
/-- quotient and remainder; 'q' is not zero -/
def divide (p q : List UInt8) : List UInt8 × List UInt8 :=
  divLoop q (deg q).toNat (inv (ix q (deg q).toNat)) (deg p + 1 - deg q).toNat (List.replicate (max ((p.length : Int) - deg q) 1).toNat 0, p)
/-- the polynomial of erased positions of a word of length 'n' -/
def erasN (n : Nat) (l : List Nat) : List UInt8 := l.foldl (fun g at_ => prod g [1, exp (n - 1 - at_)]) [1]
end Go.Proofs.Ytkebnmmcogkldaa.G
namespace Go.Proofs.Ytkebnmmcogkldaa
/-- an element of a list of ints -/
def ixI (l : List Int) (i : Nat) : Int := l.getD i 0
namespace G
/-- the first 'k' positions lie in the word and increase -/
def posN (n : Nat) (l : List Int) : Nat → Bool
  | 0 => true
  | k + 1 => posN n l k && !(decide (ixI l k < 0) || decide ((n : Int) ≤ ixI l k) || (decide (0 < k) && decide (ixI l k ≤ ixI l (k - 1))))
def posB (n : Nat) (l : List Int) : Bool := posN n l l.length
/-- the polynomial of the first 'k' erased positions -/
def erasI (n : Nat) (l : List Int) : Nat → List UInt8
  | 0 => [1]
  | k + 1 => prod (erasI n l k) [1, exp (n - 1 - (ixI l k).toNat)]
theorem erasI_length (n : Nat) (l : List Int) : ∀ k, (erasI n l k).length = k + 1
  | 0 => rfl
  | k + 1 => by
    have h := erasI_length n l k
    have h1 : erasI n l k ≠ [] := by intro e; rw [e] at h; simp at h
    rw [erasI, prod_length _ _ h1 (by simp), h]
    simp
theorem posN_mono (n : Nat) (l : List Int) : ∀ (m k : Nat), k ≤ m → posN n l m = true → posN n l k = true
  | 0, k, h, hp => by obtain rfl : k = 0 := by omega
                      exact hp
  | m + 1, k, h, hp => by
    by_cases e : k = m + 1
    · rw [e]; exact hp
    · unfold posN at hp
      rw [Bool.and_eq_true] at hp
      exact posN_mono n l m k (by omega) hp.1
theorem posN_at (n : Nat) (l : List Int) {m k : Nat} (h : k < m) (hp : posN n l m = true) : 0 ≤ ixI l k ∧ ixI l k < n ∧ (0 < k → ixI l (k - 1) < ixI l k) := by
  have := posN_mono n l m (k + 1) (by omega) hp
  unfold posN at this
  simp only [Bool.and_eq_true, Bool.not_eq_true', Bool.or_eq_false_iff, decide_eq_false_iff_not, Bool.and_eq_false_iff] at this
  omega
/-- the syndromes times the polynomial of the erased positions, cut off -/
def xi (p : List UInt8) (n : Nat) (l : List Int) : List UInt8 := (prod (synd p n) (erasI p.length l l.length)).take n
/-- the powers of the inverse of 2, as 'repair' reckons them -/
def hp : Nat → UInt8
  | 0 => 1
  | j + 1 => mul (hp j) (inv 2)
/-- what is added to the symbol whose locator is the 'j'th power of 2 -/
def fixB (psi om : List UInt8) (j : Nat) : UInt8 :=
  if val psi (hp j) = 0 then mul (exp j) (mul (val om (hp j)) (inv (val (deriv psi) (hp j)))) else 0
def repair (p psi om : List UInt8) : List UInt8 := (List.range p.length).map fun i => ix p i ^^^ fixB psi om (p.length - 1 - i)
theorem repair_length (p psi om : List UInt8) : (repair p psi om).length = p.length := by simp [repair]
theorem ix_repair (p psi om : List UInt8) (i : Nat) (h : i < p.length) : ix (repair p psi om) i = ix p i ^^^ fixB psi om (p.length - 1 - i) := by
  simp [repair, ix, h]
def cont (l : List Int) (x : Int) : Bool := l.contains x
theorem cont_iff (l : List Int) (x : Int) : cont l x = true ↔ x ∈ l := by unfold cont; exact List.contains_iff_mem
/-- how many of the first 'k' positions differ -/
def allN (a b : List UInt8) : Nat → Nat
  | 0 => 0
  | k + 1 => allN a b k + if ix a k = ix b k then 0 else 1
/-- how many of the first 'k' positions differ and are not listed -/
def othN (a b : List UInt8) (l : List Int) : Nat → Nat
  | 0 => 0
  | k + 1 => othN a b l k + if ix a k = ix b k then 0 else if cont l (k : Int) then 0 else 1
theorem allN_le (a b : List UInt8) : ∀ k, allN a b k ≤ k
  | 0 => by simp [allN]
  | k + 1 => by have := allN_le a b k; unfold allN; split <;> omega
theorem othN_le (a b : List UInt8) (l : List Int) : ∀ k, othN a b l k ≤ k
  | 0 => by simp [othN]
  | k + 1 => by have := othN_le a b l k; unfold othN; (repeat' split) <;> omega
end G
end Go.Proofs.Ytkebnmmcogkldaa
