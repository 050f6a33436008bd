/- The Reed-Solomon code over lists of bytes: what the functions of the package compute. A polynomial of the package 'reedsolomon' has the coefficient of the lowest power first. -/
import Derived.Test.YtbijdhdapejjhaaGp
namespace Go.Proofs.Ytbijdhdapejjhaa.G

def shapedB (l : List UInt8) (n : Int) : Bool := decide (2 ≤ l.length) && decide (l.length ≤ 255) && decide (1 ≤ n) && decide (n ≤ 16) && decide (n < (l.length : Int))
theorem shapedB_iff (l : List UInt8) (n : Int) : shapedB l n = true ↔ 2 ≤ l.length ∧ l.length ≤ 255 ∧ 1 ≤ n ∧ n ≤ 16 ∧ n < (l.length : Int) := by
  simp [shapedB, and_assoc]
def synd (l : List UInt8) (n : Nat) : List UInt8 := (List.range n).map fun i => eval l (exp i)
theorem synd_length (l : List UInt8) (n : Nat) : (synd l n).length = n := by simp [synd]
theorem ix_synd (l : List UInt8) (n i : Nat) (h : i < n) : ix (synd l n) i = eval l (exp i) := by simp [synd, ix, h]
def zeroB (l : List UInt8) : Bool := l.all (· == 0)
def validB (l : List UInt8) (n : Int) : Bool := shapedB l n && zeroB (synd l n.toNat)
/-- the codeword -/
def enc (l : List UInt8) (n : Nat) : List UInt8 := l ++ rem (l ++ List.replicate n 0) (gen n)
def encB (l : List UInt8) (n : Int) : Bool := decide (1 ≤ n) && decide (n ≤ 16) && decide (l ≠ []) && decide ((l.length : Int) + n ≤ 255)
theorem enc_length (l : List UInt8) (n : Nat) : (enc l n).length = l.length + n := by
  unfold enc; rw [List.length_append, rem_length, gen_length]; omega

/-- the degree, -1 for zero: looked for below 'n' -/
def degN (p : List UInt8) : Nat → Int
  | 0 => -1
  | n + 1 => if ix p n = 0 then degN p n else n
def deg (p : List UInt8) : Int := degN p p.length
def plus (p q : List UInt8) : List UInt8 := (List.range (max p.length q.length)).map fun i => ix p i ^^^ ix q i
/-- the value, the lowest power first -/
def val (p : List UInt8) (x : UInt8) : UInt8 := eval p.reverse x
def deriv (p : List UInt8) : List UInt8 := (List.range (p.length - 1)).map fun i => if i % 2 = 0 then ix p (i + 1) else 0
/-- one row of a division: 'f' times the first 'k' coefficients of 'q', from place 'i' on: as 'addRow' -/
def divStep (q : List UInt8) (n : Nat) (iv : UInt8) (i : Nat) (s : List UInt8 × List UInt8) : List UInt8 × List UInt8 :=
  (s.1.set (i - n) (mul (ix s.2 i) iv), addRow (i - n) (mul (ix s.2 i) iv) q (n + 1) s.2)
/-- the steps at 'n + k - 1' down to 'n' -/
def divLoop (q : List UInt8) (n : Nat) (iv : UInt8) : Nat → List UInt8 × List UInt8 → List UInt8 × List UInt8
  | 0, s => s
  | k + 1, s => divLoop q n iv k (divStep q n iv (n + k) s)
/-- quotient and remainder; 'q' is not zero -/
def divide (p q : List UInt8) : List UInt8 × List UInt8 :=
  divLoop q (deg q).toNat (inv (ix q (deg q).toNat)) (deg p + 1 - deg q).toNat (List.replicate (max ((p.length : Int) - deg q) 1).toNat 0, p)
/-- the polynomial of erased positions of a word of length 'n' -/
def erasN (n : Nat) (l : List Nat) : List UInt8 := l.foldl (fun g at_ => prod g [1, exp (n - 1 - at_)]) [1]
end Go.Proofs.Ytbijdhdapejjhaa.G
