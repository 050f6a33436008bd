/- The cyclic redundancy check of 16 bits (chapter 2): the plain definitions; by tables and by bits the same. -/
import Derived.Test.YtjnedcncfdpjoaaGf
namespace Go.Proofs.Ytjnedcncfdpjoaa.C
set_option linter.unusedVariables false

/-- one step of the register -/
def st1 (n : Nat) : Nat := if n / 32768 = 1 then (n % 32768 * 2) ^^^ 4129 else n % 32768 * 2
def stN : Nat → Nat → Nat
  | 0, n => n
  | k + 1, n => st1 (stN k n)
/-- the register behind a byte -/
def st8 (n : Nat) : Nat := stN 8 n
theorem st1_lt {n : Nat} (h : n < 65536) : st1 n < 65536 := by
  unfold st1
  split
  · exact Nat.xor_lt_two_pow (n := 16) (by omega) (by omega)
  · omega
theorem stN_lt {n : Nat} (h : n < 65536) : ∀ k, stN k n < 65536
  | 0 => h
  | k + 1 => st1_lt (stN_lt h k)
def reg (c : Nat) (b : UInt8) : Nat := st8 (c ^^^ b.toNat * 256)
/-- the check of bytes behind a register -/
def crc (c : Nat) (s : List UInt8) : Nat := s.foldl reg c
theorem crc_lt {c : Nat} (h : c < 65536) : ∀ s : List UInt8, crc c s < 65536
  | [] => h
  | b :: s => crc_lt (stN_lt (Nat.xor_lt_two_pow (n := 16) (by omega) (by have := b.toNat_lt; omega)) 8) s
theorem crc_snoc (c : Nat) (s : List UInt8) (b : UInt8) : crc c (s ++ [b]) = reg (crc c s) b := by simp [crc]
/-- the table -/
def tab (b : Nat) : Nat := st8 (b * 256)
theorem split8a : ∀ hi, hi < 256 → ∀ lo, lo < 256 → st8 (hi * 256 + lo) = (lo * 256) ^^^ tab hi := by decide +kernel
theorem split8 {n : Nat} (h : n < 65536) : st8 n = (n % 256 * 256) ^^^ tab (n / 256) := by
  have := split8a (n / 256) (by omega) (n % 256) (by omega)
  rwa [show n / 256 * 256 + n % 256 = n by omega] at this
end Go.Proofs.Ytjnedcncfdpjoaa.C
