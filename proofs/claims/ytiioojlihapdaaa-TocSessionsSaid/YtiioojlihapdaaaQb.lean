/- Chapter 10: numbers of two digits, addresses: small functions walked. -/
import Derived.Test.YtiioojlihapdaaaQm
namespace Go.Proofs.Ytiioojlihapdaaa.W10
open Go.RowKit
set_option linter.unusedVariables false

/-- two digits in a byte -/
def bcd (n : Int) : Int := n / 10 * 16 + n % 10
/-- the number of a byte of two digits, and a code -/
def unbcd (x : Int) : Int × Int := if 9 < x / 16 ∨ 9 < x % 16 then (0, 2) else (10 * (x / 16) + x % 16, 0)
def vB (m s f : Int) : Bool := decide (0 ≤ m ∧ m ≤ 99 ∧ 0 ≤ s ∧ s ≤ 59 ∧ 0 ≤ f ∧ f ≤ 74)
theorem vB_f {m s f : Int} (h : ¬ (0 ≤ m ∧ m ≤ 99 ∧ 0 ≤ s ∧ s ≤ 59 ∧ 0 ≤ f ∧ f ≤ 74)) : vB m s f = false := decide_eq_false h
theorem vB_t {m s f : Int} (h : 0 ≤ m ∧ m ≤ 99 ∧ 0 ≤ s ∧ s ≤ 59 ∧ 0 ≤ f ∧ f ≤ 74) : vB m s f = true := decide_eq_true h
theorem vB_true {m s f : Int} : vB m s f = true ↔ (0 ≤ m ∧ m ≤ 99 ∧ 0 ≤ s ∧ s ≤ 59 ∧ 0 ≤ f ∧ f ≤ 74) := decide_eq_true_iff
theorem vB_false {m s f : Int} : vB m s f = false ↔ ¬ (0 ≤ m ∧ m ≤ 99 ∧ 0 ≤ s ∧ s ≤ 59 ∧ 0 ≤ f ∧ f ≤ 74) := decide_eq_false_iff_not
/-- two integers are returned -/
def R2 (a b : Value) (w : World) (e : Ending) (w' : World) : Prop := e = .returned (.tuple #[a, b]) ∧ w = w'
def R2B (a b : Value) (w : World) (e : Ending) (w' : World) : Prop := e = .returned (.tuple #[a, b]) ∧ Below w.heap.size w w'
theorem or_bcd : ∀ k : Nat, k < 100 → bits .or .i64 ((k : Int) / 10 * 16) ((k : Int) % 10) % 256 = (k : Int) / 10 * 16 + (k : Int) % 10 := by decide +kernel
theorem or_bcd' (n : Int) (h0 : 0 ≤ n) (h1 : n ≤ 99) : bits .or .i64 (n / 10 * 16) (n % 10) % 256 = bcd n := by
  have h := or_bcd n.toNat (by omega)
  rwa [Int.toNat_of_nonneg h0] at h
theorem unbcd_no {c : Int} (h : 9 < c / 16 ∨ 9 < c % 16) : unbcd c = (0, 2) := if_pos h
theorem unbcd_yes {c : Int} (h : c / 16 ≤ 9 ∧ c % 16 ≤ 9) : unbcd c = (10 * (c / 16) + c % 16, 0) := if_neg (by omega)
theorem ret22 {x y : Int} {r : Int × Int} (h : r = (x, y)) : Ending.returned (.tuple #[.int .i64 x, .int .i64 y]) = .returned (.tuple #[.int .i64 r.1, .int .i64 r.2]) := by rw [h]
theorem ret2 {a a' b : Value} (h : a = a') : Ending.returned (.tuple #[a, b]) = .returned (.tuple #[a', b]) := by rw [h]
theorem limit_0 (w : World) : Calls Try.prog 85 #[.int .i64 0] w (RV (.int .i64 100) w) := by
  go_enter Try.func85, Try.ntmps85
  go_wp2
  go_ret
  exact ⟨rfl, (Below.refl _ _).alloc (Nat.le_refl _) _⟩
theorem limit_1 (w : World) : Calls Try.prog 85 #[.int .i64 1] w (RV (.int .i64 60) w) := by
  go_enter Try.func85, Try.ntmps85
  go_wp2
  go_ret
  exact ⟨rfl, (Below.refl _ _).alloc (Nat.le_refl _) _⟩
theorem limit_2 (w : World) : Calls Try.prog 85 #[.int .i64 2] w (RV (.int .i64 75) w) := by
  go_enter Try.func85, Try.ntmps85
  go_wp2
  go_ret
  exact ⟨rfl, (Below.refl _ _).alloc (Nat.le_refl _) _⟩
theorem split_any (m s f : Int) (w : World) : Calls Try.prog 84 #[msfv m s f] w (RV (msfv m s f) w) := by
  go_enter Try.func84, Try.ntmps84
  go_wp2
  exact bodyPost_ret (v := msfv m s f) (by simp [results, Try.results84, go_sem]) rfl ⟨rfl, ((Below.refl _ _).alloc (Nat.le_refl _) _).alloc (by simp) _⟩
theorem anumber_any (m s f : Int) (w : World) (h : 0 ≤ m ∧ m ≤ 99 ∧ 0 ≤ s ∧ s ≤ 59 ∧ 0 ≤ f ∧ f ≤ 74) : Calls Try.prog 72 #[msfv m s f] w (RV (.int .i64 ((60 * m + s) * 75 + f)) w) := by
  obtain ⟨h1, h2, h3, h4, h5, h6⟩ := h
  go_enter Try.func72, Try.ntmps72
  go_wp2
  go_ret
  exact ⟨rfl, (Below.refl _ _).alloc (Nat.le_refl _) _⟩
end Go.Proofs.Ytiioojlihapdaaa.W10
