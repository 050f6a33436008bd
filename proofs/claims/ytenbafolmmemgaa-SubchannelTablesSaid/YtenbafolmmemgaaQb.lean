/- Chapter 10: numbers of two digits, addresses: small functions walked. -/
import Derived.Test.YtenbafolmmemgaaQm
namespace Go.Proofs.Ytenbafolmmemgaa.W10
open Go.RowKit
set_option linter.unusedVariables false

/-- two digits in a byte -/
def bcd (n : Int) : Int := n / 10 * 16 + n % 10
/-- the number of a byte of two digits, and a code -/
def unbcd (x : Int) : Int × Int := if 9 < x / 16 ∨ 9 < x % 16 then (0, 2) else (10 * (x / 16) + x % 16, 0)
def vB (m s f : Int) : Bool := decide (0 ≤ m ∧ m ≤ 99 ∧ 0 ≤ s ∧ s ≤ 59 ∧ 0 ≤ f ∧ f ≤ 74)
theorem vB_f {m s f : Int} (h : ¬ (0 ≤ m ∧ m ≤ 99 ∧ 0 ≤ s ∧ s ≤ 59 ∧ 0 ≤ f ∧ f ≤ 74)) : vB m s f = false := decide_eq_false h
theorem vB_t {m s f : Int} (h : 0 ≤ m ∧ m ≤ 99 ∧ 0 ≤ s ∧ s ≤ 59 ∧ 0 ≤ f ∧ f ≤ 74) : vB m s f = true := decide_eq_true h
theorem vB_true {m s f : Int} : vB m s f = true ↔ (0 ≤ m ∧ m ≤ 99 ∧ 0 ≤ s ∧ s ≤ 59 ∧ 0 ≤ f ∧ f ≤ 74) := decide_eq_true_iff
theorem vB_false {m s f : Int} : vB m s f = false ↔ ¬ (0 ≤ m ∧ m ≤ 99 ∧ 0 ≤ s ∧ s ≤ 59 ∧ 0 ≤ f ∧ f ≤ 74) := decide_eq_false_iff_not
/-- two integers are returned -/
def R2 (a b : Value) (w : World) (e : Ending) (w' : World) : Prop := e = .returned (.tuple #[a, b]) ∧ w = w'
def R2B (a b : Value) (w : World) (e : Ending) (w' : World) : Prop := e = .returned (.tuple #[a, b]) ∧ Below w.heap.size w w'
theorem or_bcd : ∀ k : Nat, k < 100 → bits .or .i64 ((k : Int) / 10 * 16) ((k : Int) % 10) % 256 = (k : Int) / 10 * 16 + (k : Int) % 10 := by decide +kernel
theorem or_bcd' (n : Int) (h0 : 0 ≤ n) (h1 : n ≤ 99) : bits .or .i64 (n / 10 * 16) (n % 10) % 256 = bcd n := by
  have h := or_bcd n.toNat (by omega)
  rwa [Int.toNat_of_nonneg h0] at h
theorem unbcd_no {c : Int} (h : 9 < c / 16 ∨ 9 < c % 16) : unbcd c = (0, 2) := if_pos h
theorem unbcd_yes {c : Int} (h : c / 16 ≤ 9 ∧ c % 16 ≤ 9) : unbcd c = (10 * (c / 16) + c % 16, 0) := if_neg (by omega)
theorem ret22 {x y : Int} {r : Int × Int} (h : r = (x, y)) : Ending.returned (.tuple #[.int .i64 x, .int .i64 y]) = .returned (.tuple #[.int .i64 r.1, .int .i64 r.2]) := by rw [h]
theorem ret2 {a a' b : Value} (h : a = a') : Ending.returned (.tuple #[a, b]) = .returned (.tuple #[a', b]) := by rw [h]
theorem bcd_any (n : Int) (w : World) (h0 : 0 ≤ n) (h1 : n ≤ 99) : Calls Try.prog 59 #[.int .i64 n] w (R2 (.int .u8 (bcd n)) (.int .i64 0) w) := by
  go_enter Try.func59, Try.ntmps59
  go_wp2
  go_ret2
  refine ⟨ret2 (congrArg (Value.int .u8) ?_), rfl⟩
  first | exact or_bcd' n h0 h1 | rfl
theorem rbcd_any (n : Int) (w : World) (h0 : 0 ≤ n) (h1 : n ≤ 99) : Calls Try.prog 65 #[.int .i64 n] w (R2 (.int .u8 (bcd n)) (.int .i64 0) w) := by
  go_enter Try.func65, Try.ntmps65
  go_wp2
  go_ret2
  refine ⟨ret2 (congrArg (Value.int .u8) ?_), rfl⟩
  first | exact or_bcd' n h0 h1 | rfl
theorem unbcd_any (c : Int) (w : World) (h0 : 0 ≤ c) (h1 : c ≤ 255) : Calls Try.prog 68 #[.int .u8 c] w (R2 (.int .i64 (unbcd c).1) (.int .i64 (unbcd c).2) w) := by
  go_enter Try.func68, Try.ntmps68
  go_wp2
  all_goals
    go_ret2
    refine ⟨ret22 ?_, rfl⟩
    first | exact unbcd_no (.inl (by assumption)) | exact unbcd_no (by assumption) | exact unbcd_yes (by assumption) | exact (unbcd_yes (by assumption)).trans (by rw [Int.mul_comm])
theorem runbcd_any (c : Int) (w : World) (h0 : 0 ≤ c) (h1 : c ≤ 255) : Calls Try.prog 53 #[.int .u8 c] w (R2 (.int .i64 (unbcd c).1) (.int .i64 (unbcd c).2) w) := by
  go_enter Try.func53, Try.ntmps53
  go_wp2
  all_goals
    go_ret2
    refine ⟨ret22 ?_, rfl⟩
    first | exact unbcd_no (.inl (by assumption)) | exact unbcd_no (by assumption) | exact unbcd_yes (by assumption) | exact (unbcd_yes (by assumption)).trans (by rw [Int.mul_comm])
theorem rvalid6_any (m s f : Int) (w : World) : Calls Try.prog 63 #[msfv m s f] w (RB (vB m s f) w) := by
  by_cases h0 : 0 ≤ m
  rotate_left
  · have d0 : decide (0 ≤ m) = false := decide_eq_false h0
    go_enter Try.func63, Try.ntmps63
    go_wp2
    go_ret
    exact ⟨retB (by first | exact (vB_t (by omega)).symm | exact (vB_f (by omega)).symm), (Below.refl _ _).alloc (Nat.le_refl _) _⟩
  by_cases h1 : m ≤ 99
  rotate_left
  · have d1 : decide (m ≤ 99) = false := decide_eq_false h1
    go_enter Try.func63, Try.ntmps63
    go_wp2
    go_ret
    exact ⟨retB (by first | exact (vB_t (by omega)).symm | exact (vB_f (by omega)).symm), (Below.refl _ _).alloc (Nat.le_refl _) _⟩
  by_cases h2 : 0 ≤ s
  rotate_left
  · have d2 : decide (0 ≤ s) = false := decide_eq_false h2
    go_enter Try.func63, Try.ntmps63
    go_wp2
    go_ret
    exact ⟨retB (by first | exact (vB_t (by omega)).symm | exact (vB_f (by omega)).symm), (Below.refl _ _).alloc (Nat.le_refl _) _⟩
  by_cases h3 : s ≤ 59
  rotate_left
  · have d3 : decide (s ≤ 59) = false := decide_eq_false h3
    go_enter Try.func63, Try.ntmps63
    go_wp2
    go_ret
    exact ⟨retB (by first | exact (vB_t (by omega)).symm | exact (vB_f (by omega)).symm), (Below.refl _ _).alloc (Nat.le_refl _) _⟩
  by_cases h4 : 0 ≤ f
  rotate_left
  · have d4 : decide (0 ≤ f) = false := decide_eq_false h4
    go_enter Try.func63, Try.ntmps63
    go_wp2
    go_ret
    exact ⟨retB (by first | exact (vB_t (by omega)).symm | exact (vB_f (by omega)).symm), (Below.refl _ _).alloc (Nat.le_refl _) _⟩
  by_cases h5 : f ≤ 74
  rotate_left
  · have d5 : decide (f ≤ 74) = false := decide_eq_false h5
    go_enter Try.func63, Try.ntmps63
    go_wp2
    go_ret
    exact ⟨retB (by first | exact (vB_t (by omega)).symm | exact (vB_f (by omega)).symm), (Below.refl _ _).alloc (Nat.le_refl _) _⟩
  go_enter Try.func63, Try.ntmps63
  go_wp2
  go_ret
  exact ⟨retB (by first | exact (vB_t (by omega)).symm | exact (vB_f (by omega)).symm), (Below.refl _ _).alloc (Nat.le_refl _) _⟩
theorem limit_0 (w : World) : Calls Try.prog 56 #[.int .i64 0] w (RV (.int .i64 100) w) := by
  go_enter Try.func56, Try.ntmps56
  go_wp2
  go_ret
  exact ⟨rfl, (Below.refl _ _).alloc (Nat.le_refl _) _⟩
theorem limit_1 (w : World) : Calls Try.prog 56 #[.int .i64 1] w (RV (.int .i64 60) w) := by
  go_enter Try.func56, Try.ntmps56
  go_wp2
  go_ret
  exact ⟨rfl, (Below.refl _ _).alloc (Nat.le_refl _) _⟩
theorem limit_2 (w : World) : Calls Try.prog 56 #[.int .i64 2] w (RV (.int .i64 75) w) := by
  go_enter Try.func56, Try.ntmps56
  go_wp2
  go_ret
  exact ⟨rfl, (Below.refl _ _).alloc (Nat.le_refl _) _⟩
theorem split_any (m s f : Int) (w : World) : Calls Try.prog 55 #[msfv m s f] w (RV (msfv m s f) w) := by
  go_enter Try.func55, Try.ntmps55
  go_wp2
  exact bodyPost_ret (v := msfv m s f) (by simp [results, Try.results55, go_sem]) rfl ⟨rfl, ((Below.refl _ _).alloc (Nat.le_refl _) _).alloc (by simp) _⟩
theorem anumber_any (m s f : Int) (w : World) (h : 0 ≤ m ∧ m ≤ 99 ∧ 0 ≤ s ∧ s ≤ 59 ∧ 0 ≤ f ∧ f ≤ 74) : Calls Try.prog 38 #[msfv m s f] w (RV (.int .i64 ((60 * m + s) * 75 + f)) w) := by
  obtain ⟨h1, h2, h3, h4, h5, h6⟩ := h
  go_enter Try.func38, Try.ntmps38
  go_wp2
  go_ret
  exact ⟨rfl, (Below.refl _ _).alloc (Nat.le_refl _) _⟩
theorem rnumber_any (m s f : Int) (w : World) (h : 0 ≤ m ∧ m ≤ 99 ∧ 0 ≤ s ∧ s ≤ 59 ∧ 0 ≤ f ∧ f ≤ 74) : Calls Try.prog 64 #[msfv m s f] w (RV (.int .i64 ((60 * m + s) * 75 + f)) w) := by
  obtain ⟨h1, h2, h3, h4, h5, h6⟩ := h
  go_enter Try.func64, Try.ntmps64
  go_wp2
  go_ret
  exact ⟨rfl, (Below.refl _ _).alloc (Nat.le_refl _) _⟩
end Go.Proofs.Ytenbafolmmemgaa.W10
