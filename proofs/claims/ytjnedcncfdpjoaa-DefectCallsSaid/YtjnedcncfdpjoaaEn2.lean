/- Chapter 1: big-endian numbers of the package walked (sizes 2 and 4). -/
import Derived.Test.YtjnedcncfdpjoaaEn1
namespace Go.Proofs.Ytjnedcncfdpjoaa.E1
open Go.RowKit
set_option linter.unusedVariables false

theorem fitE_2 (n : Int) : fitE n 2 = decide (0 ≤ n ∧ n < 65536) := by
  unfold fitE
  rw [Bool.eq_iff_iff, Bool.and_eq_true, decide_eq_true_eq, decide_eq_true_eq, decide_eq_true_eq]
  have e : (256 : Nat) ^ 2 = 65536 := by decide
  rw [e]
  constructor
  · rintro ⟨h1, h2⟩
    refine ⟨h1, ?_⟩
    omega
  · rintro ⟨h1, h2⟩
    refine ⟨h1, ?_⟩
    omega
set_option maxRecDepth 100000 in
theorem efits2 (n : Int) (w : World) : Calls Try.prog 81 #[.int .i64 n, .int .i64 2] w fun e w' => e = .returned (.bool (fitE n 2)) ∧ w = w' := by
  rw [fitE_2]
  by_cases h0 : 0 ≤ n
  · by_cases h1 : n < 65536
    · rw [decide_eq_true ⟨h0, h1⟩]
      go_enter Try.func81, Try.ntmps81
      go_wp2_with fail
      go_ret
      exact ⟨rfl, rfl⟩
    · rw [decide_eq_false (fun h => h1 h.2)]
      go_enter Try.func81, Try.ntmps81
      go_wp2_with fail
      go_ret
      exact ⟨rfl, rfl⟩
  · rw [decide_eq_false (fun h => h0 h.1)]
    go_enter Try.func81, Try.ntmps81
    go_wp2_with fail
    go_ret
    exact ⟨rfl, rfl⟩
set_option maxRecDepth 100000 in
theorem echeck2 (n : Int) (w : World) : Calls Try.prog 61 #[.int .i64 n, .int .i64 2] w fun e w' => e = .returned (.int .i64 (bigR n 2).2) ∧ w = w' := by
  have HF := Lib.hid (fun W => efits2 n W)
  cases hf : fitE n 2 with
  | true =>
    have e1 : (bigR n 2).2 = 0 := by unfold bigR; rw [hf]; rfl
    rw [e1]
    rw [hf] at HF
    clear e1 hf
    go_enter Try.func61, Try.ntmps61
    go_wp2_with fail
    refine (HF.out _).mono ?_
    rintro e w' ⟨rfl, rfl⟩
    go_wp2_with fail
    go_ret
    exact ⟨rfl, rfl⟩
  | false =>
    have e1 : (bigR n 2).2 = 2 := by unfold bigR; rw [hf]; rfl
    rw [e1]
    rw [hf] at HF
    clear e1 hf
    go_enter Try.func61, Try.ntmps61
    go_wp2_with fail
    refine (HF.out _).mono ?_
    rintro e w' ⟨rfl, rfl⟩
    go_wp2_with fail
    go_ret
    exact ⟨rfl, rfl⟩
theorem fitE_4 (n : Int) : fitE n 4 = decide (0 ≤ n ∧ n < 4294967296) := by
  unfold fitE
  rw [Bool.eq_iff_iff, Bool.and_eq_true, decide_eq_true_eq, decide_eq_true_eq, decide_eq_true_eq]
  have e : (256 : Nat) ^ 4 = 4294967296 := by decide
  rw [e]
  constructor
  · rintro ⟨h1, h2⟩
    refine ⟨h1, ?_⟩
    omega
  · rintro ⟨h1, h2⟩
    refine ⟨h1, ?_⟩
    omega
set_option maxRecDepth 100000 in
theorem efits4 (n : Int) (w : World) : Calls Try.prog 81 #[.int .i64 n, .int .i64 4] w fun e w' => e = .returned (.bool (fitE n 4)) ∧ w = w' := by
  rw [fitE_4]
  by_cases h0 : 0 ≤ n
  · by_cases h1 : n < 4294967296
    · rw [decide_eq_true ⟨h0, h1⟩]
      go_enter Try.func81, Try.ntmps81
      go_wp2_with fail
      go_ret
      exact ⟨rfl, rfl⟩
    · rw [decide_eq_false (fun h => h1 h.2)]
      go_enter Try.func81, Try.ntmps81
      go_wp2_with fail
      go_ret
      exact ⟨rfl, rfl⟩
  · rw [decide_eq_false (fun h => h0 h.1)]
    go_enter Try.func81, Try.ntmps81
    go_wp2_with fail
    go_ret
    exact ⟨rfl, rfl⟩
set_option maxRecDepth 100000 in
theorem echeck4 (n : Int) (w : World) : Calls Try.prog 61 #[.int .i64 n, .int .i64 4] w fun e w' => e = .returned (.int .i64 (bigR n 4).2) ∧ w = w' := by
  have HF := Lib.hid (fun W => efits4 n W)
  cases hf : fitE n 4 with
  | true =>
    have e1 : (bigR n 4).2 = 0 := by unfold bigR; rw [hf]; rfl
    rw [e1]
    rw [hf] at HF
    clear e1 hf
    go_enter Try.func61, Try.ntmps61
    go_wp2_with fail
    refine (HF.out _).mono ?_
    rintro e w' ⟨rfl, rfl⟩
    go_wp2_with fail
    go_ret
    exact ⟨rfl, rfl⟩
  | false =>
    have e1 : (bigR n 4).2 = 2 := by unfold bigR; rw [hf]; rfl
    rw [e1]
    rw [hf] at HF
    clear e1 hf
    go_enter Try.func61, Try.ntmps61
    go_wp2_with fail
    refine (HF.out _).mono ?_
    rintro e w' ⟨rfl, rfl⟩
    go_wp2_with fail
    go_ret
    exact ⟨rfl, rfl⟩
set_option maxRecDepth 100000 in
theorem down_any (x : Int) (w : World) : Calls Try.prog 63 #[.int .i64 x] w fun e w' => ∃ b : Nat, e = .returned (.func (.func 82) #[] #[.pointer (some ⟨b, 0, none⟩)]) ∧ w'.cell? ⟨b, 0, none⟩ = some (.int .i64 x) ∧ w.heap.size ≤ b ∧ Below w.heap.size w w' := by
  have hc : (w.alloc (.cells #[.int .i64 x] 3)).cell? ⟨w.heap.size, 0, none⟩ = some (.int .i64 x) := by
    rw [cell_of_row _ _ _ _ _ _ (heap_alloc_new w _)]
    rfl
  have hb := (Below.refl w.heap.size w).alloc (Nat.le_refl _) (.cells #[.int .i64 x] 3)
  have HC := Lib.hid hc; have HB := Lib.hid hb
  clear hc hb
  go_enter Try.func63, Try.ntmps63
  go_wp2_with fail
  go_ret
  exact ⟨_, rfl, HC.out, Nat.le_refl _, HB.out⟩
set_option maxRecDepth 100000 in
theorem down1_any (b : Nat) (size k : Int) (w : World) (hc : w.cell? ⟨b, 0, none⟩ = some (.int .i64 size)) (h0 : 0 ≤ k) (h1 : k < size) (h2 : size ≤ 8) : Calls Try.prog 82 #[.int .i64 k, .pointer (some ⟨b, 0, none⟩)] w fun e w' => e = .returned (.int .i64 (size - 1 - k)) ∧ w = w' := by
  go_enter Try.func82, Try.ntmps82
  go_wp2_with fail
  go_ret
  exact ⟨rfl, rfl⟩
end Go.Proofs.Ytjnedcncfdpjoaa.E1
