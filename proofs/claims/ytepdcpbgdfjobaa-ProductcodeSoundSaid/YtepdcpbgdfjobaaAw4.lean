/- The examples of chapter 4: 'awake' returns true. -/
import Derived.Test.YtepdcpbgdfjobaaDecW
namespace Go.Proofs.Ytepdcpbgdfjobaa
open Go.RowKit
set_option linter.unusedVariables false

theorem enc_ex (w : World) : Calls Try.prog 36 #[.string ⟨#[1]⟩, .int .i64 2] w fun e w' => e = .returned (.tuple #[.string ⟨#[1, 3, 2]⟩, .int .i64 0]) ∧ Below w.heap.size w w' := by
  have h := encode_ok [1] 2 w (by simp) (by omega) (by omega) (by simp)
  rw [show G.enc [1] 2 = [1, 3, 2] by decide +kernel] at h
  exact h
theorem dec_ex1 (w : World) : Calls Try.prog 68 #[.string ⟨#[1, 7, 2]⟩, .int .i64 2, .slice none 0 0] w fun e w' => e = .returned (.tuple #[.string ⟨#[1, 3, 2]⟩, .int .i64 1, .int .i64 0]) ∧ Below w.heap.size w w' := by
  have h := decode_any [1, 7, 2] 2 (.slice none 0 0) [] w (by simp) ⟨by simp, ⟨none, 0, 0, 0, rfl, by simp, fun i hi => by simp at hi⟩, fun i hi => by simp at hi⟩ (by simp)
  rw [show G.decode [1, 7, 2] 2 [] = ([1, 3, 2], 1, 0) by decide +kernel] at h
  exact h
theorem dec_ex2 (v : Value) (w : World) (hv : RdI w v [0]) : Calls Try.prog 68 #[.string ⟨#[9, 3, 2]⟩, .int .i64 2, v] w fun e w' => e = .returned (.tuple #[.string ⟨#[1, 3, 2]⟩, .int .i64 1, .int .i64 0]) ∧ Below w.heap.size w w' := by
  have h := decode_any [9, 3, 2] 2 v [0] w (by simp) hv (by simp)
  rw [show G.decode [9, 3, 2] 2 [0] = ([1, 3, 2], 1, 0) by decide +kernel] at h
  exact h
theorem val_ex (w : World) : Calls Try.prog 65 #[.string ⟨#[1, 3, 2]⟩, .int .i64 2] w fun e w' => e = .returned (.bool true) ∧ Below w.heap.size w w' := by
  have h := valid_any [1, 3, 2] 2 w (by simp)
  rw [show G.validB [1, 3, 2] 2 = true by decide +kernel] at h
  exact h

end Go.Proofs.Ytepdcpbgdfjobaa
