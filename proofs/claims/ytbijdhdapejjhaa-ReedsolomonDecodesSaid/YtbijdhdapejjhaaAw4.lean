/- The examples of chapter 4: 'awake' returns true. -/
import Derived.Test.YtbijdhdapejjhaaDecW
namespace Go.Proofs.Ytbijdhdapejjhaa
open Go.RowKit
set_option linter.unusedVariables false

theorem enc_ex (w : World) : Calls Try.prog 12 #[.string ⟨#[1]⟩, .int .i64 2] w fun e w' => e = .returned (.tuple #[.string ⟨#[1, 3, 2]⟩, .int .i64 0]) ∧ Below w.heap.size w w' := by
  have h := encode_ok [1] 2 w (by simp) (by omega) (by omega) (by simp)
  rw [show G.enc [1] 2 = [1, 3, 2] by decide +kernel] at h
  exact h
theorem dec_ex1 (w : World) : Calls Try.prog 21 #[.string ⟨#[1, 7, 2]⟩, .int .i64 2, .slice none 0 0] w fun e w' => e = .returned (.tuple #[.string ⟨#[1, 3, 2]⟩, .int .i64 1, .int .i64 0]) ∧ Below w.heap.size w w' := by
  have h := decode_any [1, 7, 2] 2 (.slice none 0 0) [] w (by simp) ⟨by simp, ⟨none, 0, 0, 0, rfl, by simp, fun i hi => by simp at hi⟩, fun i hi => by simp at hi⟩ (by simp)
  rw [show G.decode [1, 7, 2] 2 [] = ([1, 3, 2], 1, 0) by decide +kernel] at h
  exact h
theorem dec_ex2 (v : Value) (w : World) (hv : RdI w v [0]) : Calls Try.prog 21 #[.string ⟨#[9, 3, 2]⟩, .int .i64 2, v] w fun e w' => e = .returned (.tuple #[.string ⟨#[1, 3, 2]⟩, .int .i64 1, .int .i64 0]) ∧ Below w.heap.size w w' := by
  have h := decode_any [9, 3, 2] 2 v [0] w (by simp) hv (by simp)
  rw [show G.decode [9, 3, 2] 2 [0] = ([1, 3, 2], 1, 0) by decide +kernel] at h
  exact h
theorem val_ex (w : World) : Calls Try.prog 17 #[.string ⟨#[1, 3, 2]⟩, .int .i64 2] w fun e w' => e = .returned (.bool true) ∧ Below w.heap.size w w' := by
  have h := valid_any [1, 3, 2] 2 w (by simp)
  rw [show G.validB [1, 3, 2] 2 = true by decide +kernel] at h
  exact h

set_option maxRecDepth 100000 in
set_option maxHeartbeats 1000000 in
theorem awake_any (w : World) :
    Calls Try.prog 11 #[] w fun e w' => e = .returned (.bool true) ∧ Below w.heap.size w w' := by
  go_enter Try.func11, Try.ntmps11
  go_wp2_with fail
  refine (enc_ex _).mono ?_
  rintro e w1 ⟨rfl, hb1⟩
  go_wp2_with fail
  refine (dec_ex1 _).mono ?_
  rintro e w2 ⟨rfl, hb2⟩
  have hB2 := hb1.trans (hb2.mono hb1.size)
  clear hb1 hb2
  go_wp2_with fail
  have hr : RdI (w2.alloc (.cells #[.int .i64 0] 3)) (.slice (some ⟨w2.heap.size, 0, none⟩) 1 1) [0] := by
    refine ⟨by simp, ⟨_, 1, w2.heap.size, 0, rfl, by simp, fun i hi => ⟨rfl, ?_⟩⟩, fun i hi => ?_⟩
    · obtain rfl : i = 0 := by simpa using hi
      simp [ixI]
    · obtain rfl : i = 0 := by simpa using hi
      simp [ixI]
  refine (dec_ex2 _ _ hr).mono ?_
  rintro e w3 ⟨rfl, hb3⟩
  have hB3 := (hB2.alloc hB2.size (.cells #[.int .i64 0] 3)).trans (hb3.mono (by have := hB2.size; simp; omega))
  clear hB2 hb3 hr
  go_wp2_with fail
  refine (val_ex _).mono ?_
  rintro e w4 ⟨rfl, hb4⟩
  have hB4 := hB3.trans (hb4.mono hB3.size)
  go_wp2_with fail
  go_ret
  exact ⟨rfl, hB4⟩
end Go.Proofs.Ytbijdhdapejjhaa
