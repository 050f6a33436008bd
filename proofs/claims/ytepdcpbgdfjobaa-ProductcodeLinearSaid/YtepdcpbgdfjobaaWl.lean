/- Chapter 8: the law ProductcodeEncodes walked. -/
import Derived.Test.YtepdcpbgdfjobaaWf
import Derived.Test.YtepdcpbgdfjobaaWq
namespace Go.Proofs.Ytepdcpbgdfjobaa.W8
open Go.RowKit Go.Shelf
set_option linter.unusedVariables false

theorem fit_fst {raw : List UInt8} {m : Int} (h : fitB raw m = true) : fstB m = true ∧ raw.length = 2352 := by
  have h2 : raw.length = 2352 ∧ fstB m = true := by simpa [fitB] using h
  exact ⟨h2.2, h2.1⟩
set_option maxRecDepth 100000 in
set_option maxHeartbeats 1000000 in
theorem encode8_any (raw : List UInt8) (m : Int) (w : World) (hl : raw.length ≤ 9223372036854775807) :
    Calls Try.prog 17 #[.string (str raw), .int .i64 m] w fun e w' => e = .returned (.tuple #[.string (str (enc8 raw m).1), .int .i64 (enc8 raw m).2]) ∧ Below w.heap.size w w' := by
  cases hf : fitB raw m with
  | true =>
    have e1 : enc8 raw m = (encN raw (fstI m) 138, 0) := by unfold enc8; rw [hf]; rfl
    rw [e1]
    dsimp only
    exact encode8_ok raw m w (fit_fst hf).1 (fit_fst hf).2
  | false =>
    have e1 : enc8 raw m = ([], 1) := by unfold enc8; rw [hf]; rfl
    rw [e1]
    have hs := str_size raw
    have HF := Lib.hid (fun W => first_any m W)
    cases hb : fstB m with
    | false =>
      rw [hb] at HF
      clear e1 hb hf
      go_enter Try.func17, Try.ntmps17
      go_wp2_with (refine (HF.out _).mono ?_; rintro e w' ⟨rfl, rfl⟩)
      go_ret2
      exact ⟨rfl, (Below.refl _ _).alloc (Nat.le_refl _) _⟩
    | true =>
      rw [hb] at HF
      have hn : raw.length ≠ 2352 := by
        intro h
        unfold fitB at hf
        rw [hb, h] at hf
        simp at hf
      have hd : ((raw.length : Int) != 2352) = true := by simp; omega
      have HN := Lib.hid hn
      clear e1 hb hf hn
      go_enter Try.func17, Try.ntmps17
      go_wp2_with (refine (HF.out _).mono ?_; rintro e w' ⟨rfl, rfl⟩)
      go_ret2
      exact ⟨rfl, (Below.refl _ _).alloc (Nat.le_refl _) _⟩

set_option maxRecDepth 100000 in
set_option maxHeartbeats 4000000 in
theorem encodes_law (w : World) (s : ByteArray) (hs : s.data.toList.length ≤ 9223372036854775807) (m : Int) (hm : (Lit.int .i64 m).wf = true) : Calls Try.prog 5 #[.string s, .int .i64 m] w fun e w' => e = .returned (.bool true) ∧ Below w.heap.size w w' := by
  rw [str_list s]
  generalize s.data.toList = raw at hs
  have hz := str_size raw
  have H1 := Lib.hid (fun W => encode8_any raw m W hs)
  have H2 := Lib.hid (fun W => rencode8_any raw m W hs)
  have H3 := Lib.hid (fun W => valid8_any raw m W hs)
  have H4 := Lib.hid (fun W => rvalid8_any raw m W hs)
  generalize str (enc8 raw m).1 = X at H1 H2
  generalize (enc8 raw m).2 = r at H1 H2
  generalize vldB raw m = b at H3 H4
  have HX : Hid (∀ x : Bool, (x == x) = true) := Lib.hid (by simp)
  clear hm
  by_cases hbig : 2400 < raw.length
  · have hd : decide (2400 < (raw.length : Int)) = true := by simp; omega
    clear hbig
    go_enter Try.func5, Try.ntmps5
    go_wp2_with fail
    refine (awake8_any _).mono ?_
    rintro e w0 ⟨rfl, hb0⟩
    go_wp2_with fail
    go_ret
    exact ⟨rfl, hb0⟩
  · have hd : decide (2400 < (raw.length : Int)) = false := by simp; omega
    clear hbig
    go_enter Try.func5, Try.ntmps5
    go_wp2_with fail
    refine (awake8_any _).mono ?_
    rintro e w0 ⟨rfl, hb0⟩
    go_wp2_with fail
    refine (H1.out _).mono ?_
    rintro e w1 ⟨rfl, hb1⟩
    have hB1 := hb0.trans (hb1.mono hb0.size)
    clear hb0 hb1
    go_wp2_with fail
    refine (H2.out _).mono ?_
    rintro e w2 ⟨rfl, hb2⟩
    have hB2 := hB1.trans (hb2.mono hB1.size)
    clear hB1 hb2
    go_wp2_with fail
    refine (H3.out _).mono ?_
    rintro e w3 ⟨rfl, hb3⟩
    have hB3 := hB2.trans (hb3.mono hB2.size)
    clear hB2 hb3
    go_wp2_with fail
    refine (H4.out _).mono ?_
    rintro e w4 ⟨rfl, hb4⟩
    have hB4 := hB3.trans (hb4.mono hB3.size)
    clear hB3 hb4
    go_wp2_with fail
    go_ret
    exact ⟨rfl, hB4⟩
end Go.Proofs.Ytepdcpbgdfjobaa.W8
