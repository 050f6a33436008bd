/- Chapter 9: the law CircEncodes. -/
import Derived.Test.YtkebnmmcogkldaaDa
import Derived.Test.YtkebnmmcogkldaaD8
namespace Go.Proofs.Ytkebnmmcogkldaa.C9
open Go.ChangeShapes Go.WideShapes Go.RowKit Go.Deep W8
set_option linter.unusedVariables false

theorem pencC_any (d : List UInt8) (w : World) (hl : d.length ≤ 9223372036854775807) : Calls Try.prog 14 #[.string (str d)] w (EncP (encR d) w) := by
  unfold encR
  by_cases h : d.length = 0 ∨ d.length % 24 ≠ 0
  · rw [if_pos h]
    exact pencode_arg d w hl h
  · rw [if_neg h]
    by_cases h2 : 784 < d.length / 24
    · rw [if_pos h2]
      exact pencode_big d (d.length / 24) w hl (by omega) h2
    · rw [if_neg h2]
      exact pencode_ok d (d.length / 24) w (by omega) (by omega) (by omega)
theorem rencC_any (d : List UInt8) (w : World) (hl : d.length ≤ 9223372036854775807) : Calls Try.prog 15 #[.string (str d)] w (EncP (encR d) w) := by
  unfold encR
  by_cases h : d.length = 0 ∨ d.length % 24 ≠ 0
  · rw [if_pos h]
    exact rencodeC_arg d w hl h
  · rw [if_neg h]
    by_cases h2 : 784 < d.length / 24
    · rw [if_pos h2]
      exact rencodeC_big d (d.length / 24) w hl (by omega) h2
    · rw [if_neg h2]
      exact rencodeC_ok d (d.length / 24) w (by omega) (by omega) (by omega)
theorem encR_len (d : List UInt8) : (encR d).1.length ≤ 892 := by
  unfold encR
  split
  · simp
  · split
    · simp
    · simp only [frms_length]; omega
theorem scrR_len (F : List (List UInt8)) (l : List Sc) : (scrR F l).1.length ≤ F.length := by
  unfold scrR
  split
  · simp
  · simp [scrF_length]
/-- strings that a call made, as a slice that can be read -/
theorem EncP.rd {R : List (List UInt8) × Int} {w w' : World} {e : Ending} (h : EncP R w e w') : ∃ v, e = .returned (.tuple #[v, .int .i64 R.2]) ∧ RdStr w' v R.1 ∧ Below w.heap.size w w' := by
  obtain ⟨v, he, ho, hb⟩ := h
  exact ⟨v, he, RdD.ofOwn ssD_len ho, hb⟩
set_option maxRecDepth 100000 in
set_option maxHeartbeats 4000000 in
theorem encodes_law (w : World) (n : Int) (hn : (Lit.int .i64 n).wf = true) (s : ByteArray) (hs : s.size ≤ maxLen) (v : Value) (l : List Sc) (h : CameSc w v l) :
    Calls Try.prog 5 #[.int .i64 n, .string s, v] w fun e w' => e = .returned (.bool true) ∧ Below w.heap.size w w' := by
  obtain ⟨d, rfl⟩ : ∃ d, s = str d := ⟨s.data.toList, str_list s⟩
  rw [str_size] at hs
  unfold maxLen at hs
  have HE1 := Lib.hid (fun W => pencC_any d W (by omega))
  have HE2 := Lib.hid (fun W => rencC_any d W (by omega))
  have HEL := Lib.hid (encR_len d)
  have HSC := Lib.hid (fun F => scrR_len F l)
  have HP := Lib.hid (fun W va F hF hn hW => pscratch_any va F v l W hF hn hW)
  have HQ := Lib.hid (fun W va F hF hn hW => rscratch_any va F v l W hF hn hW)
  generalize encR d = RE at HE1 HE2 HEL
  have HC := Lib.hid h
  obtain ⟨a, c, rfl, _⟩ := RdD.form h.1
  have hl := h.2.2
  have hsz := str_size d
  clear h hn
  generalize d.length = m at *
  have hcase : (1200 < m) ∨ (¬ 1200 < m ∧ 20 < l.length) ∨ (¬ 1200 < m ∧ ¬ 20 < l.length) := by omega
  rcases hcase with h1 | ⟨h1, h2⟩ | ⟨h1, h2⟩
  all_goals
    go_enter Try.func5, Try.ntmps5
    go_wp2_with fail
    refine (awake9_any _).mono ?_
    rintro e w1 ⟨rfl, hb1⟩
    go_wp2_with fail
  iterate 2
    go_ret
    exact ⟨rfl, hb1⟩
  refine (HE1.out _).mono ?_
  intro e w2 hq
  obtain ⟨v2, rfl, hr2, hb2⟩ := hq.rd
  clear hq
  obtain ⟨a2, c2, rfl, _⟩ := RdD.form hr2
  have hbw := hb1.trans (hb2.mono hb1.size)
  clear hb1 hb2
  go_wp2_with fail
  refine (HE2.out _).mono ?_
  intro e w3 hq
  obtain ⟨v3, rfl, hr3, hb3⟩ := hq.rd
  clear hq
  obtain ⟨a3, c3, rfl, _⟩ := RdD.form hr3
  have hr2' := RdD.keep hr2 hb3
  have hbw3 := hbw.trans (hb3.mono hbw.size)
  clear hbw hb3 hr2
  have HX := Lib.hid (HP.out w3 _ RE.1 hr3 (by have := HEL.out; omega) (HC.out.keep hbw3))
  have HSL := Lib.hid (HSC.out RE.1)
  have HR2 := Lib.hid hr2'
  have HR3 := Lib.hid hr3
  clear hr2' hr3
  go_wp2_with fail
  refine HX.out.mono ?_
  intro e w4 hq
  obtain ⟨v4, rfl, hr4, hb4⟩ := hq.rd
  clear hq
  obtain ⟨a4, c4, rfl, _⟩ := RdD.form hr4
  have hbw4 := hbw3.trans (hb4.mono hbw3.size)
  have HY := Lib.hid (HQ.out w4 _ RE.1 (RdD.keep HR3.out hb4) (by have := HEL.out; omega) (HC.out.keep hbw4))
  have HR2 := Lib.hid (RdD.keep HR2.out hb4)
  have HR3 := Lib.hid (RdD.keep HR3.out hb4)
  clear hb4 hbw3
  have HR4 := Lib.hid hr4
  clear hr4
  go_wp2_with fail
  refine HY.out.mono ?_
  intro e w5 hq
  obtain ⟨v5, rfl, hr5, hb5⟩ := hq.rd
  clear hq
  obtain ⟨a5, c5, rfl, _⟩ := RdD.form hr5
  have hbw5 := hbw4.trans (hb5.mono hbw4.size)
  have HS1 := Lib.hid (strings_same _ _ RE.1 w5 (RdD.keep HR2.out hb5) (RdD.keep HR3.out hb5) (by have := HEL.out; omega))
  have HR4 := Lib.hid (RdD.keep HR4.out hb5)
  have HR5 := Lib.hid hr5
  have HFR := Lib.hid (fun W => frames_any n W)
  have HFQ := Lib.hid (fun W => rframes_any n W)
  generalize frN n = fn at HFR HFQ
  clear hr5 hb5 hbw4
  go_wp2_with fail
  refine (HFR.out _).mono ?_
  rintro e w' ⟨rfl, rfl⟩
  go_wp2_with fail
  refine (HFQ.out _).mono ?_
  rintro e w' ⟨rfl, rfl⟩
  go_wp2_with fail
  refine HS1.out.mono ?_
  rintro e w6 ⟨rfl, hb6⟩
  have HS2 := Lib.hid (strings_same _ _ (scrR RE.1 l).1 w6 (RdD.keep HR4.out hb6) (RdD.keep HR5.out hb6) (by have := HSL.out; have := HEL.out; omega))
  have hbw6 := hbw5.trans (hb6.mono hbw5.size)
  clear hb6 hbw5
  go_wp2_with fail
  refine HS2.out.mono ?_
  rintro e w7 ⟨rfl, hb7⟩
  have hbw7 := hbw6.trans (hb7.mono hbw6.size)
  clear hb7 hbw6
  go_wp2_with fail
  go_ret
  exact ⟨retB (by simp), hbw7⟩
end Go.Proofs.Ytkebnmmcogkldaa.C9
