/- The law SubchannelCollects walked: it returns true. -/
import Derived.Test.YtenbafolmmemgaaQcr
import Derived.Test.YtenbafolmmemgaaQaw
import Derived.Test.YtenbafolmmemgaaQof
namespace Go.Proofs.Ytenbafolmmemgaa.W10
open Go.RowKit
set_option linter.unusedVariables false

set_option maxRecDepth 100000 in
set_option maxHeartbeats 2000000 in
/-- equal lists are found equal -/
theorem iequal_any (v u : Value) (l : List Int) (w : World) (hr : RdN w v l) (hs : RdN w u l) (hn : l.length ≤ 1000000) :
    Calls Try.prog 21 #[v, u] w (RB true w) := by
  obtain ⟨a, c, b, off, rfl, hac, hcell⟩ := hr
  obtain ⟨a2, c2, b2, off2, rfl, hac2, hcell2⟩ := hs
  have HC := Lib.hid hcell; clear hcell
  have HC2 := Lib.hid hcell2; clear hcell2
  go_enter Try.func21, Try.ntmps21
  go_wp2_with fail
  go_loopw [13] (fun vi wr => ∃ (i : Nat), i ≤ l.length ∧ vi = .int .i64 i ∧ ∃ n, wr = w.drewN n) (fun vi _ => l.length - (intOf vi).toNat)
  case atStart => exact ⟨0, by omega, rfl, 0, rfl⟩
  case round =>
    obtain ⟨i, hi, rfl, n, rfl⟩ := hrel
    by_cases hlt : i < l.length
    · obtain ⟨ha, hrange⟩ := HC.out i hlt
      obtain ⟨ha2, hrange2⟩ := HC2.out i hlt
      have hc := hrange 0 (.int .i64 (atD 0 l i)) rfl
      have hc2 := hrange2 0 (.int .i64 (atD 0 l i)) rfl
      simp only [Nat.mul_one, Nat.add_zero] at hc hc2
      have hix := fun w' => run_idxS Try.underlying41 Try.sizeInt (cap := c) ha hlt _ rfl w'
      have hix2 := fun w' => run_idxS Try.underlying41 Try.sizeInt (cap := c2) ha2 hlt _ rfl w'
      simp only [Nat.mul_one] at hix hix2
      have Ha := Lib.hid ha; clear ha
      have Ha2 := Lib.hid ha2; clear ha2
      clear hrange hrange2
      generalize atD 0 l i = x at hc hc2
      go_wp2_with fail
      go_quiet (fail)
      go_wp2_with fail
      go_roundw
      case rel => exact ⟨i + 1, by omega, by go_num, _, rfl⟩
      case measure => simp [intOf]; omega
    · obtain rfl : i = l.length := by omega
      go_wp2_with fail
      go_ret
      exact ⟨ret_t rfl, Go.Proofs.Ytenbafolmmemgaa.Below.drewN (Below.refl _ _) _⟩
theorem colR_len (l : List Q.Fr) : (colR l).1.length ≤ l.length := by
  unfold colR
  split
  · simp only [startsL_length]; omega
  · simp
set_option maxRecDepth 100000 in
set_option maxHeartbeats 4000000 in
theorem collects_few (v : Value) (l : List Q.Fr) (w : World) (hr : RdF w v l) (hn : l.length ≤ 120) (hwf : ∀ i, i < l.length → WfF (fr l i)) :
    Calls Try.prog 5 #[v] w (RB true w) := by
  have HP := Lib.hid (fun W (hb : Below w.heap.size w W) => col_any v l W (RdD.keep hr hb) hn hwf)
  have HQ := Lib.hid (fun W (hb : Below w.heap.size w W) => rcol_any v l W (RdD.keep hr hb) hn)
  have HL := Lib.hid (colR_len l)
  obtain ⟨a, c, rfl, hac⟩ := RdD.form hr
  clear hr hwf
  generalize colR l = R at HP HQ HL
  obtain ⟨s, n, e⟩ := R
  replace HL : Hid (s.length ≤ l.length) := HL
  go_enter Try.func5, Try.ntmps5
  go_wp2_with fail
  refine (awake_any _).mono ?_
  rintro e1 w1 ⟨rfl, hb1⟩
  go_wp2_with fail
  refine (HP.out w1 hb1).mono ?_
  rintro e2 w2 ⟨v2, rfl, hr2, hb2⟩
  have hle2 := hb1.trans (hb2.mono hb1.size)
  obtain ⟨a2, c2, rfl, _⟩ := RdD.form hr2
  have Hr2 := Lib.hid hr2
  clear hb2 hb1 hr2
  go_wp2_with fail
  refine (HQ.out w2 hle2).mono ?_
  rintro e3 w3 ⟨v3, rfl, hr3, hb3⟩
  have hle3 := hle2.trans (hb3.mono hle2.size)
  have HE := Lib.hid (iequal_any _ _ s w3 (RdD.keep Hr2.out hb3) hr3 (by have := HL.out; omega))
  obtain ⟨a3, c3, rfl, _⟩ := RdD.form hr3
  clear hb3 hle2 hr3
  go_wp2_with fail
  refine HE.out.mono ?_
  rintro e4 w4 ⟨rfl, hb4⟩
  have hle4 := hle3.trans (hb4.mono hle3.size)
  go_wp2_with fail
  go_ret
  exact ⟨ret_t rfl, hle4⟩
set_option maxRecDepth 100000 in
set_option maxHeartbeats 4000000 in
theorem collects_many (v : Value) (l : List Q.Fr) (w : World) (hr : RdF w v l) (hn : 120 < l.length) (hx : l.length ≤ 9223372036854775807) :
    Calls Try.prog 5 #[v] w (RB true w) := by
  obtain ⟨a, c, rfl, hac⟩ := RdD.form hr
  clear hr
  go_enter Try.func5, Try.ntmps5
  go_wp2_with fail
  refine (awake_any _).mono ?_
  rintro e w1 ⟨rfl, hb1⟩
  go_wp2_with fail
  go_ret
  exact ⟨ret_t rfl, hb1⟩
theorem collects_law (w : World) (v : Value) (l : List Q.Fr) (h : CameFs w v l) :
    Calls Try.prog 5 #[v] w fun e w' => e = .returned (.bool true) ∧ Below w.heap.size w w' := by
  by_cases hn : l.length ≤ 120
  · exact collects_few v l w h.1 hn h.2.2
  · exact collects_many v l w h.1 (by omega) h.2.1
end Go.Proofs.Ytenbafolmmemgaa.W10
