/- The walks of the laws on elements. -/
import Derived.Test.YtolfbakabpdhbaaGen
import Derived.Test.YtolfbakabpdhbaaOpen
namespace Go.Proofs.Ytolfbakabpdhbaa
open Go.RowKit
set_option linter.unusedVariables false

theorem invV_some (a : Nat) : ∃ c e : Int, invV a = .tuple #[.int .u8 c, .int .i64 e] := ⟨_, _, rfl⟩
theorem logV_some (a : Nat) : ∃ c e : Int, logV a = .tuple #[.int .i64 c, .int .i64 e] := ⟨_, _, rfl⟩

set_option maxRecDepth 100000 in
set_option maxHeartbeats 1000000 in
theorem elements_walk (a b : Nat) (n : Int) (w : World) (ha : a < 256) (hb : b < 256) (h1 : -9223372036854775808 ≤ n) (h2 : n ≤ 9223372036854775807) :
    Calls Try.prog 3 #[.int .u8 a, .int .u8 b, .int .i64 n] w fun e w' => e = .returned (.bool true) ∧ Below w.heap.size w w' := by
  obtain ⟨c, e, hI⟩ := invV_some a
  obtain ⟨k, g, hL⟩ := logV_some a
  have HI := Lib.hid hI; clear hI
  have HL := Lib.hid hL; clear hL
  have hx : (((a ^^^ b : Nat) : Int) == bits .xor .u8 (a : Int) (b : Int)) = true := by rw [u8_xor_nat a b ha hb]; simp
  have Hx := Lib.hid hx; clear hx
  go_enter Try.func3, Try.ntmps3
  go_wp2_with fail
  refine (awake_any _).mono ?_
  rintro e w1 ⟨rfl, hb1⟩
  go_wp2_with fail
  refine (inv_any a _ ha).mono ?_
  rintro e w2 ⟨rfl, hb2⟩
  rw [HI.out]
  go_wp2_with fail
  refine (rinv_any a _ ha).mono ?_
  rintro e w3 ⟨rfl, rfl⟩
  rw [HI.out]
  go_wp2_with fail
  refine (log_any a _ ha).mono ?_
  rintro e w3 ⟨rfl, hb3⟩
  rw [HL.out]
  go_wp2_with fail
  refine (rlog_any a _ ha).mono ?_
  rintro e w4 ⟨rfl, rfl⟩
  rw [HL.out]
  go_wp2_with fail
  refine (add_any a b _ ha hb).mono ?_
  rintro e w4 ⟨rfl, rfl⟩
  have hx := Hx.out
  go_wp2_with fail
  refine (mul_any a b _ ha hb).mono ?_
  rintro e w4 ⟨rfl, rfl⟩
  go_wp2_with fail
  refine (rmul_any a b _ ha hb).mono ?_
  rintro e w4 ⟨rfl, rfl⟩
  go_wp2_with fail
  refine (exp_any n _ h1 h2).mono ?_
  rintro e w4 ⟨rfl, rfl⟩
  go_wp2_with fail
  refine (rexp_any n _ h1 h2).mono ?_
  rintro e w4 ⟨rfl, rfl⟩
  go_wp2_with fail
  go_ret
  have hb12 := hb1.trans (hb2.mono hb1.size)
  exact ⟨rfl, hb12.trans (hb3.mono hb12.size)⟩

theorem elements_law (a : Int) (wa : (Lit.int .u8 a).wf = true) (b : Int) (wb : (Lit.int .u8 b).wf = true) (n : Int) (wn : (Lit.int .i64 n).wf = true) (w : World) :
    Calls Try.prog 3 #[.int .u8 a, .int .u8 b, .int .i64 n] w fun e w' => e = .returned (.bool true) ∧ Below w.heap.size w w' := by
  obtain ⟨a, rfl, ha⟩ := nat_u8 wa
  obtain ⟨b, rfl, hb⟩ := nat_u8 wb
  obtain ⟨h1, h2⟩ := bd_i64 wn
  exact elements_walk a b n w ha hb h1 h2
end Go.Proofs.Ytolfbakabpdhbaa
