/- The walks of the laws on elements. -/
import Derived.Test.YtolfbakabpdhbaaGen
import Derived.Test.YtolfbakabpdhbaaOpen
namespace Go.Proofs.Ytolfbakabpdhbaa
open Go.RowKit
set_option linter.unusedVariables false

theorem invV_some (a : Nat) : ∃ c e : Int, invV a = .tuple #[.int .u8 c, .int .i64 e] := ⟨_, _, rfl⟩
theorem logV_some (a : Nat) : ∃ c e : Int, logV a = .tuple #[.int .i64 c, .int .i64 e] := ⟨_, _, rfl⟩

set_option maxRecDepth 100000 in
set_option maxHeartbeats 1000000 in
theorem elements_walk (a b : Nat) (n : Int) (w : World) (ha : a < 256) (hb : b < 256) (h1 : -9223372036854775808 ≤ n) (h2 : n ≤ 9223372036854775807) :
    Calls Try.prog 3 #[.int .u8 a, .int .u8 b, .int .i64 n] w fun e w' => e = .returned (.bool true) ∧ Below w.heap.size w w' := by
  obtain ⟨c, e, hI⟩ := invV_some a
  obtain ⟨k, g, hL⟩ := logV_some a
  have HI := Lib.hid hI; clear hI
  have HL := Lib.hid hL; clear hL
  have hx : (((a ^^^ b : Nat) : Int) == bits .xor .u8 (a : Int) (b : Int)) = true := by rw [u8_xor_nat a b ha hb]; simp
  have Hx := Lib.hid hx; clear hx
  go_enter Try.func3, Try.ntmps3
  go_wp2_with fail
  refine (awake_any _).mono ?_
  rintro e w1 ⟨rfl, hb1⟩
  go_wp2_with fail
  refine (inv_any a _ ha).mono ?_
  rintro e w2 ⟨rfl, hb2⟩
  rw [HI.out]
  go_wp2_with fail
  refine (rinv_any a _ ha).mono ?_
  rintro e w3 ⟨rfl, rfl⟩
  rw [HI.out]
  go_wp2_with fail
  refine (log_any a _ ha).mono ?_
  rintro e w3 ⟨rfl, hb3⟩
  rw [HL.out]
  go_wp2_with fail
  refine (rlog_any a _ ha).mono ?_
  rintro e w4 ⟨rfl, rfl⟩
  rw [HL.out]
  go_wp2_with fail
  refine (add_any a b _ ha hb).mono ?_
  rintro e w4 ⟨rfl, rfl⟩
  have hx := Hx.out
  go_wp2_with fail
  refine (mul_any a b _ ha hb).mono ?_
  rintro e w4 ⟨rfl, rfl⟩
  go_wp2_with fail
  refine (rmul_any a b _ ha hb).mono ?_
  rintro e w4 ⟨rfl, rfl⟩
  go_wp2_with fail
  refine (exp_any n _ h1 h2).mono ?_
  rintro e w4 ⟨rfl, rfl⟩
  go_wp2_with fail
  refine (rexp_any n _ h1 h2).mono ?_
  rintro e w4 ⟨rfl, rfl⟩
  go_wp2_with fail
  go_ret
  have hb12 := hb1.trans (hb2.mono hb1.size)
  exact ⟨rfl, hb12.trans (hb3.mono hb12.size)⟩

theorem elements_law (a : Int) (wa : (Lit.int .u8 a).wf = true) (b : Int) (wb : (Lit.int .u8 b).wf = true) (n : Int) (wn : (Lit.int .i64 n).wf = true) (w : World) :
    Calls Try.prog 3 #[.int .u8 a, .int .u8 b, .int .i64 n] w fun e w' => e = .returned (.bool true) ∧ Below w.heap.size w w' := by
  obtain ⟨a, rfl, ha⟩ := nat_u8 wa
  obtain ⟨b, rfl, hb⟩ := nat_u8 wb
  obtain ⟨h1, h2⟩ := bd_i64 wn
  exact elements_walk a b n w ha hb h1 h2

set_option maxRecDepth 100000 in
set_option maxHeartbeats 2000000 in
theorem field_walk (a b c : Nat) (w : World) (ha : a < 256) (hb : b < 256) (hc : c < 256) :
    Calls Try.prog 4 #[.int .u8 a, .int .u8 b, .int .u8 c] w fun e w' => e = .returned (.bool true) ∧ Below w.heap.size w w' := by
  have hbc := Gf.mul_lt (b := c) hb
  have hab := Gf.mul_lt (b := b) ha
  have hac := Gf.mul_lt (b := c) ha
  have hxc := Gf.xor_lt hb hc
  have Ha := Lib.hid (Gf.mul_assoc ha hb hc)
  have Hc := Lib.hid (Gf.mul_comm ha hb)
  have Hd := Lib.hid (Gf.mul_xor ha hb hc)
  have H1 := Lib.hid (Gf.mul_one ha)
  have H0 := Lib.hid (Gf.mul_zero a)
  by_cases h0 : a = 0
  · have hz : ((a : Int) == 0) = true := by rw [h0]; rfl
    have HZ := Lib.hid h0; clear h0
    go_enter Try.func4, Try.ntmps4
    go_wp2_with fail
    refine (awake_any _).mono ?_
    rintro e w1 ⟨rfl, hb1⟩
    go_wp2_with fail
    refine (mul_at _ _ (b) (c) _ rfl rfl hb hc).mono ?_
    rintro e w' ⟨rfl, rfl⟩
    go_wp2_with fail
    refine (mul_at _ _ (a) (Gf.mul b c) _ rfl rfl ha hbc).mono ?_
    rintro e w' ⟨rfl, rfl⟩
    go_wp2_with fail
    refine (mul_at _ _ (a) (b) _ rfl rfl ha hb).mono ?_
    rintro e w' ⟨rfl, rfl⟩
    go_wp2_with fail
    refine (mul_at _ _ (Gf.mul a b) (c) _ rfl rfl hab hc).mono ?_
    rintro e w' ⟨rfl, rfl⟩
    rw [← Ha.out]
    go_wp2_with fail
    refine (mul_at _ _ (a) (b) _ rfl rfl ha hb).mono ?_
    rintro e w' ⟨rfl, rfl⟩
    go_wp2_with fail
    refine (mul_at _ _ (b) (a) _ rfl rfl hb ha).mono ?_
    rintro e w' ⟨rfl, rfl⟩
    rw [← Hc.out]
    go_wp2_with fail
    refine (add_at _ _ (b) (c) _ rfl rfl hb hc).mono ?_
    rintro e w' ⟨rfl, rfl⟩
    go_wp2_with fail
    refine (mul_at _ _ (a) (b ^^^ c) _ rfl rfl ha hxc).mono ?_
    rintro e w' ⟨rfl, rfl⟩
    go_wp2_with fail
    refine (mul_at _ _ (a) (b) _ rfl rfl ha hb).mono ?_
    rintro e w' ⟨rfl, rfl⟩
    go_wp2_with fail
    refine (mul_at _ _ (a) (c) _ rfl rfl ha hc).mono ?_
    rintro e w' ⟨rfl, rfl⟩
    go_wp2_with fail
    refine (add_at _ _ (Gf.mul a b) (Gf.mul a c) _ rfl rfl hab hac).mono ?_
    rintro e w' ⟨rfl, rfl⟩
    rw [← Hd.out]
    go_wp2_with fail
    refine (mul_at _ _ (a) (1) _ rfl rfl ha (by omega)).mono ?_
    rintro e w' ⟨rfl, rfl⟩
    rw [H1.out]
    go_wp2_with fail
    refine (mul_at _ _ (a) (0) _ rfl rfl ha (by omega)).mono ?_
    rintro e w' ⟨rfl, rfl⟩
    rw [H0.out]
    go_wp2_with fail
    refine (inv_any a _ ha).mono ?_
    rintro e w2 ⟨rfl, hb2⟩
    rw [HZ.out, invV_zero]
    go_wp2_with fail
    go_ret
    exact ⟨rfl, hb1.trans (hb2.mono hb1.size)⟩
  · have hz : ((a : Int) == 0) = false := by rw [beq_eq_false_iff_ne]; omega
    have HI := Lib.hid (Gf.mul_inv ha h0)
    have HZ := Lib.hid h0; clear h0
    go_enter Try.func4, Try.ntmps4
    go_wp2_with fail
    refine (awake_any _).mono ?_
    rintro e w1 ⟨rfl, hb1⟩
    go_wp2_with fail
    refine (mul_at _ _ (b) (c) _ rfl rfl hb hc).mono ?_
    rintro e w' ⟨rfl, rfl⟩
    go_wp2_with fail
    refine (mul_at _ _ (a) (Gf.mul b c) _ rfl rfl ha hbc).mono ?_
    rintro e w' ⟨rfl, rfl⟩
    go_wp2_with fail
    refine (mul_at _ _ (a) (b) _ rfl rfl ha hb).mono ?_
    rintro e w' ⟨rfl, rfl⟩
    go_wp2_with fail
    refine (mul_at _ _ (Gf.mul a b) (c) _ rfl rfl hab hc).mono ?_
    rintro e w' ⟨rfl, rfl⟩
    rw [← Ha.out]
    go_wp2_with fail
    refine (mul_at _ _ (a) (b) _ rfl rfl ha hb).mono ?_
    rintro e w' ⟨rfl, rfl⟩
    go_wp2_with fail
    refine (mul_at _ _ (b) (a) _ rfl rfl hb ha).mono ?_
    rintro e w' ⟨rfl, rfl⟩
    rw [← Hc.out]
    go_wp2_with fail
    refine (add_at _ _ (b) (c) _ rfl rfl hb hc).mono ?_
    rintro e w' ⟨rfl, rfl⟩
    go_wp2_with fail
    refine (mul_at _ _ (a) (b ^^^ c) _ rfl rfl ha hxc).mono ?_
    rintro e w' ⟨rfl, rfl⟩
    go_wp2_with fail
    refine (mul_at _ _ (a) (b) _ rfl rfl ha hb).mono ?_
    rintro e w' ⟨rfl, rfl⟩
    go_wp2_with fail
    refine (mul_at _ _ (a) (c) _ rfl rfl ha hc).mono ?_
    rintro e w' ⟨rfl, rfl⟩
    go_wp2_with fail
    refine (add_at _ _ (Gf.mul a b) (Gf.mul a c) _ rfl rfl hab hac).mono ?_
    rintro e w' ⟨rfl, rfl⟩
    rw [← Hd.out]
    go_wp2_with fail
    refine (mul_at _ _ (a) (1) _ rfl rfl ha (by omega)).mono ?_
    rintro e w' ⟨rfl, rfl⟩
    rw [H1.out]
    go_wp2_with fail
    refine (mul_at _ _ (a) (0) _ rfl rfl ha (by omega)).mono ?_
    rintro e w' ⟨rfl, rfl⟩
    rw [H0.out]
    go_wp2_with fail
    refine (inv_any a _ ha).mono ?_
    rintro e w2 ⟨rfl, hb2⟩
    rw [invV_ne HZ.out]
    go_wp2_with fail
    refine (mul_at _ _ a (Gf.inv a) _ rfl rfl ha (Gf.inv_lt a)).mono ?_
    rintro e w3 ⟨rfl, rfl⟩
    rw [HI.out]
    go_wp2_with fail
    go_ret
    exact ⟨rfl, hb1.trans (hb2.mono hb1.size)⟩

theorem field_law (a : Int) (wa : (Lit.int .u8 a).wf = true) (b : Int) (wb : (Lit.int .u8 b).wf = true) (c : Int) (wc : (Lit.int .u8 c).wf = true) (w : World) :
    Calls Try.prog 4 #[.int .u8 a, .int .u8 b, .int .u8 c] w fun e w' => e = .returned (.bool true) ∧ Below w.heap.size w w' := by
  obtain ⟨a, rfl, ha⟩ := nat_u8 wa
  obtain ⟨b, rfl, hb⟩ := nat_u8 wb
  obtain ⟨c, rfl, hc⟩ := nat_u8 wc
  exact field_walk a b c w ha hb hc

/-- the exponents of the law on powers -/
theorem tmod_bd (m : Int) : -100000 < m.tmod 100000 ∧ m.tmod 100000 < 100000 :=
  ⟨Int.lt_tmod_of_pos m (by omega), Int.tmod_lt_of_pos m (by omega)⟩
theorem ex_add (m n : Int) : Gf.exp (ex (m + n)) = Gf.mul (Gf.exp (ex m)) (Gf.exp (ex n)) := by
  rw [← Gf.exp_add, ← Gf.exp_mod (ex m + ex n)]
  congr 1
  unfold ex
  omega
theorem ex_per (m : Int) : ex (m + 255) = ex m := by unfold ex; omega

set_option maxRecDepth 100000 in
set_option maxHeartbeats 2000000 in
theorem powers_walk (m n : Int) (a : Nat) (w : World) (ha : a < 256) :
    Calls Try.prog 5 #[.int .i64 m, .int .i64 n, .int .u8 a] w fun e w' => e = .returned (.bool true) ∧ Below w.heap.size w w' := by
  obtain ⟨hm1, hm2⟩ := tmod_bd m
  obtain ⟨hn1, hn2⟩ := tmod_bd n
  have Ha := Lib.hid (ex_add (m.tmod 100000) (n.tmod 100000))
  have Hp := Lib.hid (ex_per (m.tmod 100000))
  by_cases h0 : a = 0
  · have hz : ((a : Int) == 0) = true := by rw [h0]; rfl
    have HZ := Lib.hid h0; clear h0
    go_enter Try.func5, Try.ntmps5
    go_wp2_with fail
    refine (awake_any _).mono ?_
    rintro e w1 ⟨rfl, hb1⟩
    go_wp2_with fail
    refine (exp_at _ (m.tmod 100000 + n.tmod 100000) _ rfl (by omega) (by omega)).mono ?_
    rintro e w2 ⟨rfl, rfl⟩
    rw [Ha.out]
    go_wp2_with fail
    refine (exp_at _ (m.tmod 100000) _ rfl (by omega) (by omega)).mono ?_
    rintro e w2 ⟨rfl, rfl⟩
    go_wp2_with fail
    refine (exp_at _ (n.tmod 100000) _ rfl (by omega) (by omega)).mono ?_
    rintro e w2 ⟨rfl, rfl⟩
    go_wp2_with fail
    refine (mul_at _ _ _ _ _ rfl rfl (Gf.exp_lt (ex (m.tmod 100000))) (Gf.exp_lt (ex (n.tmod 100000)))).mono ?_
    rintro e w2 ⟨rfl, rfl⟩
    go_wp2_with fail
    refine (exp_at _ (m.tmod 100000 + 255) _ rfl (by omega) (by omega)).mono ?_
    rintro e w2 ⟨rfl, rfl⟩
    rw [Hp.out]
    go_wp2_with fail
    refine (exp_at _ (m.tmod 100000) _ rfl (by omega) (by omega)).mono ?_
    rintro e w2 ⟨rfl, rfl⟩
    go_wp2_with fail
    refine (exp_at _ 0 _ rfl (by omega) (by omega)).mono ?_
    rintro e w2 ⟨rfl, rfl⟩
    rw [show Gf.exp (ex 0) = 1 by decide +kernel]
    go_wp2_with fail
    refine (exp_at _ 1 _ rfl (by omega) (by omega)).mono ?_
    rintro e w2 ⟨rfl, rfl⟩
    rw [show Gf.exp (ex 1) = 2 by decide +kernel]
    go_wp2_with fail
    refine (log_any a _ ha).mono ?_
    rintro e w2 ⟨rfl, hb2⟩
    rw [HZ.out, logV_zero]
    go_wp2_with fail
    go_ret
    exact ⟨rfl, hb1.trans (hb2.mono hb1.size)⟩
  · obtain ⟨hl1, hl2⟩ := Gf.exp_log ha h0
    have HL := Lib.hid hl2; clear hl2
    have hz : ((a : Int) == 0) = false := by rw [beq_eq_false_iff_ne]; omega
    have HZ := Lib.hid h0; clear h0
    have He : Hid (Gf.exp (ex (Gf.log a : Nat)) = a) := Lib.hid (by rw [show ex (Gf.log a : Nat) = Gf.log a by unfold ex; omega, HL.out])
    go_enter Try.func5, Try.ntmps5
    go_wp2_with fail
    refine (awake_any _).mono ?_
    rintro e w1 ⟨rfl, hb1⟩
    go_wp2_with fail
    refine (exp_at _ (m.tmod 100000 + n.tmod 100000) _ rfl (by omega) (by omega)).mono ?_
    rintro e w2 ⟨rfl, rfl⟩
    rw [Ha.out]
    go_wp2_with fail
    refine (exp_at _ (m.tmod 100000) _ rfl (by omega) (by omega)).mono ?_
    rintro e w2 ⟨rfl, rfl⟩
    go_wp2_with fail
    refine (exp_at _ (n.tmod 100000) _ rfl (by omega) (by omega)).mono ?_
    rintro e w2 ⟨rfl, rfl⟩
    go_wp2_with fail
    refine (mul_at _ _ _ _ _ rfl rfl (Gf.exp_lt (ex (m.tmod 100000))) (Gf.exp_lt (ex (n.tmod 100000)))).mono ?_
    rintro e w2 ⟨rfl, rfl⟩
    go_wp2_with fail
    refine (exp_at _ (m.tmod 100000 + 255) _ rfl (by omega) (by omega)).mono ?_
    rintro e w2 ⟨rfl, rfl⟩
    rw [Hp.out]
    go_wp2_with fail
    refine (exp_at _ (m.tmod 100000) _ rfl (by omega) (by omega)).mono ?_
    rintro e w2 ⟨rfl, rfl⟩
    go_wp2_with fail
    refine (exp_at _ 0 _ rfl (by omega) (by omega)).mono ?_
    rintro e w2 ⟨rfl, rfl⟩
    rw [show Gf.exp (ex 0) = 1 by decide +kernel]
    go_wp2_with fail
    refine (exp_at _ 1 _ rfl (by omega) (by omega)).mono ?_
    rintro e w2 ⟨rfl, rfl⟩
    rw [show Gf.exp (ex 1) = 2 by decide +kernel]
    go_wp2_with fail
    refine (log_any a _ ha).mono ?_
    rintro e w2 ⟨rfl, hb2⟩
    rw [logV_ne HZ.out]
    go_wp2_with fail
    refine (exp_at _ (Gf.log a : Nat) _ rfl (by omega) (by omega)).mono ?_
    rintro e w3 ⟨rfl, rfl⟩
    rw [He.out]
    go_wp2_with fail
    go_ret
    exact ⟨rfl, hb1.trans (hb2.mono hb1.size)⟩

theorem powers_law (m : Int) (wm : (Lit.int .i64 m).wf = true) (n : Int) (wn : (Lit.int .i64 n).wf = true) (a : Int) (wa : (Lit.int .u8 a).wf = true) (w : World) :
    Calls Try.prog 5 #[.int .i64 m, .int .i64 n, .int .u8 a] w fun e w' => e = .returned (.bool true) ∧ Below w.heap.size w w' := by
  obtain ⟨a, rfl, ha⟩ := nat_u8 wa
  exact powers_walk m n a w ha
end Go.Proofs.Ytolfbakabpdhbaa
