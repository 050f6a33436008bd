/- Walks of the scalar functions of gf256 and of its reference. -/
import Derived.Test.YtkebnmmcogkldaaChecked
import Derived.Test.YtkebnmmcogkldaaGf
import Derived.Test.YtkebnmmcogkldaaLib
namespace Go.Proofs.Ytkebnmmcogkldaa
open Go.RowKit
set_option linter.unusedVariables false


set_option maxRecDepth 100000 in
theorem double_any (a : Nat) (w : World) (ha : a < 256) :
    Calls Try.prog 100 #[.int .u8 a] w fun e w' => e = .returned (.int .u8 (Gf.dbl a : Nat)) ∧ w = w' := by
  by_cases h : 128 ≤ a
  · go_enter Try.func100, Try.ntmps100
    go_wp2_with fail
    go_ret
    refine ⟨retI ((int_xor (2 * a - 256) 29 (by omega) rfl (by omega) (by omega)).trans ?_), rfl⟩
    rw [Gf.dbl, if_pos h]
  · go_enter Try.func100, Try.ntmps100
    go_wp2_with fail
    go_ret
    refine ⟨retI ?_, rfl⟩
    rw [Gf.dbl, if_neg h]
    omega


set_option maxRecDepth 100000 in
theorem mul_any (a b : Nat) (w : World) (ha : a < 256) (hb : b < 256) :
    Calls Try.prog 72 #[.int .u8 a, .int .u8 b] w fun e w' => e = .returned (.int .u8 (Gf.mul a b : Nat)) ∧ w = w' := by
  go_enter Try.func72, Try.ntmps72
  go_wp2_with fail
  go_loop [0, 1, 5] (fun va vb vo => ∃ k x y o : Nat, k ≤ 8 ∧ x < 256 ∧ y < 2 ^ k ∧ o < 256 ∧ va = .int .u8 x ∧ vb = .int .u8 y ∧ vo = .int .u8 o ∧ o ^^^ Gf.mulN k x y = Gf.mul a b) (fun _ vb _ => (intOf vb).toNat)
  case atStart => exact ⟨8, a, b, 0, by omega, ha, hb, by omega, rfl, rfl, rfl, by simp [Gf.mul]⟩
  case round =>
    obtain ⟨k, x, y, o, hk, hx, hy, ho, rfl, rfl, rfl, hm⟩ := hrel
    have hy8 : y < 256 := Nat.lt_of_lt_of_le hy (Nat.pow_le_pow_right (by omega) hk : 2 ^ k ≤ 2 ^ 8)
    have Hm := Lib.hid hm; clear hm
    have Hy := Lib.hid hy; clear hy
    by_cases h0 : y = 0
    · subst h0
      go_wp2_with fail
      go_ret
      refine ⟨retI ?_, rfl⟩
      rw [← Hm.out, Gf.mulN_zero_right, Nat.xor_zero]
    · obtain ⟨j, rfl⟩ : ∃ j, k = j + 1 := ⟨k - 1, by
        rcases k with _ | k
        · have := Hy.out; simp at this; omega
        · rfl⟩
      have Hj : Hid (y / 2 < 2 ^ j) := Lib.hid (by have := Hy.out; rw [Nat.pow_succ] at this; omega)
      have Ha := Lib.hid (and_one y hy8)
      have hn : ((y : Int) != 0) = true := by rw [bne_iff_ne]; omega
      by_cases h1 : y % 2 = 1
      · have hb1 : (bits .and .u8 (y : Int) 1 == 1) = true := by rw [Ha.out, h1]; rfl
        go_wp2_with (go_at_call 100; refine (double_any _ _ hx).mono ?_; rintro e w' ⟨rfl, rfl⟩)
        go_round
        case rel =>
          refine ⟨j, Gf.dbl x, y / 2, o ^^^ x, by omega, Gf.dbl_lt hx, Hj.out, Gf.xor_lt ho hx, rfl, by simp, ?_, ?_⟩
          · rw [int_xor o x rfl rfl ho hx]
          · rw [← Hm.out, Gf.mulN, if_pos h1, Nat.xor_assoc]
        case measure => simp [intOf]; omega
      · have hb1 : (bits .and .u8 (y : Int) 1 == 1) = false := by rw [Ha.out, beq_eq_false_iff_ne]; omega
        go_wp2_with (go_at_call 100; refine (double_any _ _ hx).mono ?_; rintro e w' ⟨rfl, rfl⟩)
        go_round
        case rel =>
          refine ⟨j, Gf.dbl x, y / 2, o, by omega, Gf.dbl_lt hx, Hj.out, ho, rfl, by simp, rfl, ?_⟩
          rw [← Hm.out, Gf.mulN, if_neg h1, Nat.zero_xor]
        case measure => simp [intOf]; omega

theorem rdbl_eq (a : Nat) (h : a < 256) : (if 255 < 2 * a then 2 * a ^^^ 285 else 2 * a) = Gf.dbl a := by
  have h' : Gf.allB 256 (fun a => (if 255 < 2 * a then 2 * a ^^^ 285 else 2 * a) == Gf.dbl a) = true := by decide +kernel
  exact beq_iff_eq.1 (Gf.allB_spec h' a h)


set_option maxRecDepth 100000 in
theorem rmul_any (a b : Nat) (w : World) (ha : a < 256) (hb : b < 256) :
    Calls Try.prog 90 #[.int .u8 a, .int .u8 b] w fun e w' => e = .returned (.int .u8 (Gf.mul a b : Nat)) ∧ w = w' := by
  go_enter Try.func90, Try.ntmps90
  go_wp2_with fail
  go_loop [5, 6, 7] (fun va vb vo => ∃ k x y o : Nat, k ≤ 8 ∧ x < 256 ∧ y < 2 ^ k ∧ o < 256 ∧ va = .int .i64 x ∧ vb = .int .i64 y ∧ vo = .int .i64 o ∧ o ^^^ Gf.mulN k x y = Gf.mul a b) (fun _ vb _ => (intOf vb).toNat)
  case atStart => exact ⟨8, a, b, 0, by omega, ha, hb, by omega, rfl, rfl, rfl, by simp [Gf.mul]⟩
  case round =>
    obtain ⟨k, x, y, o, hk, hx, hy, ho, rfl, rfl, rfl, hm⟩ := hrel
    have hy8 : y < 256 := Nat.lt_of_lt_of_le hy (Nat.pow_le_pow_right (by omega) hk : 2 ^ k ≤ 2 ^ 8)
    have Hm := Lib.hid hm; clear hm
    have Hy := Lib.hid hy; clear hy
    by_cases h0 : y = 0
    · subst h0
      go_wp2_with fail
      go_ret
      refine ⟨retI ?_, rfl⟩
      rw [← Hm.out, Gf.mulN_zero_right, Nat.xor_zero]
    · obtain ⟨j, rfl⟩ : ∃ j, k = j + 1 := ⟨k - 1, by
        rcases k with _ | k
        · have := Hy.out; simp at this; omega
        · rfl⟩
      have Hj : Hid (y / 2 < 2 ^ j) := Lib.hid (by have := Hy.out; rw [Nat.pow_succ] at this; omega)
      have hn : (0 : Int) < y := by omega
      have Hx := Lib.hid (i64_xor o x (by omega) (by omega))
      have Hd := Lib.hid (rdbl_eq x hx)
      have Hz := Lib.hid (fun h : 2 * x < 512 => i64_xor (2 * x) 285 h (by omega))
      by_cases h1 : y % 2 = 1
      · by_cases h2 : 255 < 2 * (x : Int)
        · go_wp2_with fail
          go_round
          case rel =>
            refine ⟨j, Gf.dbl x, y / 2, o ^^^ x, by omega, Gf.dbl_lt hx, Hj.out, Gf.xor_lt ho hx, ?_, by simp, by rw [Hx.out], by rw [← Hm.out, Gf.mulN, if_pos h1, Nat.xor_assoc]⟩
            rw [← Hd.out, if_pos (by omega), ← Hz.out (by omega)]; simp
          case measure => simp [intOf]; omega
        · go_wp2_with fail
          go_round
          case rel =>
            refine ⟨j, Gf.dbl x, y / 2, o ^^^ x, by omega, Gf.dbl_lt hx, Hj.out, Gf.xor_lt ho hx, ?_, by simp, by rw [Hx.out], by rw [← Hm.out, Gf.mulN, if_pos h1, Nat.xor_assoc]⟩
            rw [← Hd.out, if_neg (by omega)]; simp
          case measure => simp [intOf]; omega
      · by_cases h2 : 255 < 2 * (x : Int)
        · go_wp2_with fail
          go_round
          case rel =>
            refine ⟨j, Gf.dbl x, y / 2, o, by omega, Gf.dbl_lt hx, Hj.out, ho, ?_, by simp, rfl, by rw [← Hm.out, Gf.mulN, if_neg h1, Nat.zero_xor]⟩
            rw [← Hd.out, if_pos (by omega), ← Hz.out (by omega)]; simp
          case measure => simp [intOf]; omega
        · go_wp2_with fail
          go_round
          case rel =>
            refine ⟨j, Gf.dbl x, y / 2, o, by omega, Gf.dbl_lt hx, Hj.out, ho, ?_, by simp, rfl, by rw [← Hm.out, Gf.mulN, if_neg h1, Nat.zero_xor]⟩
            rw [← Hd.out, if_neg (by omega)]; simp
          case measure => simp [intOf]; omega

theorem rmul_at (x y : Int) (a b : Nat) (w : World) (hx : x = a) (hy : y = b) (ha : a < 256) (hb : b < 256) :
    Calls Try.prog 90 #[.int .u8 x, .int .u8 y] w fun e w' => e = .returned (.int .u8 (Gf.mul a b : Nat)) ∧ w = w' := by
  subst hx hy; exact rmul_any a b w ha hb
theorem mul_at (x y : Int) (a b : Nat) (w : World) (hx : x = a) (hy : y = b) (ha : a < 256) (hb : b < 256) :
    Calls Try.prog 72 #[.int .u8 x, .int .u8 y] w fun e w' => e = .returned (.int .u8 (Gf.mul a b : Nat)) ∧ w = w' := by
  subst hx hy; exact mul_any a b w ha hb

/-- the reference's power: 'f' rounds -/
def powF : Nat → Nat → Nat → Nat → Nat
  | 0, out, _, _ => out
  | f + 1, out, a, n => if n = 0 then out else powF f (if n % 2 = 1 then Gf.mul out a else out) (Gf.mul a a) (n / 2)

theorem powF_exp (f : Nat) : ∀ (o k n : Nat), n < 2 ^ f → powF f (Gf.exp o) (Gf.exp k) n = Gf.exp (o + k * n) := by
  induction f with
  | zero => intro o k n h; simp at h; subst h; simp [powF]
  | succ f ih =>
    intro o k n h
    simp only [powF]
    split
    · rename_i h0; subst h0; simp
    · rw [Nat.pow_succ] at h
      rw [← Gf.exp_add k k]
      split
      · rename_i h1
        rw [← Gf.exp_add, ih _ _ _ (by omega)]
        congr 1
        have : n = 2 * (n / 2) + 1 := by omega
        conv => rhs; rw [this]
        rw [Nat.mul_add, Nat.mul_one, ← Nat.mul_assoc, Nat.mul_two]
        omega
      · rw [ih _ _ _ (by omega)]
        congr 1
        have : n = 2 * (n / 2) := by omega
        conv => rhs; rw [this]
        rw [← Nat.mul_assoc, Nat.mul_two]

set_option maxRecDepth 100000 in
theorem pow_any (a n : Nat) (w : World) (ha : a < 256) (hn : n < 256) :
    Calls Try.prog 105 #[.int .u8 a, .int .i64 n] w fun e w' => e = .returned (.int .u8 (powF 8 1 a n : Nat)) ∧ w = w' := by
  go_enter Try.func105, Try.ntmps105
  go_wp2_with fail
  go_loop [0, 1, 5] (fun va vb vo => ∃ k x y o : Nat, k ≤ 8 ∧ x < 256 ∧ y < 2 ^ k ∧ o < 256 ∧ va = .int .u8 x ∧ vb = .int .i64 y ∧ vo = .int .u8 o ∧ powF k o x y = powF 8 1 a n) (fun _ vb _ => (intOf vb).toNat)
  case atStart => exact ⟨8, a, n, 1, by omega, ha, hn, by omega, rfl, rfl, rfl, rfl⟩
  case round =>
    obtain ⟨k, x, y, o, hk, hx, hy, ho, rfl, rfl, rfl, hm⟩ := hrel
    have hy8 : y < 256 := Nat.lt_of_lt_of_le hy (Nat.pow_le_pow_right (by omega) hk : 2 ^ k ≤ 2 ^ 8)
    have Hm := Lib.hid hm; clear hm
    have Hy := Lib.hid hy; clear hy
    by_cases h0 : y = 0
    · subst h0
      go_wp2_with fail
      go_ret
      refine ⟨retI ?_, rfl⟩
      rw [← Hm.out]
      cases k <;> simp [powF]
    · obtain ⟨j, rfl⟩ : ∃ j, k = j + 1 := ⟨k - 1, by
        rcases k with _ | k
        · have := Hy.out; simp at this; omega
        · rfl⟩
      have Hj : Hid (y / 2 < 2 ^ j) := Lib.hid (by have := Hy.out; rw [Nat.pow_succ] at this; omega)
      have hn : (0 : Int) < y := by omega
      by_cases h1 : y % 2 = 1
      · have hb1 : ((y : Int) % 2 == 1) = true := by rw [beq_iff_eq]; omega
        go_wp2_with fail
        refine (rmul_any o x _ ho hx).mono ?_
        rintro e w' ⟨rfl, rfl⟩
        go_wp2_with fail
        refine (rmul_any x x _ hx hx).mono ?_
        rintro e w' ⟨rfl, rfl⟩
        go_wp2_with fail
        go_round
        case rel => exact ⟨j, Gf.mul x x, y / 2, Gf.mul o x, by omega, Gf.mul_lt hx, Hj.out, Gf.mul_lt ho, rfl, by simp, rfl, by rw [← Hm.out, powF, if_neg h0, if_pos h1]⟩
        case measure => simp [intOf]; omega
      · have hb1 : ((y : Int) % 2 == 1) = false := by rw [beq_eq_false_iff_ne]; omega
        go_wp2_with fail
        refine (rmul_any x x _ hx hx).mono ?_
        rintro e w' ⟨rfl, rfl⟩
        go_wp2_with fail
        go_round
        case rel => exact ⟨j, Gf.mul x x, y / 2, o, by omega, Gf.mul_lt hx, Hj.out, ho, rfl, by simp, rfl, by rw [← Hm.out, powF, if_neg h0, if_neg h1]⟩
        case measure => simp [intOf]; omega

/-- the exponent that Exp and its reference compute with -/
def ex (n : Int) : Nat := (n % 255).toNat
theorem ex_lt (n : Int) : ex n < 255 := by unfold ex; omega
theorem tmod_b (n : Int) : -255 < n.tmod 255 ∧ n.tmod 255 < 255 :=
  ⟨Int.lt_tmod_of_pos n (by omega), Int.tmod_lt_of_pos n (by omega)⟩
theorem tmod_neg (n : Int) (h : n.tmod 255 < 0) : n.tmod 255 + 255 = ex n := by
  have h1 := Int.mul_tdiv_add_tmod n 255
  have h2 := tmod_b n
  unfold ex
  omega
theorem tmod_pos (n : Int) (h : 0 ≤ n.tmod 255) : n.tmod 255 = ex n := by
  have h1 := Int.mul_tdiv_add_tmod n 255
  have h2 := tmod_b n
  unfold ex
  omega
theorem tmod_both (n : Int) : n.tmod 255 % 255 = ex n := by
  have h1 := Int.mul_tdiv_add_tmod n 255
  have h2 := tmod_b n
  unfold ex
  omega

theorem pow_exp (n : Nat) (h : n < 256) : powF 8 1 2 n = Gf.exp n := by
  have := powF_exp 8 0 1 n (by omega)
  rwa [Nat.zero_add, Nat.one_mul] at this

theorem pow_at (x y : Int) (a n : Nat) (w : World) (hx : x = a) (hy : y = n) (ha : a < 256) (hn : n < 256) :
    Calls Try.prog 105 #[.int .u8 x, .int .i64 y] w fun e w' => e = .returned (.int .u8 (powF 8 1 a n : Nat)) ∧ w = w' := by
  subst hx hy; exact pow_any a n w ha hn

theorem rexp_any (n : Int) (w : World) (h1 : -9223372036854775808 ≤ n) (h2 : n ≤ 9223372036854775807) :
    Calls Try.prog 87 #[.int .i64 n] w fun e w' => e = .returned (.int .u8 (Gf.exp (ex n) : Nat)) ∧ w = w' := by
  obtain ⟨hb1, hb2⟩ := tmod_b n
  have Hb := Lib.hid (tmod_both n)
  have He := ex_lt n
  go_enter Try.func87, Try.ntmps87
  go_wp2_with fail
  refine (pow_at _ _ 2 (ex n) _ rfl Hb.out (by omega) (by omega)).mono ?_
  rintro e w' ⟨rfl, rfl⟩
  go_wp2_with fail
  go_ret
  exact ⟨retI (by rw [pow_exp _ (by omega)]), rfl⟩

theorem iter_succ (n : Nat) : ∀ a, Gf.iter (n + 1) a = Gf.dbl (Gf.iter n a) := by
  induction n with
  | zero => intro a; rfl
  | succ n ih => intro a; exact ih (Gf.dbl a)
theorem exp_succ (n : Nat) : Gf.exp (n + 1) = Gf.dbl (Gf.exp n) := iter_succ n 1

set_option maxRecDepth 100000 in
theorem exp_any (n : Int) (w : World) (h1 : -9223372036854775808 ≤ n) (h2 : n ≤ 9223372036854775807) :
    Calls Try.prog 83 #[.int .i64 n] w fun e w' => e = .returned (.int .u8 (Gf.exp (ex n) : Nat)) ∧ w = w' := by
  obtain ⟨hb1, hb2⟩ := tmod_b n
  have He := ex_lt n
  by_cases h : n.tmod 255 < 0
  · obtain ⟨m, hm⟩ : ∃ m, m = n.tmod 255 := ⟨_, rfl⟩
    have Hn : Hid (n.tmod 255 + 255 = ex n) := Lib.hid (tmod_neg n h)
    go_enter Try.func83, Try.ntmps83
    go_wp2_with fail
    rw [Hn.out]
    go_loop [3, 11] (fun va vi => ∃ k : Nat, k ≤ ex n ∧ vi = .int .i64 k ∧ va = .int .u8 (Gf.exp k : Nat)) (fun _ vi => ex n - (intOf vi).toNat)
    case atStart => exact ⟨0, by omega, rfl, rfl⟩
    case round =>
      obtain ⟨k, hk, rfl, rfl⟩ := hrel
      have Hs := Lib.hid (exp_succ k)
      by_cases hlt : k < ex n
      · go_wp2_with (go_at_call 100; refine (double_any _ _ (Gf.exp_lt k)).mono ?_; rintro e w' ⟨rfl, rfl⟩)
        go_round
        case rel => exact ⟨k + 1, by omega, by go_num, by rw [Hs.out]⟩
        case measure => simp [intOf]; omega
      · go_wp2_with fail
        go_ret
        exact ⟨retI (by rw [show k = ex n by omega]), rfl⟩
  · have h' : 0 ≤ n.tmod 255 := by omega
    have Hn : Hid (n.tmod 255 = ex n) := Lib.hid (tmod_pos n h')
    go_enter Try.func83, Try.ntmps83
    go_wp2_with fail
    rw [Hn.out]
    go_loop [3, 11] (fun va vi => ∃ k : Nat, k ≤ ex n ∧ vi = .int .i64 k ∧ va = .int .u8 (Gf.exp k : Nat)) (fun _ vi => ex n - (intOf vi).toNat)
    case atStart => exact ⟨0, by omega, rfl, rfl⟩
    case round =>
      obtain ⟨k, hk, rfl, rfl⟩ := hrel
      have Hs := Lib.hid (exp_succ k)
      by_cases hlt : k < ex n
      · go_wp2_with (go_at_call 100; refine (double_any _ _ (Gf.exp_lt k)).mono ?_; rintro e w' ⟨rfl, rfl⟩)
        go_round
        case rel => exact ⟨k + 1, by omega, by go_num, by rw [Hs.out]⟩
        case measure => simp [intOf]; omega
      · go_wp2_with fail
        go_ret
        exact ⟨retI (by rw [show k = ex n by omega]), rfl⟩


/-- the row of powers, as far as it has been filled -/
def zrow : Array Value := Array.replicate 255 (.int .u8 0)
def pw : Nat → Array Value
  | 0 => zrow
  | k + 1 => (pw k).setIfInBounds k (.int .u8 (Gf.exp k : Nat))
theorem pw_size (k : Nat) : (pw k).size = 255 := by
  induction k with
  | zero => simp [pw, zrow]
  | succ k ih => simp [pw, ih]
theorem pw_get (k : Nat) : ∀ i, i < k → k ≤ 255 → (pw k)[i]? = some (.int .u8 (Gf.exp i : Nat)) := by
  induction k with
  | zero => intro i h; omega
  | succ k ih =>
    intro i h hk
    simp only [pw]
    by_cases e : i = k
    · subst e
      rw [Array.getElem?_setIfInBounds_self_of_lt (by rw [pw_size]; omega)]
    · rw [Array.getElem?_setIfInBounds_ne (by omega)]
      exact ih i (by omega) (by omega)
theorem pw_some (k i : Nat) (h : i < 255) : ∃ v, (pw k)[i]? = some v := by
  have : i < (pw k).size := by rw [pw_size]; exact h
  exact ⟨_, Array.getElem?_eq_getElem this⟩
theorem pw_one (k : Nat) : ∀ v ∈ (pw k), v.oneCell' = true := by
  induction k with
  | zero => intro v hv; simp [pw, zrow] at hv; subst hv; rfl
  | succ k ih =>
    intro v hv
    rcases Array.mem_or_eq_of_mem_setIfInBounds hv with h | h
    · exact ih v h
    · subst h; rfl

theorem zero_row : ∀ w, (zeroValue 148).run Try.prog w = .ok (.agg zrow) w := fun _ => by kernel_rfl

set_option maxRecDepth 100000 in
set_option maxHeartbeats 1000000 in
theorem powers_any (w : World) :
    Calls Try.prog 111 #[] w fun e w' => e = .returned (.agg (pw 255)) ∧ Below w.heap.size w w' := by
  have hz := zero_row
  go_enter Try.func111, Try.ntmps111
  go_wp2_with fail
  have h0 : ((w.alloc (.cells zrow 148)).alloc (.cells zrow 148)).heap[w.heap.size]? = some (.cells (pw 0) 148) := heap_alloc2_old _ _ _
  have h1 : ((w.alloc (.cells zrow 148)).alloc (.cells zrow 148)).heap[w.heap.size + 1]? = some (.cells (pw 0) 148) := heap_alloc2_new _ _ _
  have h2 : Below w.heap.size w ((w.alloc (.cells zrow 148)).alloc (.cells zrow 148)) := ((Below.refl _ _).alloc (Nat.le_refl _) _).alloc (by simp) _
  generalize (w.alloc (.cells zrow 148)).alloc (.cells zrow 148) = w1 at h0 h1 h2 ⊢
  clear hz
  go_loopw [2, 3, 4] (fun va vi vk wr => ∃ k : Nat, k ≤ 255 ∧ va = .int .u8 (Gf.exp k : Nat) ∧ vk = .int .i64 k ∧ wr.heap[w.heap.size]? = some (.cells zrow 148) ∧ wr.heap[w.heap.size + 1]? = some (.cells (pw k) 148) ∧ Below w.heap.size w wr) (fun _ _ vk _ => 255 - (intOf vk).toNat)
  case atStart => exact ⟨0, by omega, rfl, rfl, h0, h1, h2⟩
  case round =>
    obtain ⟨k, hk, rfl, rfl, g0, g1, g2⟩ := hrel
    clear h0 h1 h2
    have Hs := Lib.hid (exp_succ k)
    by_cases hlt : k < 255
    · obtain ⟨v, hv⟩ := pw_some k k hlt
      have hc : wr.cell? ⟨w.heap.size + 1, k, none⟩ = some v := by rw [cell_of_row wr _ k _ _ _ g1]; exact hv
      have hf := frozen_of_row wr _ k _ _ g1
      clear hv
      have G0 := Lib.hid g0; have G1 := Lib.hid g1; clear g0 g1
      go_wp2_with (go_at_call 100; refine (double_any _ _ (Gf.exp_lt k)).mono ?_; rintro e w' ⟨rfl, rfl⟩)
      go_roundw
      case rel =>
        refine ⟨k + 1, by omega, by rw [Hs.out], by go_num, ?_, ?_, g2.setCell (by simp) _⟩
        · rw [heap_setCell_other _ _ _ _ (by simp)]; exact G0.out
        · exact heap_setCell_same _ _ _ _ _ _ G1.out
      case measure => simp [intOf]; omega
    · obtain rfl : k = 255 := by omega
      have G0 := Lib.hid g0; have G1 := Lib.hid g1; clear g0 g1
      have hi : (Try.prog.info? 148).map (·.size) = some (pw 255).size := by rw [pw_size]; kernel_rfl
      have h1 : (pw 255).all (·.oneCell') = true := Array.all_eq_true_iff_forall_mem.2 (pw_one 255)
      go_wp2_with (first | (refine wpList_load_row rfl 148 _ rfl _ rfl 148 _ _ _ G1.out Try.underlying148 rfl hi ?_) | (refine wpList_store_row rfl 148 _ _ rfl w.heap.size (pw 255) rfl rfl 148 _ G0.out hi (by simp [zrow, pw_size]) h1 ?_))
      exact bodyPost_ret (v := .agg (pw 255)) (results_cell_row rfl _ _ w.heap.size 148 (pw 255) (0, 0) _ rfl (setRow_heap _ _ _ _ _ _ G0.out) Try.underlying148 rfl hi) rfl ⟨rfl, Below.setRow g2 (Nat.le_refl _) _⟩

theorem retP {a b : Value} (h : a = b) : Ending.returned a = .returned b := by rw [h]

/-- what Log and its reference give -/
def logV (a : Nat) : Value := .tuple #[.int .i64 ((if a = 0 then 0 else Gf.log a : Nat) : Int), .int .i64 (if a = 0 then 1 else 0)]

set_option maxRecDepth 100000 in
set_option maxHeartbeats 1000000 in
theorem log_any (a : Nat) (w : World) (ha : a < 256) :
    Calls Try.prog 104 #[.int .u8 a] w fun e w' => e = .returned (logV a) ∧ Below w.heap.size w w' := by
  go_enter Try.func104, Try.ntmps104
  go_wp2_with fail
  refine (powers_any _).mono ?_
  rintro e w1 ⟨rfl, hb⟩
  generalize hP : pw 255 = p255
  have HP := Lib.hid hP; clear hP
  go_wp2_with fail
  go_loop [4, 5, 7] (fun _ _ vk => ∃ k : Nat, k ≤ 255 ∧ vk = .int .i64 k ∧ Hid (∀ i, i < k → Gf.exp i ≠ a)) (fun _ _ vk => 255 - (intOf vk).toNat)
  case atStart => exact ⟨0, by omega, rfl, Lib.hid (fun i h => by omega)⟩
  case round =>
    obtain ⟨k, hk, rfl, hno⟩ := hrel
    by_cases hlt : k < 255
    · have hg : Sem.run Try.prog (Instr.index 148 (.agg p255) (.int .i64 k)) w1 = .ok (.int .u8 (Gf.exp k : Nat)) w1 :=
        run_index_agg w1 Try.underlying148 Try.underlying5 rfl (by kernel_rfl) p255 k hlt _ (by rw [← HP.out]; exact pw_get 255 k hlt (by omega))
      have Hl := Lib.hid (Gf.log_exp hlt)
      have Hz := Lib.hid (Gf.exp_ne_zero k)
      by_cases he : Gf.exp k = a
      · have ht : (((Gf.exp k : Nat) : Int) == (a : Int)) = true := by rw [he]; simp
        have He := Lib.hid he; clear he
        go_wp2_with fail
        go_ret2
        refine ⟨?_, hb⟩
        rw [← He.out]
        simp [logV, Hz.out, Hl.out]
      · have ht : (((Gf.exp k : Nat) : Int) == (a : Int)) = false := by rw [beq_eq_false_iff_ne]; omega
        have He := Lib.hid he; clear he
        go_wp2_with fail
        go_round
        case rel =>
          refine ⟨k + 1, by omega, by go_num, Lib.hid fun i hi => ?_⟩
          by_cases e : i = k
          · rw [e]; exact He.out
          · exact hno.out i (by omega)
        case measure => simp [intOf]; omega
    · obtain rfl : k = 255 := by omega
      have h0 : a = 0 := by
        by_cases h0 : a = 0
        · exact h0
        · obtain ⟨h1, h2⟩ := Gf.exp_log ha h0
          exact (hno.out _ h1 h2).elim
      have H0 := Lib.hid h0; clear h0
      go_wp2_with fail
      go_ret2
      refine ⟨?_, hb⟩
      rw [H0.out]; rfl

/-- what Inv and its reference give -/
def invV (a : Nat) : Value := .tuple #[.int .u8 (Gf.inv a : Nat), .int .i64 (if a = 0 then 1 else 0)]

set_option maxRecDepth 100000 in
theorem rinv_any (a : Nat) (w : World) (ha : a < 256) :
    Calls Try.prog 89 #[.int .u8 a] w fun e w' => e = .returned (invV a) ∧ w = w' := by
  by_cases h0 : a = 0
  · subst h0
    go_enter Try.func89, Try.ntmps89
    go_wp2_with fail
    go_ret2
    exact ⟨rfl, rfl⟩
  · have hd : ((a : Int) == 0) = false := by rw [beq_eq_false_iff_ne]; omega
    have H0 := Lib.hid h0; clear h0
    go_enter Try.func89, Try.ntmps89
    go_wp2_with (go_at_call 105; refine (pow_at _ _ a 254 _ rfl rfl ha (by omega)).mono ?_; rintro e w' ⟨rfl, rfl⟩)
    go_ret2
    refine ⟨?_, rfl⟩
    obtain ⟨h1, h2⟩ := Gf.exp_log ha H0.out
    have h3 := powF_exp 8 0 (Gf.log a) 254 (by omega)
    rw [h2, Nat.zero_add] at h3
    have h4 : powF 8 1 a 254 = Gf.inv a := by
      show powF 8 (Gf.exp 0) a 254 = _
      rw [h3, Gf.inv, if_neg H0.out, Gf.exp_mod, ← Gf.exp_add_mul (255 - Gf.log a) (Gf.log a), show 255 - Gf.log a + 255 * Gf.log a = Gf.log a * 254 + 255 by omega, Gf.exp_add_255]
    simp [invV, H0.out, h4]

theorem logV_zero : logV 0 = .tuple #[.int .i64 0, .int .i64 1] := rfl
theorem logV_ne {a : Nat} (h : a ≠ 0) : logV a = .tuple #[.int .i64 (Gf.log a : Nat), .int .i64 0] := by simp [logV, h]
theorem invV_zero : invV 0 = .tuple #[.int .u8 0, .int .i64 1] := rfl
theorem invV_ne {a : Nat} (h : a ≠ 0) : invV a = .tuple #[.int .u8 (Gf.inv a : Nat), .int .i64 0] := by simp [invV, h]
theorem exp_at (x n : Int) (w : World) (hx : x = n) (h1 : -9223372036854775808 ≤ n) (h2 : n ≤ 9223372036854775807) :
    Calls Try.prog 83 #[.int .i64 x] w fun e w' => e = .returned (.int .u8 (Gf.exp (ex n) : Nat)) ∧ w = w' := by
  subst hx; exact exp_any x w h1 h2

set_option maxRecDepth 100000 in
theorem inv_any (a : Nat) (w : World) (ha : a < 256) :
    Calls Try.prog 85 #[.int .u8 a] w fun e w' => e = .returned (invV a) ∧ Below w.heap.size w w' := by
  by_cases h0 : a = 0
  · subst h0
    go_enter Try.func85, Try.ntmps85
    go_wp2_with (go_at_call 104; refine (log_any 0 _ (by omega)).mono ?_; rintro e w1 ⟨rfl, hb⟩; rw [logV_zero])
    go_ret2
    exact ⟨rfl, hb⟩
  · obtain ⟨h1, h2⟩ := Gf.exp_log ha h0
    have H2 := Lib.hid h2; clear h2
    have H0 := Lib.hid h0; clear h0
    go_enter Try.func85, Try.ntmps85
    go_wp2_with fail
    refine (log_any a _ ha).mono ?_
    rintro e w1 ⟨rfl, hb⟩
    rw [logV_ne H0.out]
    go_wp2_with fail
    refine (exp_at _ (-(Gf.log a : Nat)) _ rfl (by omega) (by omega)).mono ?_
    rintro e w2 ⟨rfl, rfl⟩
    go_wp2_with fail
    go_ret2
    refine ⟨?_, hb⟩
    rw [invV_ne H0.out, Gf.inv, if_neg H0.out]
    have e : ex (-(Gf.log a : Nat)) = (255 - Gf.log a) % 255 := by unfold ex; omega
    rw [e]
    rfl
end Go.Proofs.Ytkebnmmcogkldaa
