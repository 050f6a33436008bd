/- Shaken out of XScal XProd XPoly -/
import Derived.Test.YtflmjdjkfognjaaGreatChecked
import Derived.Test.YtflmjdjkfognjaaGreatTp00
import Derived.Test.YtflmjdjkfognjaaGreatTp07
namespace Go.Proofs.YtflmjdjkfognjaaGreat
open Go.RowKit
set_option linter.unusedVariables false
set_option maxRecDepth 100000 in
theorem double_any (a : Nat) (w : World) (ha : a < 256) :
    Calls Tryz.prog 229 #[.int .u8 a] w fun e w' => e = .returned (.int .u8 (Gf.dbl a : Nat)) ∧ w = w' := by
  by_cases h : 128 ≤ a
  · go_enter Tryz.func229, Tryz.ntmps229
    go_wp2_with fail
    go_ret
    refine ⟨retI ((int_xor (2 * a - 256) 29 (by omega) rfl (by omega) (by omega)).trans ?_), rfl⟩
    rw [Gf.dbl, if_pos h]
  · go_enter Tryz.func229, Tryz.ntmps229
    go_wp2_with fail
    go_ret
    refine ⟨retI ?_, rfl⟩
    rw [Gf.dbl, if_neg h]
    omega
set_option maxRecDepth 100000 in
theorem mul_any (a b : Nat) (w : World) (ha : a < 256) (hb : b < 256) :
    Calls Tryz.prog 201 #[.int .u8 a, .int .u8 b] w fun e w' => e = .returned (.int .u8 (Gf.mul a b : Nat)) ∧ w = w' := by
  go_enter Tryz.func201, Tryz.ntmps201
  go_wp2_with fail
  go_loop [0, 1, 5] (fun va vb vo => ∃ k x y o : Nat, k ≤ 8 ∧ x < 256 ∧ y < 2 ^ k ∧ o < 256 ∧ va = .int .u8 x ∧ vb = .int .u8 y ∧ vo = .int .u8 o ∧ o ^^^ Gf.mulN k x y = Gf.mul a b) (fun _ vb _ => (intOf vb).toNat)
  case atStart => exact ⟨8, a, b, 0, by omega, ha, hb, by omega, rfl, rfl, rfl, by simp [Gf.mul]⟩
  case round =>
    obtain ⟨k, x, y, o, hk, hx, hy, ho, rfl, rfl, rfl, hm⟩ := hrel
    have hy8 : y < 256 := Nat.lt_of_lt_of_le hy (Nat.pow_le_pow_right (by omega) hk : 2 ^ k ≤ 2 ^ 8)
    have Hm := Lib.hid hm; clear hm
    have Hy := Lib.hid hy; clear hy
    by_cases h0 : y = 0
    · subst h0
      go_wp2_with fail
      go_ret
      refine ⟨retI ?_, rfl⟩
      rw [← Hm.out, Gf.mulN_zero_right, Nat.xor_zero]
    · obtain ⟨j, rfl⟩ : ∃ j, k = j + 1 := ⟨k - 1, by
        rcases k with _ | k
        · have := Hy.out; simp at this; omega
        · rfl⟩
      have Hj : Hid (y / 2 < 2 ^ j) := Lib.hid (by have := Hy.out; rw [Nat.pow_succ] at this; omega)
      have Ha := Lib.hid (and_one y hy8)
      have hn : ((y : Int) != 0) = true := by rw [bne_iff_ne]; omega
      by_cases h1 : y % 2 = 1
      · have hb1 : (bits .and .u8 (y : Int) 1 == 1) = true := by rw [Ha.out, h1]; rfl
        go_wp2_with (go_at_call 229; refine (double_any _ _ hx).mono ?_; rintro e w' ⟨rfl, rfl⟩)
        go_round
        case rel =>
          refine ⟨j, Gf.dbl x, y / 2, o ^^^ x, by omega, Gf.dbl_lt hx, Hj.out, Gf.xor_lt ho hx, rfl, by simp, ?_, ?_⟩
          · rw [int_xor o x rfl rfl ho hx]
          · rw [← Hm.out, Gf.mulN, if_pos h1, Nat.xor_assoc]
        case measure => simp [intOf]; omega
      · have hb1 : (bits .and .u8 (y : Int) 1 == 1) = false := by rw [Ha.out, beq_eq_false_iff_ne]; omega
        go_wp2_with (go_at_call 229; refine (double_any _ _ hx).mono ?_; rintro e w' ⟨rfl, rfl⟩)
        go_round
        case rel =>
          refine ⟨j, Gf.dbl x, y / 2, o, by omega, Gf.dbl_lt hx, Hj.out, ho, rfl, by simp, rfl, ?_⟩
          rw [← Hm.out, Gf.mulN, if_neg h1, Nat.zero_xor]
        case measure => simp [intOf]; omega
theorem mul_at (x y : Int) (a b : Nat) (w : World) (hx : x = a) (hy : y = b) (ha : a < 256) (hb : b < 256) :
    Calls Tryz.prog 201 #[.int .u8 x, .int .u8 y] w fun e w' => e = .returned (.int .u8 (Gf.mul a b : Nat)) ∧ w = w' := by
  subst hx hy; exact mul_any a b w ha hb
/-- the exponent that Exp and its reference compute with -/
def ex (n : Int) : Nat := (n % 255).toNat
theorem ex_lt (n : Int) : ex n < 255 := by unfold ex; omega
theorem tmod_b (n : Int) : -255 < n.tmod 255 ∧ n.tmod 255 < 255 :=
  ⟨Int.lt_tmod_of_pos n (by omega), Int.tmod_lt_of_pos n (by omega)⟩
theorem tmod_neg (n : Int) (h : n.tmod 255 < 0) : n.tmod 255 + 255 = ex n := by
  have h1 := Int.mul_tdiv_add_tmod n 255
  have h2 := tmod_b n
  unfold ex
  omega
theorem tmod_pos (n : Int) (h : 0 ≤ n.tmod 255) : n.tmod 255 = ex n := by
  have h1 := Int.mul_tdiv_add_tmod n 255
  have h2 := tmod_b n
  unfold ex
  omega
theorem iter_succ (n : Nat) : ∀ a, Gf.iter (n + 1) a = Gf.dbl (Gf.iter n a) := by
  induction n with
  | zero => intro a; rfl
  | succ n ih => intro a; exact ih (Gf.dbl a)
theorem exp_succ (n : Nat) : Gf.exp (n + 1) = Gf.dbl (Gf.exp n) := iter_succ n 1
set_option maxRecDepth 100000 in
theorem exp_any (n : Int) (w : World) (h1 : -9223372036854775808 ≤ n) (h2 : n ≤ 9223372036854775807) :
    Calls Tryz.prog 198 #[.int .i64 n] w fun e w' => e = .returned (.int .u8 (Gf.exp (ex n) : Nat)) ∧ w = w' := by
  obtain ⟨hb1, hb2⟩ := tmod_b n
  have He := ex_lt n
  by_cases h : n.tmod 255 < 0
  · obtain ⟨m, hm⟩ : ∃ m, m = n.tmod 255 := ⟨_, rfl⟩
    have Hn : Hid (n.tmod 255 + 255 = ex n) := Lib.hid (tmod_neg n h)
    go_enter Tryz.func198, Tryz.ntmps198
    go_wp2_with fail
    rw [Hn.out]
    go_loop [3, 11] (fun va vi => ∃ k : Nat, k ≤ ex n ∧ vi = .int .i64 k ∧ va = .int .u8 (Gf.exp k : Nat)) (fun _ vi => ex n - (intOf vi).toNat)
    case atStart => exact ⟨0, by omega, rfl, rfl⟩
    case round =>
      obtain ⟨k, hk, rfl, rfl⟩ := hrel
      have Hs := Lib.hid (exp_succ k)
      by_cases hlt : k < ex n
      · go_wp2_with (go_at_call 229; refine (double_any _ _ (Gf.exp_lt k)).mono ?_; rintro e w' ⟨rfl, rfl⟩)
        go_round
        case rel => exact ⟨k + 1, by omega, by go_num, by rw [Hs.out]⟩
        case measure => simp [intOf]; omega
      · go_wp2_with fail
        go_ret
        exact ⟨retI (by rw [show k = ex n by omega]), rfl⟩
  · have h' : 0 ≤ n.tmod 255 := by omega
    have Hn : Hid (n.tmod 255 = ex n) := Lib.hid (tmod_pos n h')
    go_enter Tryz.func198, Tryz.ntmps198
    go_wp2_with fail
    rw [Hn.out]
    go_loop [3, 11] (fun va vi => ∃ k : Nat, k ≤ ex n ∧ vi = .int .i64 k ∧ va = .int .u8 (Gf.exp k : Nat)) (fun _ vi => ex n - (intOf vi).toNat)
    case atStart => exact ⟨0, by omega, rfl, rfl⟩
    case round =>
      obtain ⟨k, hk, rfl, rfl⟩ := hrel
      have Hs := Lib.hid (exp_succ k)
      by_cases hlt : k < ex n
      · go_wp2_with (go_at_call 229; refine (double_any _ _ (Gf.exp_lt k)).mono ?_; rintro e w' ⟨rfl, rfl⟩)
        go_round
        case rel => exact ⟨k + 1, by omega, by go_num, by rw [Hs.out]⟩
        case measure => simp [intOf]; omega
      · go_wp2_with fail
        go_ret
        exact ⟨retI (by rw [show k = ex n by omega]), rfl⟩
/-- the row of powers, as far as it has been filled -/
def zrow : Array Value := Array.replicate 255 (.int .u8 0)
def pw : Nat → Array Value
  | 0 => zrow
  | k + 1 => (pw k).setIfInBounds k (.int .u8 (Gf.exp k : Nat))
theorem pw_size (k : Nat) : (pw k).size = 255 := by
  induction k with
  | zero => simp [pw, zrow]
  | succ k ih => simp [pw, ih]
theorem pw_get (k : Nat) : ∀ i, i < k → k ≤ 255 → (pw k)[i]? = some (.int .u8 (Gf.exp i : Nat)) := by
  induction k with
  | zero => intro i h; omega
  | succ k ih =>
    intro i h hk
    simp only [pw]
    by_cases e : i = k
    · subst e
      rw [Array.getElem?_setIfInBounds_self_of_lt (by rw [pw_size]; omega)]
    · rw [Array.getElem?_setIfInBounds_ne (by omega)]
      exact ih i (by omega) (by omega)
theorem pw_some (k i : Nat) (h : i < 255) : ∃ v, (pw k)[i]? = some v := by
  have : i < (pw k).size := by rw [pw_size]; exact h
  exact ⟨_, Array.getElem?_eq_getElem this⟩
theorem pw_one (k : Nat) : ∀ v ∈ (pw k), v.oneCell' = true := by
  induction k with
  | zero => intro v hv; simp [pw, zrow] at hv; subst hv; rfl
  | succ k ih =>
    intro v hv
    rcases Array.mem_or_eq_of_mem_setIfInBounds hv with h | h
    · exact ih v h
    · subst h; rfl
theorem zero_row : ∀ w, (zeroValue 335).run Tryz.prog w = .ok (.agg zrow) w := fun _ => by kernel_rfl
set_option maxRecDepth 100000 in
set_option maxHeartbeats 1000000 in
theorem powers_any (w : World) :
    Calls Tryz.prog 251 #[] w fun e w' => e = .returned (.agg (pw 255)) ∧ Below w.heap.size w w' := by
  have hz := zero_row
  go_enter Tryz.func251, Tryz.ntmps251
  go_wp2_with fail
  have h0 : ((w.alloc (.cells zrow 335)).alloc (.cells zrow 335)).heap[w.heap.size]? = some (.cells (pw 0) 335) := heap_alloc2_old _ _ _
  have h1 : ((w.alloc (.cells zrow 335)).alloc (.cells zrow 335)).heap[w.heap.size + 1]? = some (.cells (pw 0) 335) := heap_alloc2_new _ _ _
  have h2 : Below w.heap.size w ((w.alloc (.cells zrow 335)).alloc (.cells zrow 335)) := ((Below.refl _ _).alloc (Nat.le_refl _) _).alloc (by simp) _
  generalize (w.alloc (.cells zrow 335)).alloc (.cells zrow 335) = w1 at h0 h1 h2 ⊢
  clear hz
  go_loopw [2, 3, 4] (fun va vi vk wr => ∃ k : Nat, k ≤ 255 ∧ va = .int .u8 (Gf.exp k : Nat) ∧ vk = .int .i64 k ∧ wr.heap[w.heap.size]? = some (.cells zrow 335) ∧ wr.heap[w.heap.size + 1]? = some (.cells (pw k) 335) ∧ Below w.heap.size w wr) (fun _ _ vk _ => 255 - (intOf vk).toNat)
  case atStart => exact ⟨0, by omega, rfl, rfl, h0, h1, h2⟩
  case round =>
    obtain ⟨k, hk, rfl, rfl, g0, g1, g2⟩ := hrel
    clear h0 h1 h2
    have Hs := Lib.hid (exp_succ k)
    by_cases hlt : k < 255
    · obtain ⟨v, hv⟩ := pw_some k k hlt
      have hc : wr.cell? ⟨w.heap.size + 1, k, none⟩ = some v := by rw [cell_of_row wr _ k _ _ _ g1]; exact hv
      have hf := frozen_of_row wr _ k _ _ g1
      clear hv
      have G0 := Lib.hid g0; have G1 := Lib.hid g1; clear g0 g1
      go_wp2_with (go_at_call 229; refine (double_any _ _ (Gf.exp_lt k)).mono ?_; rintro e w' ⟨rfl, rfl⟩)
      go_roundw
      case rel =>
        refine ⟨k + 1, by omega, by rw [Hs.out], by go_num, ?_, ?_, g2.setCell (by simp) _⟩
        · rw [heap_setCell_other _ _ _ _ (by simp)]; exact G0.out
        · exact heap_setCell_same _ _ _ _ _ _ G1.out
      case measure => simp [intOf]; omega
    · obtain rfl : k = 255 := by omega
      have G0 := Lib.hid g0; have G1 := Lib.hid g1; clear g0 g1
      have hi : (Tryz.prog.info? 335).map (·.size) = some (pw 255).size := by rw [pw_size]; kernel_rfl
      have h1 : (pw 255).all (·.oneCell') = true := Array.all_eq_true_iff_forall_mem.2 (pw_one 255)
      go_wp2_with (first | (refine wpList_load_row rfl 335 _ rfl _ rfl 335 _ _ _ G1.out Tryz.underlying335 rfl hi ?_) | (refine wpList_store_row rfl 335 _ _ rfl w.heap.size (pw 255) rfl rfl 335 _ G0.out hi (by simp [zrow, pw_size]) h1 ?_))
      exact bodyPost_ret (v := .agg (pw 255)) (results_cell_row rfl _ _ w.heap.size 335 (pw 255) (0, 0) _ rfl (setRow_heap _ _ _ _ _ _ G0.out) Tryz.underlying335 rfl hi) rfl ⟨rfl, Below.setRow g2 (Nat.le_refl _) _⟩
/-- what Log and its reference give -/
def logV (a : Nat) : Value := .tuple #[.int .i64 ((if a = 0 then 0 else Gf.log a : Nat) : Int), .int .i64 (if a = 0 then 1 else 0)]
set_option maxRecDepth 100000 in
set_option maxHeartbeats 1000000 in
theorem log_any (a : Nat) (w : World) (ha : a < 256) :
    Calls Tryz.prog 230 #[.int .u8 a] w fun e w' => e = .returned (logV a) ∧ Below w.heap.size w w' := by
  go_enter Tryz.func230, Tryz.ntmps230
  go_wp2_with fail
  refine (powers_any _).mono ?_
  rintro e w1 ⟨rfl, hb⟩
  generalize hP : pw 255 = p255
  have HP := Lib.hid hP; clear hP
  go_wp2_with fail
  go_loop [4, 5, 7] (fun _ _ vk => ∃ k : Nat, k ≤ 255 ∧ vk = .int .i64 k ∧ Hid (∀ i, i < k → Gf.exp i ≠ a)) (fun _ _ vk => 255 - (intOf vk).toNat)
  case atStart => exact ⟨0, by omega, rfl, Lib.hid (fun i h => by omega)⟩
  case round =>
    obtain ⟨k, hk, rfl, hno⟩ := hrel
    by_cases hlt : k < 255
    · have hg : Sem.run Tryz.prog (Instr.index 335 (.agg p255) (.int .i64 k)) w1 = .ok (.int .u8 (Gf.exp k : Nat)) w1 :=
        run_index_agg w1 Tryz.underlying335 Tryz.underlying5 rfl (by kernel_rfl) p255 k hlt _ (by rw [← HP.out]; exact pw_get 255 k hlt (by omega))
      have Hl := Lib.hid (Gf.log_exp hlt)
      have Hz := Lib.hid (Gf.exp_ne_zero k)
      by_cases he : Gf.exp k = a
      · have ht : (((Gf.exp k : Nat) : Int) == (a : Int)) = true := by rw [he]; simp
        have He := Lib.hid he; clear he
        go_wp2_with fail
        go_ret2
        refine ⟨?_, hb⟩
        rw [← He.out]
        simp [logV, Hz.out, Hl.out]
      · have ht : (((Gf.exp k : Nat) : Int) == (a : Int)) = false := by rw [beq_eq_false_iff_ne]; omega
        have He := Lib.hid he; clear he
        go_wp2_with fail
        go_round
        case rel =>
          refine ⟨k + 1, by omega, by go_num, Lib.hid fun i hi => ?_⟩
          by_cases e : i = k
          · rw [e]; exact He.out
          · exact hno.out i (by omega)
        case measure => simp [intOf]; omega
    · obtain rfl : k = 255 := by omega
      have h0 : a = 0 := by
        by_cases h0 : a = 0
        · exact h0
        · obtain ⟨h1, h2⟩ := Gf.exp_log ha h0
          exact (hno.out _ h1 h2).elim
      have H0 := Lib.hid h0; clear h0
      go_wp2_with fail
      go_ret2
      refine ⟨?_, hb⟩
      rw [H0.out]; rfl
/-- what Inv and its reference give -/
def invV (a : Nat) : Value := .tuple #[.int .u8 (Gf.inv a : Nat), .int .i64 (if a = 0 then 1 else 0)]
theorem logV_zero : logV 0 = .tuple #[.int .i64 0, .int .i64 1] := rfl
theorem logV_ne {a : Nat} (h : a ≠ 0) : logV a = .tuple #[.int .i64 (Gf.log a : Nat), .int .i64 0] := by simp [logV, h]
theorem invV_ne {a : Nat} (h : a ≠ 0) : invV a = .tuple #[.int .u8 (Gf.inv a : Nat), .int .i64 0] := by simp [invV, h]
theorem exp_at (x n : Int) (w : World) (hx : x = n) (h1 : -9223372036854775808 ≤ n) (h2 : n ≤ 9223372036854775807) :
    Calls Tryz.prog 198 #[.int .i64 x] w fun e w' => e = .returned (.int .u8 (Gf.exp (ex n) : Nat)) ∧ w = w' := by
  subst hx; exact exp_any x w h1 h2
set_option maxRecDepth 100000 in
theorem inv_any (a : Nat) (w : World) (ha : a < 256) :
    Calls Tryz.prog 200 #[.int .u8 a] w fun e w' => e = .returned (invV a) ∧ Below w.heap.size w w' := by
  by_cases h0 : a = 0
  · subst h0
    go_enter Tryz.func200, Tryz.ntmps200
    go_wp2_with (go_at_call 230; refine (log_any 0 _ (by omega)).mono ?_; rintro e w1 ⟨rfl, hb⟩; rw [logV_zero])
    go_ret2
    exact ⟨rfl, hb⟩
  · obtain ⟨h1, h2⟩ := Gf.exp_log ha h0
    have H2 := Lib.hid h2; clear h2
    have H0 := Lib.hid h0; clear h0
    go_enter Tryz.func200, Tryz.ntmps200
    go_wp2_with fail
    refine (log_any a _ ha).mono ?_
    rintro e w1 ⟨rfl, hb⟩
    rw [logV_ne H0.out]
    go_wp2_with fail
    refine (exp_at _ (-(Gf.log a : Nat)) _ rfl (by omega) (by omega)).mono ?_
    rintro e w2 ⟨rfl, rfl⟩
    go_wp2_with fail
    go_ret2
    refine ⟨?_, hb⟩
    rw [invV_ne H0.out, Gf.inv, if_neg H0.out]
    have e : ex (-(Gf.log a : Nat)) = (255 - Gf.log a) % 255 := by unfold ex; omega
    rw [e]
    rfl
end Go.Proofs.YtflmjdjkfognjaaGreat
namespace Go.Proofs.YtflmjdjkfognjaaGreat
open Go.RowKit
set_option linter.unusedVariables false
theorem Tryz.infoU8 : (Tryz.prog.info? 5).map (fun i => (i.zero, i.size, i.bytes)) = some (some (.int .u8 0), 1, 1) := by kernel_rfl
theorem gmul_at (x y : Int) (a b : UInt8) (w : World) (hx : x = a.toNat) (hy : y = b.toNat) :
    Calls Tryz.prog 201 #[.int .u8 x, .int .u8 y] w fun e w' => e = .returned (B (G.mul a b)) ∧ w = w' :=
  (mul_at x y a.toNat b.toNat w hx hy (G.lt a) (G.lt b)).mono fun e w' ⟨h1, h2⟩ => ⟨by rw [h1, ← G.toNat_mul], h2⟩
set_option maxRecDepth 100000 in
set_option maxHeartbeats 1000000 in
theorem product_any (vp vq : Value) (p q : List UInt8) (w : World) (hp : Rd w vp p) (hq : Rd w vq q) :
    Calls Tryz.prog 197 #[vp, vq] w fun e w' => ∃ v, e = .returned v ∧ w'.ownsRow w.heap.size 5 1 v (G.prod p q).length (bs (G.prod p q)) ∧ Below w.heap.size w w' := by
  obtain ⟨i0, hi, hz0, hz1, hz2⟩ := info_parts Tryz.infoU8
  obtain ⟨hpl, ⟨a, cap, rfl, rfl⟩ | ⟨bp, op, cp, rfl, hp0, hpc⟩⟩ := hp.cases
  · obtain ⟨aq, cq, rfl⟩ : ∃ a c, vq = .slice a q.length c := hq.form
    go_enter Tryz.func197, Tryz.ntmps197
    go_wp2_with fail
    go_ret
    rw [G.prod_nil_left]
    exact ⟨_, rfl, World.ownsRow_nil _ _ _ _, Below.refl _ _⟩
  obtain ⟨hql, ⟨a, cap, rfl, rfl⟩ | ⟨bq, oq, cq, rfl, hq0, hqc⟩⟩ := hq.cases
  · have hlp : 0 < p.length := List.length_pos_iff.2 hp0
    have hp1 : ((p.length : Int) == 0) = false := by rw [beq_eq_false_iff_ne]; omega
    clear hpc
    go_enter Tryz.func197, Tryz.ntmps197
    go_wp2_with fail
    go_ret
    rw [G.prod_nil_right]
    exact ⟨_, rfl, World.ownsRow_nil _ _ _ _, Below.refl _ _⟩
  have hlp : 0 < p.length := List.length_pos_iff.2 hp0
  have hlq : 0 < q.length := List.length_pos_iff.2 hq0
  have hp1 : ((p.length : Int) == 0) = false := by rw [beq_eq_false_iff_ne]; omega
  have hq1 : ((q.length : Int) == 0) = false := by rw [beq_eq_false_iff_ne]; omega
  have HP := Lib.hid hpc; clear hpc
  have HQ := Lib.hid hqc; clear hqc
  obtain ⟨n, hn⟩ : ∃ n : Nat, n = p.length + q.length - 1 := ⟨_, rfl⟩
  have hnb : n ≤ 281474976702464 := by omega
  have hn1 : n + 1 ≤ p.length + q.length := by omega
  have hn2 : p.length + q.length ≤ n + 1 := by omega
  have Hn : Hid ((p.length : Int) + (q.length : Int) - 1 = n) := Lib.hid (by omega)
  have Hm := Lib.hid hn; clear hn
  have hbp : bp < w.heap.size := World.block_lt_of_cell? w _ (HP.out 0 hlp)
  have hbq : bq < w.heap.size := World.block_lt_of_cell? w _ (HQ.out 0 hlq)
  go_enter Tryz.func197, Tryz.ntmps197
  go_wp2_with (refine wpList_make_full _ rfl _ _ 123 rfl w.heap.size 5 i0 _ 1 Tryz.underlying123 hi hz0 hz1 .i64 .i64 _ _ n rfl rfl Hn.out Hn.out (by rw [hz2]; omega) (by unfold maxLen; omega) (Nat.le_refl _) ?_; intro w1 hown1 hgr1)
  have hb1 : Below w.heap.size w w1 := (Below.refl _ _).grown hgr1 (Nat.le_refl _) (by simp)
  have hown1' : w1.ownsRow w.heap.size 5 1 (.slice (some ⟨w.heap.size, 0, none⟩) n n) n (bs (G.addRows p q 0)) := by
    have e : (madeCells (Value.int .u8 0).cells (n * 1)).toList = bs (G.addRows p q 0) := by
      simp only [Value.cells, toList_madeCells_one, G.addRows, bs_replicate, ← Hm.out, Nat.mul_one]
      rfl
    rw [← e]; exact hown1
  clear hown1 hgr1
  go_loopw [27] (fun vk wr => ∃ k : Nat, k ≤ p.length ∧ vk = .int .i64 k ∧ wr.ownsRow w.heap.size 5 1 (.slice (some ⟨w.heap.size, 0, none⟩) n n) n (bs (G.addRows p q k)) ∧ Below w.heap.size w wr) (fun vk _ => p.length - (intOf vk).toNat)
  case atStart => exact ⟨0, by omega, rfl, hown1', hb1⟩
  case round =>
    clear hown1' hb1
    obtain ⟨k, hk, rfl, hown, hb⟩ := hrel
    obtain ⟨wo, rfl⟩ : ∃ wo : World, wo = wr := ⟨_, rfl⟩
    by_cases hlt : k < p.length
    · have hcp : wo.cell? ⟨bp, op + k, none⟩ = some (B (G.ix p k)) := by rw [hb.cell hbp]; exact HP.out k hlt
      go_wp2_with fail
      go_loopw [34] (fun vj wr => ∃ j : Nat, j ≤ q.length ∧ vj = .int .i64 j ∧ wr.ownsRow w.heap.size 5 1 (.slice (some ⟨w.heap.size, 0, none⟩) n n) n (bs (G.addRow k (G.ix p k) q j (G.addRows p q k))) ∧ Below w.heap.size w wr) (fun vj _ => q.length - (intOf vj).toNat)
      case atStart => exact ⟨0, by omega, rfl, hown, hb⟩
      case round =>
        clear hown hb hcp
        obtain ⟨j, hj, rfl, hown, hb⟩ := hrel
        by_cases hlj : j < q.length
        · have hcq : wr.cell? ⟨bq, oq + j, none⟩ = some (B (G.ix q j)) := by rw [hb.cell hbq]; exact HQ.out j hlj
          have hcl : (G.addRow k (G.ix p k) q j (G.addRows p q k)).length = n := by rw [G.addRow_length, G.addRows_length, Hm.out]
          have hco : wr.cell? ⟨w.heap.size, k + j, none⟩ = some (B (G.ix (G.addRow k (G.ix p k) q j (G.addRows p q k)) (k + j))) := by
            rw [hown.cellAt _ (by omega), bs_get (by omega)]
          have hfo := hown.frozenAt (k + j)
          have Hcl := Lib.hid hcl; clear hcl
          go_wp2_with fail
          have e1 : IntKind.i64.wrap ((k : Int) + (j : Int)) = (k : Int) + (j : Int) := IntWalk.i64_in _ (by omega)
          have e2 : (0 : Int) ≤ (k : Int) + (j : Int) := by omega
          have e3 : (k : Int) + (j : Int) < (n : Int) := by omega
          have e4 : ((k : Int) + (j : Int)).toNat = k + j := by omega
          go_still_tail 11, (by kernel_rfl)
          still_call (flipW (gmul_at _ _ (G.ix p k) (G.ix q j) _ rfl rfl))
          repeat still_step
          refine wpStill_nil ?_
          clear e1 e2 e3 e4
          change wpList _ _ _ _ _ wr.drew
          go_wp2_with fail
          go_roundw
          case rel =>
            refine ⟨j + 1, by omega, by go_num, ?_, (hb.drew).setCell (Nat.le_refl _) _⟩
            have h := hown.drew.stored (k + j) (B (G.ix (G.addRow k (G.ix p k) q j (G.addRows p q k)) (k + j) ^^^ G.mul (G.ix p k) (G.ix q j)))
            rw [bs_set] at h
            rw [xorB]
            exact h.1
          case measure => simp [intOf]; omega
        · go_wp2_with fail
          go_roundw
          case rel =>
            refine ⟨k + 1, by omega, by go_num, ?_, hb⟩
            obtain rfl : j = q.length := by omega
            exact hown
          case measure => simp [intOf]; omega
    · go_wp2_with fail
      go_ret
      refine ⟨_, rfl, ?_, hb⟩
      obtain rfl : k = p.length := by omega
      have e : (G.prod p q).length = n := by rw [G.prod_length p q hp0 hq0, Hm.out]
      rw [e, G.prod_eq hp0 hq0]
      exact hown
end Go.Proofs.YtflmjdjkfognjaaGreat
namespace Go.Proofs.YtflmjdjkfognjaaGreat
open Go.RowKit
set_option linter.unusedVariables false
theorem Tryz.sizeU8 : (Tryz.prog.info? 5).map (·.size) = some 1 := by kernel_rfl
/-- the closure of Eval -/
theorem evalStep_any (s c x : UInt8) (b : Nat) (w : World) (hc : w.cell? ⟨b, 0, none⟩ = some (B x)) :
    Calls Tryz.prog 253 #[B s, B c, .pointer (some ⟨b, 0, none⟩)] w fun e w' => e = .returned (B (G.mul s x ^^^ c)) ∧ w = w' := by
  go_enter Tryz.func253, Tryz.ntmps253
  go_wp2_with (go_at_call 201; refine (gmul_at _ _ s x _ rfl rfl).mono ?_; rintro e w' ⟨rfl, rfl⟩)
  go_ret
  exact ⟨retI (xorB _ _), rfl⟩
theorem evalA_snoc (x : UInt8) (p : List UInt8) (c : UInt8) : ∀ s, G.evalA x s (p ++ [c]) = G.mul (G.evalA x s p) x ^^^ c := by
  induction p with
  | nil => intro s; rfl
  | cons d p ih => intro s; exact ih _
theorem take_succ_ix (l : List UInt8) (k : Nat) (h : k < l.length) : l.take (k + 1) = l.take k ++ [G.ix l k] := by
  rw [List.take_succ_eq_append_getElem h]; simp [G.ix, h]
theorem evalA_take (x s : UInt8) (l : List UInt8) (k : Nat) (h : k < l.length) : G.evalA x s (l.take (k + 1)) = G.mul (G.evalA x s (l.take k)) x ^^^ G.ix l k := by
  rw [take_succ_ix l k h, evalA_snoc]
set_option maxRecDepth 100000 in
set_option maxHeartbeats 1000000 in
theorem fold_any (vp : Value) (p : List UInt8) (s x : UInt8) (b : Nat) (w : World) (hp : Rd w vp p) (hc : w.cell? ⟨b, 0, none⟩ = some (B x)) :
    Calls Tryz.prog 252 #[vp, B s, .func (.func 253) #[] #[.pointer (some ⟨b, 0, none⟩)]] w fun e w' => e = .returned (B (G.evalA x s p)) ∧ w = w' := by
  obtain ⟨h0, a, cap, bp, op, rfl, hcap, hcell⟩ := hp
  have HC := Lib.hid hcell; clear hcell
  go_enter Tryz.func252, Tryz.ntmps252
  go_wp2_with fail
  go_loop [1, 11] (fun vs vk => ∃ k : Nat, k ≤ p.length ∧ vk = .int .i64 k ∧ vs = B (G.evalA x s (p.take k))) (fun _ vk => p.length - (intOf vk).toNat)
  case atStart => exact ⟨0, by omega, rfl, rfl⟩
  case round =>
    obtain ⟨k, hk, rfl, rfl⟩ := hrel
    by_cases hlt : k < p.length
    · obtain ⟨ha, hcp⟩ := HC.out k hlt
      have hix := run_idx (P := Tryz.prog) Tryz.underlying123 Tryz.sizeU8 (cap := cap) ha hlt _ rfl w
      have Ha := Lib.hid ha; clear ha
      have Hs := Lib.hid (evalA_take x s p k hlt)
      go_wp2_with (go_at_call 253; refine (evalStep_any _ _ x b _ hc).mono ?_; rintro e w' ⟨rfl, rfl⟩)
      go_round
      case rel => exact ⟨k + 1, by omega, by go_num, by rw [Hs.out]⟩
      case measure => simp [intOf]; omega
    · go_wp2_with fail
      go_ret
      exact ⟨by rw [List.take_of_length_le (by omega)]; rfl, rfl⟩
theorem fold_at (vp : Value) (y : Int) (p : List UInt8) (s x : UInt8) (b : Nat) (w : World) (hp : Rd w vp p) (hc : w.cell? ⟨b, 0, none⟩ = some (B x)) (hy : y = s.toNat) :
    Calls Tryz.prog 252 #[vp, .int .u8 y, .func (.func 253) #[] #[.pointer (some ⟨b, 0, none⟩)]] w fun e w' => e = .returned (B (G.evalA x s p)) ∧ w = w' := by
  subst hy; exact fold_any vp p s x b w hp hc
set_option maxHeartbeats 1000000 in
theorem eval_any (vp : Value) (p : List UInt8) (x : UInt8) (w : World) (hp : Rd w vp p) :
    Calls Tryz.prog 232 #[vp, B x] w fun e w' => e = .returned (B (G.eval p x)) ∧ Below w.heap.size w w' := by
  go_enter Tryz.func232, Tryz.ntmps232
  go_wp2_with fail
  refine (fold_at _ _ p 0 x w.heap.size _ (hp.keep ((Below.refl _ _).alloc (Nat.le_refl _) _)) (by simp [World.cell?_alloc_at]) rfl).mono ?_
  rintro e w1 ⟨rfl, rfl⟩
  go_wp2_with fail
  go_ret
  exact ⟨rfl, (Below.refl _ _).alloc (Nat.le_refl _) _⟩
def trimL (l : List UInt8) : List UInt8 := l.dropWhile (· == 0)
theorem trim_drop (l : List UInt8) (k : Nat) (h : k < l.length) (h0 : G.ix l k = 0) : trimL (l.drop k) = trimL (l.drop (k + 1)) := by
  have e : l.drop k = G.ix l k :: l.drop (k + 1) := by rw [List.drop_eq_getElem_cons h]; simp [G.ix, h]
  rw [e, h0]; simp [trimL]
theorem trim_drop_ne (l : List UInt8) (k : Nat) (h : k < l.length) (h0 : G.ix l k ≠ 0) : trimL (l.drop k) = l.drop k := by
  have e : l.drop k = G.ix l k :: l.drop (k + 1) := by rw [List.drop_eq_getElem_cons h]; simp [G.ix, h]
  rw [e]; simp [trimL, h0]
set_option maxRecDepth 100000 in
set_option maxHeartbeats 1000000 in
theorem trim_any (vp : Value) (p : List UInt8) (w : World) (hp : Rd w vp p) :
    Calls Tryz.prog 199 #[vp] w fun e w' => ∃ v, e = .returned v ∧ Rd w v (trimL p) ∧ w = w' := by
  go_enter Tryz.func199, Tryz.ntmps199
  go_wp2_with fail
  go_loop [0] (fun vs => ∃ l : List UInt8, Rd w vs l ∧ trimL l = trimL p) (fun vs => slen vs)
  case atStart => exact ⟨p, hp, rfl⟩
  case round =>
    obtain ⟨l, hl, ht⟩ := hrel
    have Ht := Lib.hid ht; clear ht
    have hl' := hl
    obtain ⟨h0, a, cap, bp, op, rfl, hcap, hcell⟩ := hl
    have HC := Lib.hid hcell; clear hcell
    by_cases hlt : 0 < l.length
    · obtain ⟨ha, hcp⟩ := HC.out 0 hlt
      have hix := run_idx (P := Tryz.prog) Tryz.underlying123 Tryz.sizeU8 (cap := cap) ha hlt 0 rfl w
      have Ha := Lib.hid ha; clear ha
      simp only [Nat.add_zero] at hcp hix
      obtain ⟨v', hv', _, hcut, _⟩ := run_cut (P := Tryz.prog) Tryz.underlying123 Tryz.sizeU8 hl' 1 l.length hlt (Nat.le_refl _)
      have hcut := hcut rfl 1 w rfl
      rw [List.take_length] at hv'
      by_cases hz : G.ix l 0 = 0
      · have hz1 : (((G.ix l 0).toNat : Int) == 0) = true := by rw [hz]; rfl
        have Hz := Lib.hid hz; clear hz
        have Hv := Lib.hid hv'; clear hv'
        go_wp2_with fail
        go_round
        case rel =>
          have e := trim_drop l 0 hlt Hz.out
          rw [List.drop_zero] at e
          exact ⟨_, Hv.out, by rw [← Ht.out, e]⟩
        case measure =>
          obtain ⟨a', c', e'⟩ := Hv.out.form
          rw [e']
          simp [slen]
          omega
      · have hz1 : (((G.ix l 0).toNat : Int) == 0) = false := by rw [beq_eq_false_iff_ne]; intro e; exact hz (G.ext (by simpa using e))
        have Hz := Lib.hid hz; clear hz
        go_wp2_with fail
        go_ret
        refine ⟨_, rfl, ?_, rfl⟩
        have e := trim_drop_ne l 0 hlt Hz.out
        rw [List.drop_zero] at e
        rw [← Ht.out, e]
        exact hl'
    · go_wp2_with fail
      go_ret
      refine ⟨_, rfl, ?_, rfl⟩
      obtain rfl : l = [] := List.eq_nil_of_length_eq_zero (by omega)
      rw [← Ht.out]
      exact hl'
end Go.Proofs.YtflmjdjkfognjaaGreat
