/- Chapter 8: PWord and QWord of the package and of the reference walked. -/
import Derived.Test.YtepdcpbgdfjobaaWi
namespace Go.Proofs.Ytepdcpbgdfjobaa.W8
open Go.RowKit
set_option linter.unusedVariables false

theorem Try.infoI64 : (Try.prog.info? 3).map (fun i => (i.zero, i.size, i.bytes)) = some (some (.int .i64 0), 1, 8) := by kernel_rfl
theorem off_any (x y : Int) (w : World) (h1 : 0 ≤ x) (h2 : x ≤ 1) (h3 : 0 ≤ y) (h4 : y ≤ 100000) : Calls Try.prog 31 #[.int .i64 x, .int .i64 y] w fun e w' => e = .returned (.int .i64 (12 + 2 * y + x)) ∧ w = w' := by
  go_enter Try.func31, Try.ntmps31
  go_wp2_with fail
  go_ret
  exact ⟨rfl, rfl⟩
theorem roff_any (y x : Int) (w : World) (h3 : 0 ≤ y) (h4 : y ≤ 100000) (h1 : 0 ≤ x) (h2 : x ≤ 1) : Calls Try.prog 32 #[.int .i64 y, .int .i64 x] w fun e w' => e = .returned (.int .i64 (12 + 2 * y + x)) ∧ w = w' := by
  go_enter Try.func32, Try.ntmps32
  go_wp2_with fail
  go_ret
  exact ⟨rfl, rfl⟩

theorem pword_bad (n : Int) (w : World) (h : n < 0 ∨ 86 ≤ n) : Calls Try.prog 12 #[.int .i64 n] w fun e w' => e = .returned (.tuple #[.slice none 0 0, .int .i64 2]) ∧ w = w' := by
  rcases h with h | h
  · go_enter Try.func12, Try.ntmps12
    go_wp2_with fail
    go_ret2
    exact ⟨rfl, rfl⟩
  · have h0 : 0 ≤ n := by omega
    go_enter Try.func12, Try.ntmps12
    go_wp2_with fail
    go_ret2
    exact ⟨rfl, rfl⟩

set_option maxRecDepth 100000 in
set_option maxHeartbeats 2000000 in
theorem pword_ok (m : Nat) (x : Int) (w : World) (hx : x = m) (h : m < 86) : Calls Try.prog 12 #[.int .i64 x] w fun e w' => ∃ v, e = .returned (.tuple #[v, .int .i64 0]) ∧ w'.ownsRow w.heap.size 3 1 v 26 (is (pw m)) ∧ Below w.heap.size w w' := by
  subst hx
  have hm1 : ¬ ((m : Int) < 0) := by omega
  have hm2 : (m : Int) < 86 := by omega
  have hm3 : (0 : Int) ≤ m := by omega
  go_enter Try.func12, Try.ntmps12
  go_wp2_with fail
  have ho0 := ownsRow_nil w w.heap.size 3
  have hb0 := Below.refl w.heap.size w
  go_loopw [4, 12] (fun vo vk wr => ∃ k : Nat, k ≤ 26 ∧ vk = .int .i64 k ∧ wr.ownsRow w.heap.size 3 1 vo k (is (pl m k)) ∧ Below w.heap.size w wr) (fun _ vk _ => 26 - (intOf vk).toNat)
  case atStart => exact ⟨0, by omega, rfl, ho0, hb0⟩
  case round =>
    clear ho0 hb0
    obtain ⟨k, hk, rfl, ho, hb⟩ := hrel
    by_cases hlt : k < 26
    · have hbs := hb.size
      have hlt' : (k : Int) < 26 := by omega
      go_wp2_with fail
      refine (off_any _ _ _ (by omega) (by omega) (by omega) (by omega)).mono ?_
      rintro e w1 ⟨rfl, rfl⟩
      obtain ⟨y, hy⟩ : ∃ y : Int, y = 12 + 2 * ((m : Int) / 2 + 43 * (k : Int)) + m % 2 := ⟨_, rfl⟩
      rw [← hy]
      have HY : Hid (y = pf m k) := Lib.hid hy
      clear hy
      have ho6 := own_keep' ho ((Below.refl wr.heap.size wr).alloc (Nat.le_refl _) (.cells #[.int .i64 y] 3))
      have hr6 := reads_lit wr [y] 3 (by simp)
      have hb6 := hb.alloc hbs (.cells #[.int .i64 y] 3)
      have hb6s := hb6.size
      clear ho hb
      go_wp2_with (refine wpList_appI rfl _ _ rfl Try.underlying24 Try.infoI64 ho6 rfl hr6 rfl (by simp; omega) hb6s ?_; intro v7 w7 hown7 hgr7)
      have hb7 := hb6.grown hgr7 hb6s (ownBlock_ge' ho6)
      rw [HY.out, ← pl_succ] at hown7
      clear hb6 ho6 hr6 hgr7
      go_roundw
      case rel => exact ⟨k + 1, by omega, by go_num, hown7, hb7⟩
      case measure => simp [intOf]; omega
    · obtain rfl : k = 26 := by omega
      go_wp2_with fail
      go_ret2
      exact ⟨_, rfl, ho, hb⟩

theorem qword_bad (n : Int) (w : World) (h : n < 0 ∨ 52 ≤ n) : Calls Try.prog 13 #[.int .i64 n] w fun e w' => e = .returned (.tuple #[.slice none 0 0, .int .i64 2]) ∧ w = w' := by
  rcases h with h | h
  · go_enter Try.func13, Try.ntmps13
    go_wp2_with fail
    go_ret2
    exact ⟨rfl, rfl⟩
  · have h0 : 0 ≤ n := by omega
    go_enter Try.func13, Try.ntmps13
    go_wp2_with fail
    go_ret2
    exact ⟨rfl, rfl⟩

set_option maxRecDepth 100000 in
set_option maxHeartbeats 2000000 in
theorem qword_ok (m : Nat) (x : Int) (w : World) (hx : x = m) (h : m < 52) : Calls Try.prog 13 #[.int .i64 x] w fun e w' => ∃ v, e = .returned (.tuple #[v, .int .i64 0]) ∧ w'.ownsRow w.heap.size 3 1 v 45 (is (qw m)) ∧ Below w.heap.size w w' := by
  subst hx
  have hm1 : ¬ ((m : Int) < 0) := by omega
  have hm2 : (m : Int) < 52 := by omega
  have hm3 : (0 : Int) ≤ m := by omega
  go_enter Try.func13, Try.ntmps13
  go_wp2_with fail
  have ho0 := ownsRow_nil w w.heap.size 3
  have hb0 := Below.refl w.heap.size w
  go_loopw [4, 12] (fun vo vk wr => ∃ k : Nat, k ≤ 43 ∧ vk = .int .i64 k ∧ wr.ownsRow w.heap.size 3 1 vo k (is (ql m k)) ∧ Below w.heap.size w wr) (fun _ vk _ => 43 - (intOf vk).toNat)
  case atStart => exact ⟨0, by omega, rfl, ho0, hb0⟩
  case round =>
    clear ho0 hb0
    obtain ⟨k, hk, rfl, ho, hb⟩ := hrel
    by_cases hlt : k < 43
    · have hbs := hb.size
      have hlt' : (k : Int) < 43 := by omega
      go_wp2_with fail
      refine (off_any _ _ _ (by omega) (by omega) (by omega) (by omega)).mono ?_
      rintro e w1 ⟨rfl, rfl⟩
      obtain ⟨y, hy⟩ : ∃ y : Int, y = 12 + 2 * ((44 * (k : Int) + 43 * ((m : Int) / 2)) % 1118) + m % 2 := ⟨_, rfl⟩
      rw [← hy]
      have HY : Hid (y = qf m k) := Lib.hid hy
      clear hy
      have ho6 := own_keep' ho ((Below.refl wr.heap.size wr).alloc (Nat.le_refl _) (.cells #[.int .i64 y] 3))
      have hr6 := reads_lit wr [y] 3 (by simp)
      have hb6 := hb.alloc hbs (.cells #[.int .i64 y] 3)
      have hb6s := hb6.size
      clear ho hb
      go_wp2_with (refine wpList_appI rfl _ _ rfl Try.underlying24 Try.infoI64 ho6 rfl hr6 rfl (by simp; omega) hb6s ?_; intro v7 w7 hown7 hgr7)
      have hb7 := hb6.grown hgr7 hb6s (ownBlock_ge' ho6)
      rw [HY.out, ← ql_succ] at hown7
      clear hb6 ho6 hr6 hgr7
      go_roundw
      case rel => exact ⟨k + 1, by omega, by go_num, hown7, hb7⟩
      case measure => simp [intOf]; omega
    · obtain rfl : k = 43 := by omega
      have hbs := hb.size
      go_wp2_with fail
      refine (off_any _ _ _ (by omega) (by omega) (by omega) (by omega)).mono ?_
      rintro e w1 ⟨rfl, rfl⟩
      go_wp2_with fail
      refine (off_any _ _ _ (by omega) (by omega) (by omega) (by omega)).mono ?_
      rintro e w1 ⟨rfl, rfl⟩
      obtain ⟨y, hy⟩ : ∃ y : Int, y = 12 + 2 * (1118 + (m : Int) / 2) + m % 2 := ⟨_, rfl⟩
      obtain ⟨z, hz⟩ : ∃ z : Int, z = 12 + 2 * (1144 + (m : Int) / 2) + m % 2 := ⟨_, rfl⟩
      rw [← hy, ← hz]
      have HW : Hid (qw m = ql m 43 ++ [y, z]) := Lib.hid (by rw [hy, hz]; rfl)
      clear hy hz
      have ho6 := own_keep' ho ((Below.refl wr.heap.size wr).alloc (Nat.le_refl _) (.cells #[.int .i64 y, .int .i64 z] 3))
      have hr6 := reads_lit wr [y, z] 3 (by simp)
      have hb6 := hb.alloc hbs (.cells #[.int .i64 y, .int .i64 z] 3)
      have hb6s := hb6.size
      clear ho hb
      go_wp2_with (refine wpList_appI rfl _ _ rfl Try.underlying24 Try.infoI64 ho6 rfl hr6 rfl (by simp) hb6s ?_; intro v7 w7 hown7 hgr7)
      have hb7 := hb6.grown hgr7 hb6s (ownBlock_ge' ho6)
      rw [← HW.out] at hown7
      clear hb6 ho6 hr6 hgr7
      go_ret2
      exact ⟨_, rfl, hown7, hb7⟩

theorem rpword_bad (n : Int) (w : World) (h : n < 0 ∨ 86 ≤ n) : Calls Try.prog 14 #[.int .i64 n] w fun e w' => e = .returned (.tuple #[.slice none 0 0, .int .i64 2]) ∧ w = w' := by
  rcases h with h | h
  · go_enter Try.func14, Try.ntmps14
    go_wp2_with fail
    go_ret2
    exact ⟨rfl, rfl⟩
  · have h0 : 0 ≤ n := by omega
    go_enter Try.func14, Try.ntmps14
    go_wp2_with fail
    go_ret2
    exact ⟨rfl, rfl⟩

set_option maxRecDepth 100000 in
set_option maxHeartbeats 2000000 in
theorem rpword_ok (m : Nat) (x : Int) (w : World) (hx : x = m) (h : m < 86) : Calls Try.prog 14 #[.int .i64 x] w fun e w' => ∃ v, e = .returned (.tuple #[v, .int .i64 0]) ∧ w'.ownsRow w.heap.size 3 1 v 26 (is (pw m)) ∧ Below w.heap.size w w' := by
  subst hx
  have hm1 : ¬ ((m : Int) < 0) := by omega
  have hm2 : (m : Int) < 86 := by omega
  have hm3 : (0 : Int) ≤ m := by omega
  go_enter Try.func14, Try.ntmps14
  go_wp2_with fail
  have ho0 : (w.alloc (.cells #[] 3)).ownsRow w.heap.size 3 1 (.slice (some ⟨w.heap.size, 0, none⟩) 0 0) 0 (is []) := World.ownsRow_lit w #[] 0 (Nat.le_refl _) (by simp) (by simp)
  have hb0 : Below w.heap.size w (w.alloc (.cells #[] 3)) := (Below.refl _ _).alloc (Nat.le_refl _) _
  go_loopw [4, 5] (fun vo vk wr => ∃ k : Nat, k ≤ 26 ∧ vk = .int .i64 k ∧ wr.ownsRow w.heap.size 3 1 vo k (is (pl m k)) ∧ Below w.heap.size w wr) (fun _ vk _ => 26 - (intOf vk).toNat)
  case atStart => exact ⟨0, by omega, rfl, ho0, hb0⟩
  case round =>
    clear ho0 hb0
    obtain ⟨k, hk, rfl, ho, hb⟩ := hrel
    by_cases hlt : k < 26
    · have hbs := hb.size
      have hlt' : (k : Int) < 26 := by omega
      go_wp2_with fail
      refine (roff_any _ _ _ (by omega) (by omega) (by omega) (by omega)).mono ?_
      rintro e w1 ⟨rfl, rfl⟩
      obtain ⟨y, hy⟩ : ∃ y : Int, y = 12 + 2 * ((m : Int) / 2 + 43 * (k : Int)) + m % 2 := ⟨_, rfl⟩
      rw [← hy]
      have HY : Hid (y = pf m k) := Lib.hid hy
      clear hy
      have ho6 := own_keep' ho ((Below.refl wr.heap.size wr).alloc (Nat.le_refl _) (.cells #[.int .i64 y] 3))
      have hr6 := reads_lit wr [y] 3 (by simp)
      have hb6 := hb.alloc hbs (.cells #[.int .i64 y] 3)
      have hb6s := hb6.size
      clear ho hb
      go_wp2_with (refine wpList_appI rfl _ _ rfl Try.underlying24 Try.infoI64 ho6 rfl hr6 rfl (by simp; omega) hb6s ?_; intro v7 w7 hown7 hgr7)
      have hb7 := hb6.grown hgr7 hb6s (ownBlock_ge' ho6)
      rw [HY.out, ← pl_succ] at hown7
      clear hb6 ho6 hr6 hgr7
      go_roundw
      case rel => exact ⟨k + 1, by omega, by go_num, hown7, hb7⟩
      case measure => simp [intOf]; omega
    · obtain rfl : k = 26 := by omega
      go_wp2_with fail
      go_ret2
      exact ⟨_, rfl, ho, hb⟩

theorem rqword_bad (n : Int) (w : World) (h : n < 0 ∨ 52 ≤ n) : Calls Try.prog 15 #[.int .i64 n] w fun e w' => e = .returned (.tuple #[.slice none 0 0, .int .i64 2]) ∧ w = w' := by
  rcases h with h | h
  · go_enter Try.func15, Try.ntmps15
    go_wp2_with fail
    go_ret2
    exact ⟨rfl, rfl⟩
  · have h0 : 0 ≤ n := by omega
    go_enter Try.func15, Try.ntmps15
    go_wp2_with fail
    go_ret2
    exact ⟨rfl, rfl⟩

set_option maxRecDepth 100000 in
set_option maxHeartbeats 2000000 in
theorem rqword_ok (m : Nat) (x : Int) (w : World) (hx : x = m) (h : m < 52) : Calls Try.prog 15 #[.int .i64 x] w fun e w' => ∃ v, e = .returned (.tuple #[v, .int .i64 0]) ∧ w'.ownsRow w.heap.size 3 1 v 45 (is (qw m)) ∧ Below w.heap.size w w' := by
  subst hx
  have hm1 : ¬ ((m : Int) < 0) := by omega
  have hm2 : (m : Int) < 52 := by omega
  have hm3 : (0 : Int) ≤ m := by omega
  go_enter Try.func15, Try.ntmps15
  go_wp2_with fail
  have ho0 : (w.alloc (.cells #[] 3)).ownsRow w.heap.size 3 1 (.slice (some ⟨w.heap.size, 0, none⟩) 0 0) 0 (is []) := World.ownsRow_lit w #[] 0 (Nat.le_refl _) (by simp) (by simp)
  have hb0 : Below w.heap.size w (w.alloc (.cells #[] 3)) := (Below.refl _ _).alloc (Nat.le_refl _) _
  go_loopw [4, 5] (fun vo vk wr => ∃ k : Nat, k ≤ 43 ∧ vk = .int .i64 k ∧ wr.ownsRow w.heap.size 3 1 vo k (is (ql m k)) ∧ Below w.heap.size w wr) (fun _ vk _ => 43 - (intOf vk).toNat)
  case atStart => exact ⟨0, by omega, rfl, ho0, hb0⟩
  case round =>
    clear ho0 hb0
    obtain ⟨k, hk, rfl, ho, hb⟩ := hrel
    by_cases hlt : k < 43
    · have hbs := hb.size
      have hlt' : (k : Int) < 43 := by omega
      go_wp2_with fail
      refine (roff_any _ _ _ (by omega) (by omega) (by omega) (by omega)).mono ?_
      rintro e w1 ⟨rfl, rfl⟩
      obtain ⟨y, hy⟩ : ∃ y : Int, y = 12 + 2 * ((44 * (k : Int) + 43 * ((m : Int) / 2)) % 1118) + m % 2 := ⟨_, rfl⟩
      rw [← hy]
      have HY : Hid (y = qf m k) := Lib.hid hy
      clear hy
      have ho6 := own_keep' ho ((Below.refl wr.heap.size wr).alloc (Nat.le_refl _) (.cells #[.int .i64 y] 3))
      have hr6 := reads_lit wr [y] 3 (by simp)
      have hb6 := hb.alloc hbs (.cells #[.int .i64 y] 3)
      have hb6s := hb6.size
      clear ho hb
      go_wp2_with (refine wpList_appI rfl _ _ rfl Try.underlying24 Try.infoI64 ho6 rfl hr6 rfl (by simp; omega) hb6s ?_; intro v7 w7 hown7 hgr7)
      have hb7 := hb6.grown hgr7 hb6s (ownBlock_ge' ho6)
      rw [HY.out, ← ql_succ] at hown7
      clear hb6 ho6 hr6 hgr7
      go_roundw
      case rel => exact ⟨k + 1, by omega, by go_num, hown7, hb7⟩
      case measure => simp [intOf]; omega
    · obtain rfl : k = 43 := by omega
      have hbs := hb.size
      go_wp2_with fail
      refine (roff_any _ _ _ (by omega) (by omega) (by omega) (by omega)).mono ?_
      rintro e w1 ⟨rfl, rfl⟩
      go_wp2_with fail
      refine (roff_any _ _ _ (by omega) (by omega) (by omega) (by omega)).mono ?_
      rintro e w1 ⟨rfl, rfl⟩
      obtain ⟨y, hy⟩ : ∃ y : Int, y = 12 + 2 * (1118 + (m : Int) / 2) + m % 2 := ⟨_, rfl⟩
      obtain ⟨z, hz⟩ : ∃ z : Int, z = 12 + 2 * (1144 + (m : Int) / 2) + m % 2 := ⟨_, rfl⟩
      rw [← hy, ← hz]
      have HW : Hid (qw m = ql m 43 ++ [y, z]) := Lib.hid (by rw [hy, hz]; rfl)
      clear hy hz
      have ho6 := own_keep' ho ((Below.refl wr.heap.size wr).alloc (Nat.le_refl _) (.cells #[.int .i64 y, .int .i64 z] 3))
      have hr6 := reads_lit wr [y, z] 3 (by simp)
      have hb6 := hb.alloc hbs (.cells #[.int .i64 y, .int .i64 z] 3)
      have hb6s := hb6.size
      clear ho hb
      go_wp2_with (refine wpList_appI rfl _ _ rfl Try.underlying24 Try.infoI64 ho6 rfl hr6 rfl (by simp) hb6s ?_; intro v7 w7 hown7 hgr7)
      have hb7 := hb6.grown hgr7 hb6s (ownBlock_ge' ho6)
      rw [← HW.out] at hown7
      clear hb6 ho6 hr6 hgr7
      go_ret2
      exact ⟨_, rfl, hown7, hb7⟩
end Go.Proofs.Ytepdcpbgdfjobaa.W8
