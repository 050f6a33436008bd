/- Walks of Generator, its reference, Bytes and awake. -/
import Derived.Test.YtkebnmmcogkldaaRem
namespace Go.Proofs.Ytkebnmmcogkldaa
open Go.RowKit
set_option linter.unusedVariables false

theorem exp_ofNat (k : Nat) (h : k < 255) : G.exp k = UInt8.ofNat (Gf.exp (ex (k : Int))) := by
  unfold G.exp ex; congr 1; congr 1; omega

set_option maxRecDepth 100000 in
set_option maxHeartbeats 1000000 in
theorem generator_ok (n : Nat) (w : World) (hn : n ≤ 32) :
    Calls Try.prog 55 #[.int .i64 n] w fun e w' => ∃ v, e = .returned (.tuple #[v, .int .i64 0]) ∧ w'.ownsRow w.heap.size 5 1 v (n + 1) (bs (G.gen n)) ∧ Below w.heap.size w w' := by
  have hd1 : decide ((n : Int) < 0) = false := by rw [decide_eq_false_iff_not]; omega
  have hd2 : decide ((32 : Int) < (n : Int)) = false := by rw [decide_eq_false_iff_not]; omega
  go_enter Try.func55, Try.ntmps55
  go_wp2_with fail
  have h1 : (w.alloc (.cells #[B 1] 5)).ownsRow w.heap.size 5 1 (.slice (some ⟨w.heap.size, 0, none⟩) 1 1) 1 (bs (G.gen 0)) := World.ownsRow_lit w #[B 1] 1 (Nat.le_refl _) (by simp [maxLen]) (by simp)
  have hb1 : Below w.heap.size w (w.alloc (.cells #[B 1] 5)) := (Below.refl _ _).alloc (Nat.le_refl _) _
  go_loopw [4, 14] (fun vg vk wr => ∃ k : Nat, k ≤ n ∧ vk = .int .i64 k ∧ wr.ownsRow w.heap.size 5 1 vg (G.gen k).length (bs (G.gen k)) ∧ Below w.heap.size w wr) (fun _ vk _ => n - (intOf vk).toNat)
  case atStart => exact ⟨0, by omega, rfl, h1, hb1⟩
  case round =>
    clear h1 hb1
    obtain ⟨k, hk, rfl, hown, hb⟩ := hrel
    by_cases hlt : k < n
    · have hbs := hb.size
      go_wp2_with fail
      refine (exp_at _ (k : Int) _ rfl (by omega) (by omega)).mono ?_
      rintro e w1 ⟨rfl, rfl⟩
      have hE : (Gf.exp (ex (k : Int)) : Nat) = (G.exp k).toNat := by rw [G.toNat_exp]; congr 1; unfold ex; omega
      rw [hE]
      clear hE
      go_wp2_with fail
      have hgl := G.gen_length k
      have ho2 : (wr.alloc (.cells #[B 1, B (G.exp k)] 5)).ownsRow w.heap.size 5 1 (.slice (some ⟨wr.heap.size, 0, none⟩) 2 2) [1, G.exp k].length (bs [1, G.exp k]) := World.ownsRow_lit wr #[B 1, B (G.exp k)] 2 hbs (by simp [maxLen]) (by simp)
      have hb2 : Below w.heap.size w (wr.alloc (.cells #[B 1, B (G.exp k)] 5)) := hb.alloc hbs _
      refine (product_any _ _ (G.gen k) [1, G.exp k] _ ((Rd.ofOwn hown (by omega)).keep ((Below.refl _ _).alloc (Nat.le_refl _) _)) (Rd.ofOwn ho2 (by simp))).mono ?_
      rintro e w2 ⟨v, rfl, ho3, hb3⟩
      have ho4 := own_mono ho3 (hb2.size)
      have hb4 := hb2.trans (hb3.mono hb2.size)
      clear ho3 hb3 ho2 hb2 hown hgl
      go_wp2_with fail
      go_roundw
      case rel => exact ⟨k + 1, by omega, by go_num, ho4, hb4⟩
      case measure => simp [intOf]; omega
    · obtain rfl : k = n := by omega
      rw [G.gen_length] at hown
      go_wp2_with fail
      go_ret2
      exact ⟨_, rfl, hown, hb⟩
set_option maxRecDepth 100000 in
set_option maxHeartbeats 1000000 in
theorem rgenerator_ok (n : Nat) (w : World) (hn : n ≤ 32) :
    Calls Try.prog 57 #[.int .i64 n] w fun e w' => ∃ v, e = .returned (.tuple #[v, .int .i64 0]) ∧ w'.ownsRow w.heap.size 5 1 v (n + 1) (bs (G.gen n)) ∧ Below w.heap.size w w' := by
  have hd1 : decide ((n : Int) < 0) = false := by rw [decide_eq_false_iff_not]; omega
  have hd2 : decide ((32 : Int) < (n : Int)) = false := by rw [decide_eq_false_iff_not]; omega
  go_enter Try.func57, Try.ntmps57
  go_wp2_with fail
  have h1 : (w.alloc (.cells #[B 1] 5)).ownsRow w.heap.size 5 1 (.slice (some ⟨w.heap.size, 0, none⟩) 1 1) 1 (bs (G.gen 0)) := World.ownsRow_lit w #[B 1] 1 (Nat.le_refl _) (by simp [maxLen]) (by simp)
  have hb1 : Below w.heap.size w (w.alloc (.cells #[B 1] 5)) := (Below.refl _ _).alloc (Nat.le_refl _) _
  go_loopw [4, 5] (fun vg vk wr => ∃ k : Nat, k ≤ n ∧ vk = .int .i64 k ∧ wr.ownsRow w.heap.size 5 1 vg (G.gen k).length (bs (G.gen k)) ∧ Below w.heap.size w wr) (fun _ vk _ => n - (intOf vk).toNat)
  case atStart => exact ⟨0, by omega, rfl, h1, hb1⟩
  case round =>
    clear h1 hb1
    obtain ⟨k, hk, rfl, hown, hb⟩ := hrel
    by_cases hlt : k < n
    · have hbs := hb.size
      go_wp2_with fail
      refine (rexp_any (k : Int) _ (by omega) (by omega)).mono ?_
      rintro e w1 ⟨rfl, rfl⟩
      have hE : (Gf.exp (ex (k : Int)) : Nat) = (G.exp k).toNat := by rw [G.toNat_exp]; congr 1; unfold ex; omega
      rw [hE]
      clear hE
      go_wp2_with fail
      have hgl := G.gen_length k
      have ho2 : (wr.alloc (.cells #[B 1, B (G.exp k)] 5)).ownsRow w.heap.size 5 1 (.slice (some ⟨wr.heap.size, 0, none⟩) 2 2) [1, G.exp k].length (bs [1, G.exp k]) := World.ownsRow_lit wr #[B 1, B (G.exp k)] 2 hbs (by simp [maxLen]) (by simp)
      have hb2 : Below w.heap.size w (wr.alloc (.cells #[B 1, B (G.exp k)] 5)) := hb.alloc hbs _
      refine (rproduct_any _ _ (G.gen k) [1, G.exp k] _ ((Rd.ofOwn hown (by omega)).keep ((Below.refl _ _).alloc (Nat.le_refl _) _)) (Rd.ofOwn ho2 (by simp))).mono ?_
      rintro e w2 ⟨v, rfl, ho3, hb3⟩
      have ho4 := own_mono ho3 (hb2.size)
      have hb4 := hb2.trans (hb3.mono hb2.size)
      clear ho3 hb3 ho2 hb2 hown hgl
      go_wp2_with fail
      go_roundw
      case rel => exact ⟨k + 1, by omega, by go_num, ho4, hb4⟩
      case measure => simp [intOf]; omega
    · obtain rfl : k = n := by omega
      rw [G.gen_length] at hown
      go_wp2_with fail
      go_ret2
      exact ⟨_, rfl, hown, hb⟩
theorem generator_bad (n : Int) (w : World) (hn : n < 0 ∨ 32 < n) :
    Calls Try.prog 55 #[.int .i64 n] w fun e w' => e = .returned (.tuple #[.slice none 0 0, .int .i64 2]) ∧ w = w' := by
  rcases hn with hn | hn
  · go_enter Try.func55, Try.ntmps55
    go_wp2_with fail
    go_ret2
    exact ⟨rfl, rfl⟩
  · have hd1 : decide (n < 0) = false := by rw [decide_eq_false_iff_not]; omega
    go_enter Try.func55, Try.ntmps55
    go_wp2_with fail
    go_ret2
    exact ⟨rfl, rfl⟩

theorem rgenerator_bad (n : Int) (w : World) (hn : n < 0 ∨ 32 < n) :
    Calls Try.prog 57 #[.int .i64 n] w fun e w' => e = .returned (.tuple #[.slice none 0 0, .int .i64 2]) ∧ w = w' := by
  rcases hn with hn | hn
  · go_enter Try.func57, Try.ntmps57
    go_wp2_with fail
    go_ret2
    exact ⟨rfl, rfl⟩
  · have hd1 : decide (n < 0) = false := by rw [decide_eq_false_iff_not]; omega
    go_enter Try.func57, Try.ntmps57
    go_wp2_with fail
    go_ret2
    exact ⟨rfl, rfl⟩

theorem generator_at (x : Int) (n : Nat) (w : World) (hx : x = n) (hn : n ≤ 32) :
    Calls Try.prog 55 #[.int .i64 x] w fun e w' => ∃ v, e = .returned (.tuple #[v, .int .i64 0]) ∧ w'.ownsRow w.heap.size 5 1 v (n + 1) (bs (G.gen n)) ∧ Below w.heap.size w w' := by
  subst hx; exact generator_ok n w hn
end Go.Proofs.Ytkebnmmcogkldaa
