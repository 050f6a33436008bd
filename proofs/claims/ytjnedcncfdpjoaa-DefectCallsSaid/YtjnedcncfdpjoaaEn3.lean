/- Chapter 1: write and Big of the package walked. -/
import Derived.Test.YtjnedcncfdpjoaaEn2
namespace Go.Proofs.Ytjnedcncfdpjoaa.E1
open Go.RowKit
set_option linter.unusedVariables false

def wrE (n size k : Nat) : List UInt8 := List.replicate (size - k) 0 ++ (leN n k).reverse
theorem Try.sizeE : (Try.prog.info? 5).map (·.size) = some 1 := by kernel_rfl
theorem wrE_length {n size k : Nat} (h : k ≤ size) : (wrE n size k).length = size := by simp [wrE, leN_length]; omega
theorem wrE_set {n size k : Nat} (h : k < size) : (wrE n size k).set (size - 1 - k) (leB n k) = wrE n size (k + 1) := by
  obtain ⟨m, rfl⟩ : ∃ m, size = k + 1 + m := ⟨size - k - 1, by omega⟩
  have e1 : k + 1 + m - k = m + 1 := by omega
  have e2 : k + 1 + m - 1 - k = m := by omega
  have e3 : k + 1 + m - (k + 1) = m := by omega
  unfold wrE
  rw [e1, e2, e3, List.replicate_succ', List.append_assoc, List.set_append_right _ _ (by simp)]
  simp [leN]
theorem wrE_zero (n size : Nat) : wrE n size 0 = List.replicate size 0 := by simp [wrE, leN]
theorem wrE_all (n size : Nat) : wrE n size size = beN n size := by simp [wrE, beN]
set_option maxRecDepth 100000 in
set_option maxHeartbeats 1000000 in
theorem write_any (N size : Nat) (x y : Int) (b : Nat) (w : World) (hy : y = N) (hx : x = size) (hs : size ≤ 4) (hn : N ≤ 9223372036854775807) (hc : w.cell? ⟨b, 0, none⟩ = some (.int .i64 x)) :
    Calls Try.prog 62 #[.int .i64 y, .int .i64 x, .func (.func 82) #[] #[.pointer (some ⟨b, 0, none⟩)]] w fun e w' => e = .returned (.string (str (beN N size))) ∧ Below w.heap.size w w' := by
  subst hx hy
  have hbl := World.block_lt_of_cell? w _ hc
  simp only at hbl
  have HC := Lib.hid hc; clear hc
  go_enter Try.func62, Try.ntmps62
  go_wp2_with (refine wpList_mkB rfl _ _ rfl Try.underlying87 Try.infoE size rfl rfl rfl rfl (by omega) (Nat.le_refl _) ?_; intro w1 hown1 hgr1)
  have hb1 := (Below.refl w.heap.size w).grown hgr1 (Nat.le_refl _) (fun k hk => by cases hk)
  rw [← wrE_zero N size] at hown1
  clear hgr1
  go_loopw [12] (fun vk wr => ∃ k : Nat, k ≤ size ∧ vk = .int .i64 k ∧ wr.ownsRow w.heap.size 5 1 (.slice (some ⟨w.heap.size, 0, none⟩) size size) size (bs (wrE N size k)) ∧ Below w.heap.size w wr) (fun vk _ => size - (intOf vk).toNat)
  case atStart => exact ⟨0, by omega, rfl, hown1, hb1⟩
  case round =>
    clear hown1 hb1
    obtain ⟨k, hk, rfl, hown, hb⟩ := hrel
    by_cases hlt : k < size
    · have hcb : wr.cell? ⟨b, 0, none⟩ = some (.int .i64 size) := (hb.cell (p := ⟨b, 0, none⟩) hbl).trans HC.out
      have hfo := hown.frozenAt (size - 1 - k)
      have hco : wr.cell? ⟨w.heap.size, size - 1 - k, none⟩ = some (B (G.ix (wrE N size k) (size - 1 - k))) := by
        rw [hown.cellAt _ (by omega), bs_get (by rw [wrE_length hk]; omega)]
      go_wp2_with fail
      have e1 : IntKind.i64.wrap (8 * (k : Int)) = 8 * (k : Int) := IntWalk.i64_in _ (by omega)
      have e2 : (0 : Int) ≤ (size : Int) - 1 - (k : Int) := by omega
      have e3 : (size : Int) - 1 - (k : Int) < (size : Int) := by omega
      have hix : ∀ W, (Instr.indexAt 87 (.slice (some ⟨w.heap.size, 0, none⟩) size size) (.int .i64 ((size : Int) - 1 - (k : Int)))).run Try.prog W = .ok (.pointer (some ⟨w.heap.size, size - 1 - k, none⟩)) W := fun W => by
        have := run_idx (P := Try.prog) (cap := size) Try.underlying87 Try.sizeE (rfl : some (⟨w.heap.size, 0, none⟩ : Addr) = _) (show size - 1 - k < size by omega) _ (show (size : Int) - 1 - (k : Int) = ((size - 1 - k : Nat) : Int) by omega) W
        rwa [Nat.zero_add] at this
      have e4 : IntKind.u8.wrap ((N : Int) / 2 ^ (8 * (k : Int)).toNat) = ((leB N k).toNat : Int) := by
        unfold leB
        rw [UInt8.toNat_ofNat']
        have e9 : (8 * (k : Int)).toNat = 8 * k := by omega
        have e10 : (2 : Nat) ^ (8 * k) = 256 ^ k := by rw [Nat.pow_mul]
        have e11 : (N : Int) / 2 ^ (8 * k) = ((N / 256 ^ k : Nat) : Int) := by rw [← e10]; simp
        rw [e9, e11]
        simp [IntKind.wrap, IntKind.bits, IntKind.signed]
      obtain ⟨c, hcc⟩ : ∃ c, c = leB N k := ⟨_, rfl⟩
      rw [← hcc] at e4
      have HCC := Lib.hid hcc; clear hcc
      go_still_tail 10, (by kernel_rfl)
      still_call (flipW (down1_any b size k _ hcb (by omega) (by omega) (by omega)))
      repeat still_step
      refine wpStill_nil ?_
      clear e1 e2 e3 e4 hix
      change wpList _ _ _ _ _ wr.drew
      go_wp2_with fail
      go_roundw
      case rel =>
        refine ⟨k + 1, by omega, by go_num, ?_, (hb.drew).setCell (Nat.le_refl _) _⟩
        have h := hown.drew.stored (size - 1 - k) (B c)
        rw [bs_set, HCC.out, wrE_set hlt] at h
        rw [HCC.out]
        exact h.1
      case measure => simp [intOf]; omega
    · obtain rfl : k = size := by omega
      rw [wrE_all] at hown
      have hrd : Rd wr (.slice (some ⟨w.heap.size, 0, none⟩) k k) (beN N k) := Rd.ofOwn' hown (by omega)
      have hcx := run_str (P := Try.prog) Try.underlying87 Try.underlying5 Try.underlying9 hrd
      clear hown hrd
      go_wp2_with fail
      go_ret
      exact ⟨rfl, hb⟩
set_option maxRecDepth 100000 in
theorem big2_any (n : Int) (w : World) (hn : n ≤ 9223372036854775807) : Calls Try.prog 47 #[.int .i64 n, .int .i64 2] w fun e w' => e = .returned (.tuple #[.string (str (bigR n 2).1), .int .i64 (bigR n 2).2]) ∧ Below w.heap.size w w' := by
  have HC := Lib.hid (fun W => echeck2 n W)
  cases hf : fitE n 2 with
  | false =>
    have e1 : bigR n 2 = ([], 2) := by unfold bigR; rw [hf]; rfl
    rw [e1] at HC ⊢
    clear e1 hf
    go_enter Try.func47, Try.ntmps47
    go_wp2_with fail
    refine (HC.out _).mono ?_
    rintro e w' ⟨rfl, rfl⟩
    go_wp2_with fail
    go_ret2
    exact ⟨rfl, Below.refl _ _⟩
  | true =>
    have e1 : bigR n 2 = (beN n.toNat 2, 0) := by unfold bigR; rw [hf]; rfl
    have h0 : 0 ≤ n := by rw [fitE_2] at hf; exact (of_decide_eq_true hf).1
    rw [e1] at HC ⊢
    obtain ⟨N, rfl⟩ : ∃ N : Nat, n = N := ⟨n.toNat, by omega⟩
    have e2 : ((N : Int)).toNat = N := by omega
    rw [e2]
    have HD := Lib.hid (fun W => down_any 2 W)
    have HW := Lib.hid (fun b W hc => write_any N 2 2 (N : Int) b W rfl rfl (by omega) (by omega) hc)
    clear e1 hf e2
    go_enter Try.func47, Try.ntmps47
    go_wp2_with fail
    refine (HC.out _).mono ?_
    rintro e w' ⟨rfl, rfl⟩
    go_wp2_with fail
    refine (HD.out _).mono ?_
    rintro e w1 ⟨b, rfl, hc1, hbs, hb1⟩
    go_wp2_with fail
    refine (HW.out b _ hc1).mono ?_
    rintro e w2 ⟨rfl, hb2⟩
    have hb3 := hb1.trans (hb2.mono hb1.size)
    clear hc1 hb1 hb2
    go_wp2_with fail
    go_ret2
    exact ⟨rfl, hb3⟩
set_option maxRecDepth 100000 in
theorem big4_any (n : Int) (w : World) (hn : n ≤ 9223372036854775807) : Calls Try.prog 47 #[.int .i64 n, .int .i64 4] w fun e w' => e = .returned (.tuple #[.string (str (bigR n 4).1), .int .i64 (bigR n 4).2]) ∧ Below w.heap.size w w' := by
  have HC := Lib.hid (fun W => echeck4 n W)
  cases hf : fitE n 4 with
  | false =>
    have e1 : bigR n 4 = ([], 2) := by unfold bigR; rw [hf]; rfl
    rw [e1] at HC ⊢
    clear e1 hf
    go_enter Try.func47, Try.ntmps47
    go_wp2_with fail
    refine (HC.out _).mono ?_
    rintro e w' ⟨rfl, rfl⟩
    go_wp2_with fail
    go_ret2
    exact ⟨rfl, Below.refl _ _⟩
  | true =>
    have e1 : bigR n 4 = (beN n.toNat 4, 0) := by unfold bigR; rw [hf]; rfl
    have h0 : 0 ≤ n := by rw [fitE_4] at hf; exact (of_decide_eq_true hf).1
    rw [e1] at HC ⊢
    obtain ⟨N, rfl⟩ : ∃ N : Nat, n = N := ⟨n.toNat, by omega⟩
    have e2 : ((N : Int)).toNat = N := by omega
    rw [e2]
    have HD := Lib.hid (fun W => down_any 4 W)
    have HW := Lib.hid (fun b W hc => write_any N 4 4 (N : Int) b W rfl rfl (by omega) (by omega) hc)
    clear e1 hf e2
    go_enter Try.func47, Try.ntmps47
    go_wp2_with fail
    refine (HC.out _).mono ?_
    rintro e w' ⟨rfl, rfl⟩
    go_wp2_with fail
    refine (HD.out _).mono ?_
    rintro e w1 ⟨b, rfl, hc1, hbs, hb1⟩
    go_wp2_with fail
    refine (HW.out b _ hc1).mono ?_
    rintro e w2 ⟨rfl, hb2⟩
    have hb3 := hb1.trans (hb2.mono hb1.size)
    clear hc1 hb1 hb2
    go_wp2_with fail
    go_ret2
    exact ⟨rfl, hb3⟩
end Go.Proofs.Ytjnedcncfdpjoaa.E1
