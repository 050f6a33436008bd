/- The cyclic redundancy check of 16 bits (chapter 2) walked: package and reference. -/
import Derived.Test.YtjnedcncfdpjoaaQd
import Derived.Test.YtjnedcncfdpjoaaCrc
namespace Go.Proofs.Ytjnedcncfdpjoaa.W10
open Go.RowKit
set_option linter.unusedVariables false

theorem xor16 {x y : Int} (a b : Nat) (hx : x = a) (hy : y = b) (ha : a < 65536) (hb : b < 65536) : bits .xor .u16 x y = ((a ^^^ b : Nat) : Int) := by
  subst hx; subst hy; exact u16_xor_nat a b ha hb
theorem wrap16 (n : Int) : IntKind.u16.wrap n = n % 65536 := by simp [IntKind.wrap, IntKind.bits, IntKind.signed]
theorem st1_eq {X : Nat} (h : X < 65536) : C.st1 X = if X / 32768 = 1 then (X * 2 % 65536) ^^^ 4129 else X * 2 := by
  unfold C.st1
  by_cases h1 : X / 32768 = 1
  · rw [if_pos h1, if_pos h1, show X % 32768 * 2 = X * 2 % 65536 by omega]
  · rw [if_neg h1, if_neg h1, show X % 32768 * 2 = X * 2 by omega]
set_option maxRecDepth 100000 in
theorem direct1_any (b : Nat) (w : World) (hb : b < 256) : Calls Try.prog 91 #[.int .u8 b] w fun e w' => e = .returned (.int .u16 (C.tab b : Nat)) ∧ w = w' := by
  go_enter Try.func91, Try.ntmps91
  go_wp2_with fail
  go_loop [3, 7] (fun vn vk => ∃ k : Nat, k ≤ 8 ∧ vn = .int .u16 (C.stN k (b * 256) : Nat) ∧ vk = .int .i64 k) (fun _ vk => 8 - (intOf vk).toNat)
  case atStart =>
    refine ⟨0, by omega, congrArg (Value.int .u16) ?_, rfl⟩
    show (b : Int) * 256 = ((b * 256 : Nat) : Int)
    omega
  case round =>
    obtain ⟨k, hk, rfl, rfl⟩ := hrel
    by_cases hlt : k < 8
    · have hX : C.stN k (b * 256) < 65536 := C.stN_lt (by omega) k
      have HS : Hid (C.stN (k + 1) (b * 256) = C.st1 (C.stN k (b * 256))) := Lib.hid rfl
      generalize C.stN k (b * 256) = X at hX HS ⊢
      have Hst := Lib.hid (st1_eq hX)
      by_cases h1 : X / 32768 = 1
      · have HE := Lib.hid h1; clear h1
        have d1 : (((X : Int) / 32768) == 1) = true := by have := HE.out; simp; omega
        go_wp2_with fail
        refine ⟨⟨k + 1, by omega, congrArg (Value.int .u16) ?_, rfl⟩, by simp [intOf]; omega⟩
        rw [HS.out, Hst.out, if_pos HE.out]
        exact xor16 (X * 2 % 65536) 4129 (by rw [wrap16]; omega) rfl (by omega) (by omega)
      · have HE := Lib.hid h1; clear h1
        have d1 : (((X : Int) / 32768) == 1) = false := by have := HE.out; simp; omega
        have hlo : X < 32768 := by have := HE.out; omega
        go_wp2_with fail
        refine ⟨⟨k + 1, by omega, congrArg (Value.int .u16) ?_, rfl⟩, by simp [intOf]; omega⟩
        rw [HS.out, Hst.out, if_neg HE.out]
        omega
    · obtain rfl : k = 8 := by omega
      go_wp2_with fail
      go_ret
      exact ⟨rfl, rfl⟩

/-- the table, filled up to 'k' -/
def zr16 : Array Value := Array.replicate 256 (.int .u16 0)
def tw : Nat → Array Value
  | 0 => zr16
  | k + 1 => (tw k).setIfInBounds k (.int .u16 (C.tab k : Nat))
theorem tw_size : ∀ k, (tw k).size = 256
  | 0 => by simp [tw, zr16]
  | k + 1 => by rw [tw, Array.size_setIfInBounds, tw_size k]
theorem tw_get (k i : Nat) (h : i < k) (hk : k ≤ 256) : (tw k)[i]? = some (.int .u16 (C.tab i : Nat)) := by
  induction k generalizing i with
  | zero => omega
  | succ k ih =>
    rw [tw]
    by_cases e : i = k
    · subst e
      rw [Array.getElem?_setIfInBounds_self_of_lt (by rw [tw_size]; omega)]
    · rw [Array.getElem?_setIfInBounds_ne (by omega)]
      exact ih i (by omega) (by omega)
theorem tw_some (k i : Nat) (h : i < 256) : ∃ v, (tw k)[i]? = some v := by
  have : i < (tw k).size := by rw [tw_size]; exact h
  exact ⟨_, Array.getElem?_eq_getElem this⟩
theorem tw_one (k : Nat) : ∀ v ∈ (tw k), v.oneCell' = true := by
  induction k with
  | zero => intro v hv; simp [tw, zr16] at hv; subst hv; rfl
  | succ k ih =>
    intro v hv
    rcases Array.mem_or_eq_of_mem_setIfInBounds hv with h | h
    · exact ih v h
    · subst h; rfl
theorem zero_16b : ∀ w, (zeroValue 105).run Try.prog w = .ok (.agg zr16) w := fun _ => by kernel_rfl
set_option maxRecDepth 100000 in
set_option maxHeartbeats 1000000 in
theorem table_any (w : World) :
    Calls Try.prog 90 #[.func (.func 91) #[] #[]] w fun e w' => e = .returned (.agg (tw 256)) ∧ Below w.heap.size w w' := by
  have hz := zero_16b
  go_enter Try.func90, Try.ntmps90
  go_wp2_with fail
  have h0 : ((w.alloc (.cells zr16 105)).alloc (.cells zr16 105)).heap[w.heap.size]? = some (.cells (tw 0) 105) := heap_alloc2_old _ _ _
  have h1 : ((w.alloc (.cells zr16 105)).alloc (.cells zr16 105)).heap[w.heap.size + 1]? = some (.cells (tw 0) 105) := heap_alloc2_new _ _ _
  have h2 : Below w.heap.size w ((w.alloc (.cells zr16 105)).alloc (.cells zr16 105)) := ((Below.refl _ _).alloc (Nat.le_refl _) _).alloc (by simp) _
  generalize (w.alloc (.cells zr16 105)).alloc (.cells zr16 105) = w1 at h0 h1 h2 ⊢
  clear hz
  go_loopw [5] (fun vk wr => ∃ k : Nat, k ≤ 256 ∧ vk = .int .i64 k ∧ wr.heap[w.heap.size]? = some (.cells zr16 105) ∧ wr.heap[w.heap.size + 1]? = some (.cells (tw k) 105) ∧ Below w.heap.size w wr) (fun vk _ => 256 - (intOf vk).toNat)
  case atStart => exact ⟨0, by omega, rfl, h0, h1, h2⟩
  case round =>
    obtain ⟨k, hk, rfl, g0, g1, g2⟩ := hrel
    clear h0 h1 h2
    by_cases hlt : k < 256
    · obtain ⟨v, hv⟩ := tw_some k k hlt
      have hc : wr.cell? ⟨w.heap.size + 1, k, none⟩ = some v := by rw [cell_of_row wr _ k _ _ _ g1]; exact hv
      have hf := frozen_of_row wr _ k _ _ g1
      clear hv
      have G0 := Lib.hid g0; have G1 := Lib.hid g1; clear g0 g1
      go_wp2_with fail
      refine (direct1_any k _ hlt).mono ?_
      rintro e w' ⟨rfl, rfl⟩
      go_wp2_with fail
      go_roundw
      case rel =>
        refine ⟨k + 1, by omega, by go_num, ?_, ?_, g2.setCell (by simp) _⟩
        · rw [heap_setCell_other _ _ _ _ (by simp)]; exact G0.out
        · exact heap_setCell_same _ _ _ _ _ _ G1.out
      case measure => simp [intOf]; omega
    · obtain rfl : k = 256 := by omega
      have G0 := Lib.hid g0; have G1 := Lib.hid g1; clear g0 g1
      have hi : (Try.prog.info? 105).map (·.size) = some (tw 256).size := by rw [tw_size]; kernel_rfl
      have h1 : (tw 256).all (·.oneCell') = true := Array.all_eq_true_iff_forall_mem.2 (tw_one 256)
      go_wp2_with (first | (refine wpList_load_row rfl 105 _ rfl _ rfl 105 _ _ _ G1.out Try.underlying105 rfl hi ?_) | (refine wpList_store_row rfl 105 _ _ rfl w.heap.size (tw 256) rfl rfl 105 _ G0.out hi (by simp [zr16, tw_size]) h1 ?_))
      exact bodyPost_ret (v := .agg (tw 256)) (results_cell_row rfl _ _ w.heap.size 105 (tw 256) (0, 0) _ rfl (setRow_heap _ _ _ _ _ _ G0.out) Try.underlying105 rfl hi) rfl ⟨rfl, Below.setRow g2 (Nat.le_refl _) _⟩
set_option maxRecDepth 100000 in
set_option maxHeartbeats 1000000 in
theorem direct_any (w : World) :
    Calls Try.prog 79 #[] w fun e w' => e = .returned (.agg (tw 256)) ∧ Below w.heap.size w w' := by
  have hz := zero_16b
  go_enter Try.func79, Try.ntmps79
  go_wp2_with fail
  refine (table_any _).mono ?_
  rintro e w1 ⟨rfl, hb⟩
  have hb1 := ((Below.refl w.heap.size w).alloc (Nat.le_refl _) (.cells zr16 105)).trans (hb.mono (by simp))
  have g0 : w1.heap[w.heap.size]? = some (.cells zr16 105) := (hb.block w.heap.size (by simp)).trans (heap_alloc_new _ _)
  have G0 := Lib.hid g0; clear g0 hz
  have hi : (Try.prog.info? 105).map (·.size) = some (tw 256).size := by rw [tw_size]; kernel_rfl
  have h1 : (tw 256).all (·.oneCell') = true := Array.all_eq_true_iff_forall_mem.2 (tw_one 256)
  go_wp2_with (refine wpList_store_row rfl 105 _ _ rfl w.heap.size (tw 256) rfl rfl 105 _ G0.out hi (by simp [zr16, tw_size]) h1 ?_)
  exact bodyPost_ret (v := .agg (tw 256)) (results_cell_row rfl _ _ w.heap.size 105 (tw 256) (0, 0) _ rfl (setRow_heap _ _ _ _ _ _ G0.out) Try.underlying105 rfl hi) rfl ⟨rfl, Below.setRow hb1 (Nat.le_refl _) _⟩
/-- a register and its index -/
theorem reg_tab {c : Nat} (hc : c < 65536) (b : UInt8) : C.reg c b = (c * 256 % 65536) ^^^ C.tab (c / 256 ^^^ b.toNat) := by
  have hb := b.toNat_lt
  unfold C.reg
  have hx : c ^^^ b.toNat * 256 < 65536 := Nat.xor_lt_two_pow (n := 16) (by omega) (by omega)
  rw [C.split8 hx]
  have e1 : (c ^^^ b.toNat * 256) % 256 = c % 256 := by
    have := Nat.xor_mod_two_pow (a := c) (b := b.toNat * 256) (n := 8)
    simp only [Nat.reducePow] at this
    rw [this, show b.toNat * 256 % 256 = 0 by omega, Nat.xor_zero]
  have e2 : (c ^^^ b.toNat * 256) / 256 = c / 256 ^^^ b.toNat := by
    have := Nat.xor_div_two_pow (a := c) (b := b.toNat * 256) (n := 8)
    simp only [Nat.reducePow] at this
    rw [this, Nat.mul_div_cancel _ (by omega)]
  rw [e1, e2, show c % 256 * 256 = c * 256 % 65536 by omega]
theorem crc_take (s : ByteArray) (k : Nat) (h : k < s.size) : C.crc 0 (s.data.toList.take (k + 1)) = C.reg (C.crc 0 (s.data.toList.take k)) s[k] := by
  rw [← C.crc_snoc, List.take_succ_eq_append_getElem (by simpa using h)]; rfl
set_option maxRecDepth 100000 in
set_option maxHeartbeats 1000000 in
theorem ext_any (s : ByteArray) (w : World) (hs : s.size ≤ 1000000) : Calls Try.prog 59 #[.int .u16 0, .string s] w fun e w' => e = .returned (.int .u16 (C.crc 0 s.data.toList : Nat)) ∧ Below w.heap.size w w' := by
  have hz := zero_16b
  go_enter Try.func59, Try.ntmps59
  go_wp2_with fail
  refine (direct_any _).mono ?_
  rintro e w1 ⟨rfl, hb⟩
  have hi : (Try.prog.info? 105).map (·.size) = some (tw 256).size := by rw [tw_size]; kernel_rfl
  have h1 : (tw 256).all (·.oneCell') = true := Array.all_eq_true_iff_forall_mem.2 (tw_one 256)
  go_wp2_with (refine wpList_store_row rfl 105 _ _ rfl w1.heap.size (tw 256) rfl rfl 105 _ (heap_alloc_new _ _) hi (by simp [zr16, tw_size]) h1 ?_)
  have hT : ((w1.alloc (.cells zr16 105)).setRow w1.heap.size (tw 256)).heap[w1.heap.size]? = some (.cells (tw 256) 105) := setRow_heap _ _ _ _ _ _ (heap_alloc_new _ _)
  have hb2 : Below w.heap.size w ((w1.alloc (.cells zr16 105)).setRow w1.heap.size (tw 256)) := Below.setRow (hb.alloc hb.size _) hb.size _
  generalize (w1.alloc (.cells zr16 105)).setRow w1.heap.size (tw 256) = w2 at hT hb2 ⊢
  obtain ⟨g, hg⟩ : ∃ g, g = w1.heap.size := ⟨_, rfl⟩
  rw [← hg] at hT
  simp only [← hg]
  clear hz h1 hi hb hg
  have HT := Lib.hid hT; clear hT
  go_loop [0, 10] (fun vc vk => ∃ k : Nat, k ≤ s.size ∧ vc = .int .u16 (C.crc 0 (s.data.toList.take k) : Nat) ∧ vk = .int .i64 k) (fun _ vk => s.size - (intOf vk).toNat)
  case atStart => exact ⟨0, by omega, rfl, rfl⟩
  case round =>
    obtain ⟨k, hk, rfl, rfl⟩ := hrel
    have hX : C.crc 0 (s.data.toList.take k) < 65536 := C.crc_lt (by omega) _
    by_cases hlt : k < s.size
    · have HS := Lib.hid (crc_take s k hlt)
      generalize C.crc 0 (s.data.toList.take k) = X at hX HS ⊢
      have HR := Lib.hid (reg_tab hX s[k])
      have hcb := s[k].toNat_lt
      have hj : X / 256 ^^^ s[k].toNat < 256 := Nat.xor_lt_two_pow (n := 8) (by omega) (by omega)
      have hbx : bits .xor .u8 ((X : Int) / 256) (s[k].toNat : Int) = ((X / 256 ^^^ s[k].toNat : Nat) : Int) := u8_xor_nat (X / 256) s[k].toNat (by omega) hcb
      have hcell : w2.cell? ⟨g, X / 256 ^^^ s[k].toNat, none⟩ = some (.int .u16 (C.tab (X / 256 ^^^ s[k].toNat) : Nat)) := by rw [cell_of_row w2 _ _ _ _ _ HT.out]; exact tw_get 256 _ hj (by omega)
      generalize X / 256 ^^^ s[k].toNat = j at hj hbx hcell HR
      have HJ := Lib.hid hj
      go_wp2_with fail
      refine ⟨⟨k + 1, by omega, congrArg (Value.int .u16) ?_, rfl⟩, by simp [intOf]; omega⟩
      rw [HS.out, HR.out]
      exact xor16 (X * 256 % 65536) (C.tab j) (by first | (rw [wrap16]; omega) | omega) rfl (by omega) (C.stN_lt (by have := HJ.out; omega) 8)
    · obtain rfl : k = s.size := by omega
      have HF : Hid (C.crc 0 (s.data.toList.take s.size) = C.crc 0 s.data.toList) := Lib.hid (by rw [List.take_of_length_le (by simp)])
      go_wp2_with fail
      go_ret
      exact ⟨by rw [← HF.out]; rfl, hb2⟩
set_option maxRecDepth 100000 in
theorem crc_any (s : ByteArray) (w : World) (hs : s.size ≤ 1000000) : Calls Try.prog 44 #[.string s] w fun e w' => e = .returned (.int .u16 (C.crc 0 s.data.toList : Nat)) ∧ Below w.heap.size w w' := by
  go_enter Try.func44, Try.ntmps44
  go_wp2_with fail
  refine (ext_any s _ hs).mono ?_
  rintro e w1 ⟨rfl, hb⟩
  go_wp2_with fail
  go_ret
  exact ⟨rfl, hb⟩
theorem crc_st (c : Nat) (b : UInt8) : C.reg c b = C.stN 8 (c ^^^ b.toNat * 256) := rfl
theorem st1_mod (X : Nat) : C.st1 X = if X / 32768 = 1 then (X % 32768 * 2) ^^^ 4129 else X % 32768 * 2 := rfl
set_option maxRecDepth 100000 in
set_option maxHeartbeats 1000000 in
theorem rext_any (s : ByteArray) (w : World) (hs : s.size ≤ 1000000) : Calls Try.prog 78 #[.int .u16 0, .string s] w fun e w' => e = .returned (.int .u16 (C.crc 0 s.data.toList : Nat)) ∧ w = w' := by
  go_enter Try.func78, Try.ntmps78
  go_wp2_with fail
  go_loop [0, 5] (fun vc vk => ∃ k : Nat, k ≤ s.size ∧ vc = .int .u16 (C.crc 0 (s.data.toList.take k) : Nat) ∧ vk = .int .i64 k) (fun _ vk => s.size - (intOf vk).toNat)
  case atStart => exact ⟨0, by omega, rfl, rfl⟩
  case round =>
    obtain ⟨k, hk, rfl, rfl⟩ := hrel
    have hX : C.crc 0 (s.data.toList.take k) < 65536 := C.crc_lt (by omega) _
    by_cases hlt : k < s.size
    · have HS := Lib.hid (crc_take s k hlt)
      generalize C.crc 0 (s.data.toList.take k) = X at hX HS ⊢
      have HR := Lib.hid (crc_st X s[k])
      have hcb := s[k].toNat_lt
      have hj : X ^^^ s[k].toNat * 256 < 65536 := Nat.xor_lt_two_pow (n := 16) (by omega) (by omega)
      have hbx : bits .xor .u16 (X : Int) ((s[k].toNat : Int) * 256) = ((X ^^^ s[k].toNat * 256 : Nat) : Int) := by
        have := u16_xor_nat X (s[k].toNat * 256) hX (by omega)
        rw [← this]; congr 1
      generalize X ^^^ s[k].toNat * 256 = Y at hj hbx HR
      go_wp2_with fail
      go_loop [0, 6] (fun vc vm => ∃ m : Nat, m ≤ 8 ∧ vc = .int .u16 (C.stN m Y : Nat) ∧ vm = .int .i64 m) (fun _ vm => 8 - (intOf vm).toNat)
      case atStart => exact ⟨0, by omega, rfl, rfl⟩
      case round =>
        obtain ⟨m, hm, rfl, rfl⟩ := hrel
        have hZ : C.stN m Y < 65536 := C.stN_lt hj m
        by_cases hlt2 : m < 8
        · have HT : Hid (C.stN (m + 1) Y = C.st1 (C.stN m Y)) := Lib.hid rfl
          generalize C.stN m Y = Z at hZ HT ⊢
          by_cases h1 : Z / 32768 = 1
          · have HE := Lib.hid h1; clear h1
            have d1 : (((Z : Int) / 32768) == 1) = true := by have := HE.out; simp; omega
            go_wp2_with fail
            refine ⟨⟨m + 1, by omega, congrArg (Value.int .u16) ?_, rfl⟩, by simp [intOf]; omega⟩
            rw [HT.out, st1_mod, if_pos HE.out]
            exact xor16 (Z % 32768 * 2) 4129 (by omega) rfl (by omega) (by omega)
          · have HE := Lib.hid h1; clear h1
            have d1 : (((Z : Int) / 32768) == 1) = false := by have := HE.out; simp; omega
            go_wp2_with fail
            refine ⟨⟨m + 1, by omega, congrArg (Value.int .u16) ?_, rfl⟩, by simp [intOf]; omega⟩
            rw [HT.out, st1_mod, if_neg HE.out]
            omega
        · obtain rfl : m = 8 := by omega
          have HQ : Hid (C.stN 8 Y = C.crc 0 (s.data.toList.take (k + 1))) := Lib.hid (by rw [HS.out, HR.out])
          go_wp2_with fail
          refine ⟨⟨k + 1, by omega, by rw [HQ.out], rfl⟩, by simp [intOf]; omega⟩
    · obtain rfl : k = s.size := by omega
      have HF : Hid (C.crc 0 (s.data.toList.take s.size) = C.crc 0 s.data.toList) := Lib.hid (by rw [List.take_of_length_le (by simp)])
      go_wp2_with fail
      go_ret
      exact ⟨by rw [← HF.out]; rfl, rfl⟩
set_option maxRecDepth 100000 in
theorem rcrc_any (s : ByteArray) (w : World) (hs : s.size ≤ 1000000) : Calls Try.prog 58 #[.string s] w fun e w' => e = .returned (.int .u16 (C.crc 0 s.data.toList : Nat)) ∧ w = w' := by
  go_enter Try.func58, Try.ntmps58
  go_wp2_with fail
  refine (rext_any s _ hs).mono ?_
  rintro e w1 ⟨rfl, rfl⟩
  go_wp2_with fail
  go_ret
  exact ⟨rfl, rfl⟩
/-- a slice literal of bytes -/
theorem Rd.lit (w : World) (l : List UInt8) (t : TypeId) (hl : l.length ≤ 140737488351232) : Rd (w.alloc (.cells (bs l).toArray t)) (.slice (some ⟨w.heap.size, 0, none⟩) l.length l.length) l := by
  refine ⟨hl, some ⟨w.heap.size, 0, none⟩, l.length, w.heap.size, 0, rfl, Nat.le_refl _, fun i hi => ⟨rfl, ?_⟩⟩
  rw [Nat.zero_add]
  exact (Bx.new w t (bs l)).cell (bs_get hi)
theorem toNat_ofNat {n : Nat} (h : n < 256) : ((UInt8.ofNat n).toNat : Int) = n := by simp; omega
/-- the bytes of a check -/
def crcB (c : Nat) : List UInt8 := [UInt8.ofNat (c / 256), UInt8.ofNat (c % 256)]
theorem crcB_run (c : Nat) (w : World) (hc : c < 65536) (t : TypeId) : (convert 87 9 (.slice (some ⟨w.heap.size, 0, none⟩) 2 2)).run Try.prog (w.alloc (.cells #[.int .u8 ((c : Int) / 256), .int .u8 ((c : Int) % 256)] t)) = .ok (.string (str (crcB c))) (w.alloc (.cells #[.int .u8 ((c : Int) / 256), .int .u8 ((c : Int) % 256)] t)) := by
  have h := run_str (dst := 9) Try.underlying87 Try.underlying5 Try.underlying9 (Rd.lit w (crcB c) t (by simp [crcB]))
  have e : (bs (crcB c)).toArray = #[.int .u8 ((c : Int) / 256), .int .u8 ((c : Int) % 256)] := by
    simp only [crcB, bs, B, List.map_cons, List.map_nil, toNat_ofNat (show c / 256 < 256 by omega), toNat_ofNat (show c % 256 < 256 by omega)]
    simp
  rw [e] at h
  exact h
set_option maxRecDepth 100000 in
theorem crcbytes_any (c : Nat) (w : World) (hc : c < 65536) : Calls Try.prog 43 #[.int .u16 c] w fun e w' => e = .returned (.string (str (crcB c))) ∧ Below w.heap.size w w' := by
  have hst := crcB_run c w hc 5
  go_enter Try.func43, Try.ntmps43
  go_wp2_with fail
  go_ret
  exact ⟨rfl, (Below.refl _ _).alloc (Nat.le_refl _) _⟩
set_option maxRecDepth 100000 in
theorem rcrcbytes_any (c : Nat) (w : World) (hc : c < 65536) : Calls Try.prog 57 #[.int .u16 c] w fun e w' => e = .returned (.string (str (crcB c))) ∧ Below w.heap.size w w' := by
  have hst := crcB_run c w hc 5
  go_enter Try.func57, Try.ntmps57
  go_wp2_with fail
  go_ret
  exact ⟨rfl, (Below.refl _ _).alloc (Nat.le_refl _) _⟩
/-- the bytes that check the bytes of a frame -/
def chk (s : List UInt8) : List UInt8 := crcB (65535 - C.crc 0 s)
theorem chk_length (s : List UInt8) : (chk s).length = 2 := rfl
theorem not16 {X : Nat} (h : X < 65536) : bits .xor .u16 IntKind.u16.max (X : Int) = ((65535 - X : Nat) : Int) := by
  have e : (65535 : Nat) ^^^ X = 65535 - X := by
    have h2 := congrArg BitVec.toNat (BitVec.xor_allOnes (x := BitVec.ofNat 16 X))
    rw [BitVec.toNat_xor, BitVec.toNat_not, BitVec.toNat_allOnes, BitVec.toNat_ofNat, Nat.mod_eq_of_lt (by omega)] at h2
    rw [Nat.xor_comm]
    simpa using h2
  rw [← e]
  exact u16_xor_nat 65535 X (by omega) h
end Go.Proofs.Ytjnedcncfdpjoaa.W10
