/- Shaken out of XQc XIa -/
import Derived.Test.YtflmjdjkfognjaaGreatTp08
import Derived.Test.YtflmjdjkfognjaaGreatTp01
namespace Go.Proofs.YtflmjdjkfognjaaGreat.W10
open Go.RowKit
set_option linter.unusedVariables false
theorem xor16 {x y : Int} (a b : Nat) (hx : x = a) (hy : y = b) (ha : a < 65536) (hb : b < 65536) : bits .xor .u16 x y = ((a ^^^ b : Nat) : Int) := by
  subst hx; subst hy; exact u16_xor_nat a b ha hb
theorem wrap16 (n : Int) : IntKind.u16.wrap n = n % 65536 := by simp [IntKind.wrap, IntKind.bits, IntKind.signed]
theorem st1_eq {X : Nat} (h : X < 65536) : C.st1 X = if X / 32768 = 1 then (X * 2 % 65536) ^^^ 4129 else X * 2 := by
  unfold C.st1
  by_cases h1 : X / 32768 = 1
  · rw [if_pos h1, if_pos h1, show X % 32768 * 2 = X * 2 % 65536 by omega]
  · rw [if_neg h1, if_neg h1, show X % 32768 * 2 = X * 2 by omega]
set_option maxRecDepth 100000 in
theorem direct1_any (b : Nat) (w : World) (hb : b < 256) : Calls Tryz.prog 239 #[.int .u8 b] w fun e w' => e = .returned (.int .u16 (C.tab b : Nat)) ∧ w = w' := by
  go_enter Tryz.func239, Tryz.ntmps239
  go_wp2_with fail
  go_loop [3, 7] (fun vn vk => ∃ k : Nat, k ≤ 8 ∧ vn = .int .u16 (C.stN k (b * 256) : Nat) ∧ vk = .int .i64 k) (fun _ vk => 8 - (intOf vk).toNat)
  case atStart =>
    refine ⟨0, by omega, congrArg (Value.int .u16) ?_, rfl⟩
    show (b : Int) * 256 = ((b * 256 : Nat) : Int)
    omega
  case round =>
    obtain ⟨k, hk, rfl, rfl⟩ := hrel
    by_cases hlt : k < 8
    · have hX : C.stN k (b * 256) < 65536 := C.stN_lt (by omega) k
      have HS : Hid (C.stN (k + 1) (b * 256) = C.st1 (C.stN k (b * 256))) := Lib.hid rfl
      generalize C.stN k (b * 256) = X at hX HS ⊢
      have Hst := Lib.hid (st1_eq hX)
      by_cases h1 : X / 32768 = 1
      · have HE := Lib.hid h1; clear h1
        have d1 : (((X : Int) / 32768) == 1) = true := by have := HE.out; simp; omega
        go_wp2_with fail
        refine ⟨⟨k + 1, by omega, congrArg (Value.int .u16) ?_, rfl⟩, by simp [intOf]; omega⟩
        rw [HS.out, Hst.out, if_pos HE.out]
        exact xor16 (X * 2 % 65536) 4129 (by rw [wrap16]; omega) rfl (by omega) (by omega)
      · have HE := Lib.hid h1; clear h1
        have d1 : (((X : Int) / 32768) == 1) = false := by have := HE.out; simp; omega
        have hlo : X < 32768 := by have := HE.out; omega
        go_wp2_with fail
        refine ⟨⟨k + 1, by omega, congrArg (Value.int .u16) ?_, rfl⟩, by simp [intOf]; omega⟩
        rw [HS.out, Hst.out, if_neg HE.out]
        omega
    · obtain rfl : k = 8 := by omega
      go_wp2_with fail
      go_ret
      exact ⟨rfl, rfl⟩
/-- the table, filled up to 'k' -/
def zr16 : Array Value := Array.replicate 256 (.int .u16 0)
def tw : Nat → Array Value
  | 0 => zr16
  | k + 1 => (tw k).setIfInBounds k (.int .u16 (C.tab k : Nat))
theorem tw_size : ∀ k, (tw k).size = 256
  | 0 => by simp [tw, zr16]
  | k + 1 => by rw [tw, Array.size_setIfInBounds, tw_size k]
theorem tw_get (k i : Nat) (h : i < k) (hk : k ≤ 256) : (tw k)[i]? = some (.int .u16 (C.tab i : Nat)) := by
  induction k generalizing i with
  | zero => omega
  | succ k ih =>
    rw [tw]
    by_cases e : i = k
    · subst e
      rw [Array.getElem?_setIfInBounds_self_of_lt (by rw [tw_size]; omega)]
    · rw [Array.getElem?_setIfInBounds_ne (by omega)]
      exact ih i (by omega) (by omega)
theorem tw_some (k i : Nat) (h : i < 256) : ∃ v, (tw k)[i]? = some v := by
  have : i < (tw k).size := by rw [tw_size]; exact h
  exact ⟨_, Array.getElem?_eq_getElem this⟩
theorem tw_one (k : Nat) : ∀ v ∈ (tw k), v.oneCell' = true := by
  induction k with
  | zero => intro v hv; simp [tw, zr16] at hv; subst hv; rfl
  | succ k ih =>
    intro v hv
    rcases Array.mem_or_eq_of_mem_setIfInBounds hv with h | h
    · exact ih v h
    · subst h; rfl
theorem zero_16b : ∀ w, (zeroValue 302).run Tryz.prog w = .ok (.agg zr16) w := fun _ => by kernel_rfl
set_option maxRecDepth 100000 in
set_option maxHeartbeats 1000000 in
theorem table_any (w : World) :
    Calls Tryz.prog 238 #[.func (.func 239) #[] #[]] w fun e w' => e = .returned (.agg (tw 256)) ∧ Below w.heap.size w w' := by
  have hz := zero_16b
  go_enter Tryz.func238, Tryz.ntmps238
  go_wp2_with fail
  have h0 : ((w.alloc (.cells zr16 302)).alloc (.cells zr16 302)).heap[w.heap.size]? = some (.cells (tw 0) 302) := heap_alloc2_old _ _ _
  have h1 : ((w.alloc (.cells zr16 302)).alloc (.cells zr16 302)).heap[w.heap.size + 1]? = some (.cells (tw 0) 302) := heap_alloc2_new _ _ _
  have h2 : Below w.heap.size w ((w.alloc (.cells zr16 302)).alloc (.cells zr16 302)) := ((Below.refl _ _).alloc (Nat.le_refl _) _).alloc (by simp) _
  generalize (w.alloc (.cells zr16 302)).alloc (.cells zr16 302) = w1 at h0 h1 h2 ⊢
  clear hz
  go_loopw [5] (fun vk wr => ∃ k : Nat, k ≤ 256 ∧ vk = .int .i64 k ∧ wr.heap[w.heap.size]? = some (.cells zr16 302) ∧ wr.heap[w.heap.size + 1]? = some (.cells (tw k) 302) ∧ Below w.heap.size w wr) (fun vk _ => 256 - (intOf vk).toNat)
  case atStart => exact ⟨0, by omega, rfl, h0, h1, h2⟩
  case round =>
    obtain ⟨k, hk, rfl, g0, g1, g2⟩ := hrel
    clear h0 h1 h2
    by_cases hlt : k < 256
    · obtain ⟨v, hv⟩ := tw_some k k hlt
      have hc : wr.cell? ⟨w.heap.size + 1, k, none⟩ = some v := by rw [cell_of_row wr _ k _ _ _ g1]; exact hv
      have hf := frozen_of_row wr _ k _ _ g1
      clear hv
      have G0 := Lib.hid g0; have G1 := Lib.hid g1; clear g0 g1
      go_wp2_with fail
      refine (direct1_any k _ hlt).mono ?_
      rintro e w' ⟨rfl, rfl⟩
      go_wp2_with fail
      go_roundw
      case rel =>
        refine ⟨k + 1, by omega, by go_num, ?_, ?_, g2.setCell (by simp) _⟩
        · rw [heap_setCell_other _ _ _ _ (by simp)]; exact G0.out
        · exact heap_setCell_same _ _ _ _ _ _ G1.out
      case measure => simp [intOf]; omega
    · obtain rfl : k = 256 := by omega
      have G0 := Lib.hid g0; have G1 := Lib.hid g1; clear g0 g1
      have hi : (Tryz.prog.info? 302).map (·.size) = some (tw 256).size := by rw [tw_size]; kernel_rfl
      have h1 : (tw 256).all (·.oneCell') = true := Array.all_eq_true_iff_forall_mem.2 (tw_one 256)
      go_wp2_with (first | (refine wpList_load_row rfl 302 _ rfl _ rfl 302 _ _ _ G1.out Tryz.underlying302 rfl hi ?_) | (refine wpList_store_row rfl 302 _ _ rfl w.heap.size (tw 256) rfl rfl 302 _ G0.out hi (by simp [zr16, tw_size]) h1 ?_))
      exact bodyPost_ret (v := .agg (tw 256)) (results_cell_row rfl _ _ w.heap.size 302 (tw 256) (0, 0) _ rfl (setRow_heap _ _ _ _ _ _ G0.out) Tryz.underlying302 rfl hi) rfl ⟨rfl, Below.setRow g2 (Nat.le_refl _) _⟩
set_option maxRecDepth 100000 in
set_option maxHeartbeats 1000000 in
theorem direct_any (w : World) :
    Calls Tryz.prog 211 #[] w fun e w' => e = .returned (.agg (tw 256)) ∧ Below w.heap.size w w' := by
  have hz := zero_16b
  go_enter Tryz.func211, Tryz.ntmps211
  go_wp2_with fail
  refine (table_any _).mono ?_
  rintro e w1 ⟨rfl, hb⟩
  have hb1 := ((Below.refl w.heap.size w).alloc (Nat.le_refl _) (.cells zr16 302)).trans (hb.mono (by simp))
  have g0 : w1.heap[w.heap.size]? = some (.cells zr16 302) := (hb.block w.heap.size (by simp)).trans (heap_alloc_new _ _)
  have G0 := Lib.hid g0; clear g0 hz
  have hi : (Tryz.prog.info? 302).map (·.size) = some (tw 256).size := by rw [tw_size]; kernel_rfl
  have h1 : (tw 256).all (·.oneCell') = true := Array.all_eq_true_iff_forall_mem.2 (tw_one 256)
  go_wp2_with (refine wpList_store_row rfl 302 _ _ rfl w.heap.size (tw 256) rfl rfl 302 _ G0.out hi (by simp [zr16, tw_size]) h1 ?_)
  exact bodyPost_ret (v := .agg (tw 256)) (results_cell_row rfl _ _ w.heap.size 302 (tw 256) (0, 0) _ rfl (setRow_heap _ _ _ _ _ _ G0.out) Tryz.underlying302 rfl hi) rfl ⟨rfl, Below.setRow hb1 (Nat.le_refl _) _⟩
/-- a register and its index -/
theorem reg_tab {c : Nat} (hc : c < 65536) (b : UInt8) : C.reg c b = (c * 256 % 65536) ^^^ C.tab (c / 256 ^^^ b.toNat) := by
  have hb := b.toNat_lt
  unfold C.reg
  have hx : c ^^^ b.toNat * 256 < 65536 := Nat.xor_lt_two_pow (n := 16) (by omega) (by omega)
  rw [C.split8 hx]
  have e1 : (c ^^^ b.toNat * 256) % 256 = c % 256 := by
    have := Nat.xor_mod_two_pow (a := c) (b := b.toNat * 256) (n := 8)
    simp only [Nat.reducePow] at this
    rw [this, show b.toNat * 256 % 256 = 0 by omega, Nat.xor_zero]
  have e2 : (c ^^^ b.toNat * 256) / 256 = c / 256 ^^^ b.toNat := by
    have := Nat.xor_div_two_pow (a := c) (b := b.toNat * 256) (n := 8)
    simp only [Nat.reducePow] at this
    rw [this, Nat.mul_div_cancel _ (by omega)]
  rw [e1, e2, show c % 256 * 256 = c * 256 % 65536 by omega]
theorem crc_take (s : ByteArray) (k : Nat) (h : k < s.size) : C.crc 0 (s.data.toList.take (k + 1)) = C.reg (C.crc 0 (s.data.toList.take k)) s[k] := by
  rw [← C.crc_snoc, List.take_succ_eq_append_getElem (by simpa using h)]; rfl
set_option maxRecDepth 100000 in
set_option maxHeartbeats 1000000 in
theorem ext_any (s : ByteArray) (w : World) (hs : s.size ≤ 1000000) : Calls Tryz.prog 169 #[.int .u16 0, .string s] w fun e w' => e = .returned (.int .u16 (C.crc 0 s.data.toList : Nat)) ∧ Below w.heap.size w w' := by
  have hz := zero_16b
  go_enter Tryz.func169, Tryz.ntmps169
  go_wp2_with fail
  refine (direct_any _).mono ?_
  rintro e w1 ⟨rfl, hb⟩
  have hi : (Tryz.prog.info? 302).map (·.size) = some (tw 256).size := by rw [tw_size]; kernel_rfl
  have h1 : (tw 256).all (·.oneCell') = true := Array.all_eq_true_iff_forall_mem.2 (tw_one 256)
  go_wp2_with (refine wpList_store_row rfl 302 _ _ rfl w1.heap.size (tw 256) rfl rfl 302 _ (heap_alloc_new _ _) hi (by simp [zr16, tw_size]) h1 ?_)
  have hT : ((w1.alloc (.cells zr16 302)).setRow w1.heap.size (tw 256)).heap[w1.heap.size]? = some (.cells (tw 256) 302) := setRow_heap _ _ _ _ _ _ (heap_alloc_new _ _)
  have hb2 : Below w.heap.size w ((w1.alloc (.cells zr16 302)).setRow w1.heap.size (tw 256)) := Below.setRow (hb.alloc hb.size _) hb.size _
  generalize (w1.alloc (.cells zr16 302)).setRow w1.heap.size (tw 256) = w2 at hT hb2 ⊢
  obtain ⟨g, hg⟩ : ∃ g, g = w1.heap.size := ⟨_, rfl⟩
  rw [← hg] at hT
  simp only [← hg]
  clear hz h1 hi hb hg
  have HT := Lib.hid hT; clear hT
  go_loop [0, 10] (fun vc vk => ∃ k : Nat, k ≤ s.size ∧ vc = .int .u16 (C.crc 0 (s.data.toList.take k) : Nat) ∧ vk = .int .i64 k) (fun _ vk => s.size - (intOf vk).toNat)
  case atStart => exact ⟨0, by omega, rfl, rfl⟩
  case round =>
    obtain ⟨k, hk, rfl, rfl⟩ := hrel
    have hX : C.crc 0 (s.data.toList.take k) < 65536 := C.crc_lt (by omega) _
    by_cases hlt : k < s.size
    · have HS := Lib.hid (crc_take s k hlt)
      generalize C.crc 0 (s.data.toList.take k) = X at hX HS ⊢
      have HR := Lib.hid (reg_tab hX s[k])
      have hcb := s[k].toNat_lt
      have hj : X / 256 ^^^ s[k].toNat < 256 := Nat.xor_lt_two_pow (n := 8) (by omega) (by omega)
      have hbx : bits .xor .u8 ((X : Int) / 256) (s[k].toNat : Int) = ((X / 256 ^^^ s[k].toNat : Nat) : Int) := u8_xor_nat (X / 256) s[k].toNat (by omega) hcb
      have hcell : w2.cell? ⟨g, X / 256 ^^^ s[k].toNat, none⟩ = some (.int .u16 (C.tab (X / 256 ^^^ s[k].toNat) : Nat)) := by rw [cell_of_row w2 _ _ _ _ _ HT.out]; exact tw_get 256 _ hj (by omega)
      generalize X / 256 ^^^ s[k].toNat = j at hj hbx hcell HR
      have HJ := Lib.hid hj
      go_wp2_with fail
      refine ⟨⟨k + 1, by omega, congrArg (Value.int .u16) ?_, rfl⟩, by simp [intOf]; omega⟩
      rw [HS.out, HR.out]
      exact xor16 (X * 256 % 65536) (C.tab j) (by first | (rw [wrap16]; omega) | omega) rfl (by omega) (C.stN_lt (by have := HJ.out; omega) 8)
    · obtain rfl : k = s.size := by omega
      have HF : Hid (C.crc 0 (s.data.toList.take s.size) = C.crc 0 s.data.toList) := Lib.hid (by rw [List.take_of_length_le (by simp)])
      go_wp2_with fail
      go_ret
      exact ⟨by rw [← HF.out]; rfl, hb2⟩
set_option maxRecDepth 100000 in
theorem crc_any (s : ByteArray) (w : World) (hs : s.size ≤ 1000000) : Calls Tryz.prog 117 #[.string s] w fun e w' => e = .returned (.int .u16 (C.crc 0 s.data.toList : Nat)) ∧ Below w.heap.size w w' := by
  go_enter Tryz.func117, Tryz.ntmps117
  go_wp2_with fail
  refine (ext_any s _ hs).mono ?_
  rintro e w1 ⟨rfl, hb⟩
  go_wp2_with fail
  go_ret
  exact ⟨rfl, hb⟩
/-- a slice literal of bytes -/
theorem Rd.lit (w : World) (l : List UInt8) (t : TypeId) (hl : l.length ≤ 140737488351232) : Rd (w.alloc (.cells (bs l).toArray t)) (.slice (some ⟨w.heap.size, 0, none⟩) l.length l.length) l := by
  refine ⟨hl, some ⟨w.heap.size, 0, none⟩, l.length, w.heap.size, 0, rfl, Nat.le_refl _, fun i hi => ⟨rfl, ?_⟩⟩
  rw [Nat.zero_add]
  exact (Bx.new w t (bs l)).cell (bs_get hi)
theorem toNat_ofNat {n : Nat} (h : n < 256) : ((UInt8.ofNat n).toNat : Int) = n := by simp; omega
/-- the bytes of a check -/
def crcB (c : Nat) : List UInt8 := [UInt8.ofNat (c / 256), UInt8.ofNat (c % 256)]
theorem crcB_run (c : Nat) (w : World) (hc : c < 65536) (t : TypeId) : (convert 123 9 (.slice (some ⟨w.heap.size, 0, none⟩) 2 2)).run Tryz.prog (w.alloc (.cells #[.int .u8 ((c : Int) / 256), .int .u8 ((c : Int) % 256)] t)) = .ok (.string (str (crcB c))) (w.alloc (.cells #[.int .u8 ((c : Int) / 256), .int .u8 ((c : Int) % 256)] t)) := by
  have h := run_str (dst := 9) Tryz.underlying123 Tryz.underlying5 Tryz.underlying9 (Rd.lit w (crcB c) t (by simp [crcB]))
  have e : (bs (crcB c)).toArray = #[.int .u8 ((c : Int) / 256), .int .u8 ((c : Int) % 256)] := by
    simp only [crcB, bs, B, List.map_cons, List.map_nil, toNat_ofNat (show c / 256 < 256 by omega), toNat_ofNat (show c % 256 < 256 by omega)]
    simp
  rw [e] at h
  exact h
set_option maxRecDepth 100000 in
theorem crcbytes_any (c : Nat) (w : World) (hc : c < 65536) : Calls Tryz.prog 116 #[.int .u16 c] w fun e w' => e = .returned (.string (str (crcB c))) ∧ Below w.heap.size w w' := by
  have hst := crcB_run c w hc 5
  go_enter Tryz.func116, Tryz.ntmps116
  go_wp2_with fail
  go_ret
  exact ⟨rfl, (Below.refl _ _).alloc (Nat.le_refl _) _⟩
/-- the bytes that check the bytes of a frame -/
def chk (s : List UInt8) : List UInt8 := crcB (65535 - C.crc 0 s)
theorem not16 {X : Nat} (h : X < 65536) : bits .xor .u16 IntKind.u16.max (X : Int) = ((65535 - X : Nat) : Int) := by
  have e : (65535 : Nat) ^^^ X = 65535 - X := by
    have h2 := congrArg BitVec.toNat (BitVec.xor_allOnes (x := BitVec.ofNat 16 X))
    rw [BitVec.toNat_xor, BitVec.toNat_not, BitVec.toNat_allOnes, BitVec.toNat_ofNat, Nat.mod_eq_of_lt (by omega)] at h2
    rw [Nat.xor_comm]
    simpa using h2
  rw [← e]
  exact u16_xor_nat 65535 X (by omega) h
set_option maxRecDepth 100000 in
theorem check_any (s : ByteArray) (w : World) (hs : s.size ≤ 1000000) : Calls Tryz.prog 50 #[.string s] w fun e w' => e = .returned (.string (str (chk s.data.toList))) ∧ Below w.heap.size w w' := by
  have hX : C.crc 0 s.data.toList < 65536 := C.crc_lt (by omega) _
  have HC : Hid (chk s.data.toList = crcB (65535 - C.crc 0 s.data.toList)) := Lib.hid rfl
  rw [HC.out]
  have HR := Lib.hid (crc_any s w hs)
  generalize C.crc 0 s.data.toList = X at hX HC HR ⊢
  go_enter Tryz.func50, Tryz.ntmps50
  go_wp2_with fail
  refine HR.out.mono ?_
  rintro e w1 ⟨rfl, hb⟩
  have hx : bits .xor .u16 IntKind.u16.max (X : Int) = ((65535 - X : Nat) : Int) := not16 hX
  have HB := Lib.hid (crcbytes_any (65535 - X) w1 (by omega))
  go_wp2_with fail
  refine HB.out.mono ?_
  rintro e w2 ⟨rfl, hb2⟩
  go_wp2_with fail
  go_ret
  exact ⟨rfl, hb.trans (hb2.mono hb.size)⟩
end Go.Proofs.YtflmjdjkfognjaaGreat.W10
namespace Go.Proofs.YtflmjdjkfognjaaGreat.T7
open Go.RowKit W10
set_option linter.unusedVariables false
def es1 (n : Nat) : Nat := if n % 2 = 1 then (n / 2) ^^^ 3623976961 else n / 2
def esN : Nat → Nat → Nat
  | 0, n => n
  | k + 1, n => es1 (esN k n)
theorem es1_lt {n : Nat} (h : n < 4294967296) : es1 n < 4294967296 := by
  unfold es1
  split
  · exact Nat.xor_lt_two_pow (n := 32) (by omega) (by omega)
  · omega
theorem esN_lt {n : Nat} (h : n < 4294967296) : ∀ k, esN k n < 4294967296
  | 0 => h
  | k + 1 => es1_lt (esN_lt h k)
def etab (b : Nat) : Nat := esN 8 b
theorem etab_lt {b : Nat} (h : b < 256) : etab b < 4294967296 := esN_lt (by omega) 8
def ereg (c : Nat) (b : UInt8) : Nat := (c / 256) ^^^ etab ((c % 256) ^^^ b.toNat)
theorem xor256 {a b : Nat} (ha : a < 256) (hb : b < 256) : a ^^^ b < 256 := Nat.xor_lt_two_pow (n := 8) (by omega) (by omega)
theorem ereg_lt {c : Nat} (h : c < 4294967296) (b : UInt8) : ereg c b < 4294967296 :=
  Nat.xor_lt_two_pow (n := 32) (by omega) (etab_lt (xor256 (by omega) b.toNat_lt))
/-- the code of bytes behind a register -/
def edc (c : Nat) (s : List UInt8) : Nat := s.foldl ereg c
theorem edc_lt {c : Nat} (h : c < 4294967296) : ∀ s : List UInt8, edc c s < 4294967296
  | [] => h
  | b :: s => edc_lt (ereg_lt h b) s
theorem edc_snoc (c : Nat) (s : List UInt8) (b : UInt8) : edc c (s ++ [b]) = ereg (edc c s) b := by simp [edc]
theorem edc_take (s : ByteArray) (k : Nat) (h : k < s.size) : edc 0 (s.data.toList.take (k + 1)) = ereg (edc 0 (s.data.toList.take k)) s[k] := by
  rw [← edc_snoc, List.take_succ_eq_append_getElem (by simpa using h)]; rfl
theorem and1_32 {X : Nat} (h : X < 4294967296) : bits .and .u32 (X : Int) 1 = ((X % 2 : Nat) : Int) := by
  have e := u32_and_nat X 1 h (by omega)
  rw [Nat.and_one_is_mod] at e
  exact e
set_option maxRecDepth 100000 in
theorem reflected1_any (b : Nat) (w : World) (hb : b < 256) : Calls Tryz.prog 271 #[.int .u8 b] w fun e w' => e = .returned (.int .u32 (etab b : Nat)) ∧ w = w' := by
  go_enter Tryz.func271, Tryz.ntmps271
  go_wp2_with fail
  go_loop [3, 6] (fun vn vk => ∃ k : Nat, k ≤ 8 ∧ vn = .int .u32 (esN k b : Nat) ∧ vk = .int .i64 k) (fun _ vk => 8 - (intOf vk).toNat)
  case atStart => exact ⟨0, by omega, rfl, rfl⟩
  case round =>
    obtain ⟨k, hk, rfl, rfl⟩ := hrel
    by_cases hlt : k < 8
    · have hX : esN k b < 4294967296 := esN_lt (by omega) k
      have HS : Hid (esN (k + 1) b = es1 (esN k b)) := Lib.hid rfl
      generalize esN k b = X at hX HS ⊢
      have hand := and1_32 hX
      have HU : Hid (es1 X = if X % 2 = 1 then (X / 2) ^^^ 3623976961 else X / 2) := Lib.hid rfl
      by_cases h1 : X % 2 = 1
      · have HE := Lib.hid h1; clear h1
        have d1 : (((X % 2 : Nat) : Int) == 1) = true := by have := HE.out; simp; omega
        have d2 : (((X : Int) % 2) == 1) = true := by have := HE.out; simp; omega
        go_wp2_with fail
        refine ⟨⟨k + 1, by omega, congrArg (Value.int .u32) ?_, rfl⟩, by simp [intOf]; omega⟩
        rw [HS.out, HU.out, if_pos HE.out]
        exact u32_xor_nat (X / 2) 3623976961 (by omega) (by omega)
      · have HE := Lib.hid h1; clear h1
        have d1 : (((X % 2 : Nat) : Int) == 1) = false := by have := HE.out; simp; omega
        have d2 : (((X : Int) % 2) == 1) = false := by have := HE.out; simp; omega
        go_wp2_with fail
        refine ⟨⟨k + 1, by omega, congrArg (Value.int .u32) ?_, rfl⟩, by simp [intOf]; omega⟩
        rw [HS.out, HU.out, if_neg HE.out]
        omega
    · obtain rfl : k = 8 := by omega
      go_wp2_with fail
      go_ret
      exact ⟨rfl, rfl⟩
/-- the table, filled up to 'k' -/
def zr32 : Array Value := Array.replicate 256 (.int .u32 0)
def te : Nat → Array Value
  | 0 => zr32
  | k + 1 => (te k).setIfInBounds k (.int .u32 (etab k : Nat))
theorem te_size : ∀ k, (te k).size = 256
  | 0 => by simp [te, zr32]
  | k + 1 => by rw [te, Array.size_setIfInBounds, te_size k]
theorem te_get (k i : Nat) (h : i < k) (hk : k ≤ 256) : (te k)[i]? = some (.int .u32 (etab i : Nat)) := by
  induction k generalizing i with
  | zero => omega
  | succ k ih =>
    rw [te]
    by_cases e : i = k
    · subst e
      rw [Array.getElem?_setIfInBounds_self_of_lt (by rw [te_size]; omega)]
    · rw [Array.getElem?_setIfInBounds_ne (by omega)]
      exact ih i (by omega) (by omega)
theorem te_some (k i : Nat) (h : i < 256) : ∃ v, (te k)[i]? = some v := by
  have : i < (te k).size := by rw [te_size]; exact h
  exact ⟨_, Array.getElem?_eq_getElem this⟩
theorem te_one (k : Nat) : ∀ v ∈ (te k), v.oneCell' = true := by
  induction k with
  | zero => intro v hv; simp [te, zr32] at hv; subst hv; rfl
  | succ k ih =>
    intro v hv
    rcases Array.mem_or_eq_of_mem_setIfInBounds hv with h | h
    · exact ih v h
    · subst h; rfl
theorem zero_32b : ∀ w, (zeroValue 333).run Tryz.prog w = .ok (.agg zr32) w := fun _ => by kernel_rfl
set_option maxRecDepth 100000 in
set_option maxHeartbeats 1000000 in
theorem etable_any (w : World) :
    Calls Tryz.prog 270 #[.func (.func 271) #[] #[]] w fun e w' => e = .returned (.agg (te 256)) ∧ Below w.heap.size w w' := by
  have hz := zero_32b
  go_enter Tryz.func270, Tryz.ntmps270
  go_wp2_with fail
  have h0 : ((w.alloc (.cells zr32 333)).alloc (.cells zr32 333)).heap[w.heap.size]? = some (.cells (te 0) 333) := heap_alloc2_old _ _ _
  have h1 : ((w.alloc (.cells zr32 333)).alloc (.cells zr32 333)).heap[w.heap.size + 1]? = some (.cells (te 0) 333) := heap_alloc2_new _ _ _
  have h2 : Below w.heap.size w ((w.alloc (.cells zr32 333)).alloc (.cells zr32 333)) := ((Below.refl _ _).alloc (Nat.le_refl _) _).alloc (by simp) _
  generalize (w.alloc (.cells zr32 333)).alloc (.cells zr32 333) = w1 at h0 h1 h2 ⊢
  clear hz
  go_loopw [5] (fun vk wr => ∃ k : Nat, k ≤ 256 ∧ vk = .int .i64 k ∧ wr.heap[w.heap.size]? = some (.cells zr32 333) ∧ wr.heap[w.heap.size + 1]? = some (.cells (te k) 333) ∧ Below w.heap.size w wr) (fun vk _ => 256 - (intOf vk).toNat)
  case atStart => exact ⟨0, by omega, rfl, h0, h1, h2⟩
  case round =>
    obtain ⟨k, hk, rfl, g0, g1, g2⟩ := hrel
    clear h0 h1 h2
    by_cases hlt : k < 256
    · obtain ⟨v, hv⟩ := te_some k k hlt
      have hc : wr.cell? ⟨w.heap.size + 1, k, none⟩ = some v := by rw [cell_of_row wr _ k _ _ _ g1]; exact hv
      have hf := frozen_of_row wr _ k _ _ g1
      clear hv
      have G0 := Lib.hid g0; have G1 := Lib.hid g1; clear g0 g1
      go_wp2_with fail
      refine (reflected1_any k _ hlt).mono ?_
      rintro e w' ⟨rfl, rfl⟩
      go_wp2_with fail
      go_roundw
      case rel =>
        refine ⟨k + 1, by omega, by go_num, ?_, ?_, g2.setCell (by simp) _⟩
        · rw [heap_setCell_other _ _ _ _ (by simp)]; exact G0.out
        · exact heap_setCell_same _ _ _ _ _ _ G1.out
      case measure => simp [intOf]; omega
    · obtain rfl : k = 256 := by omega
      have G0 := Lib.hid g0; have G1 := Lib.hid g1; clear g0 g1
      have hi : (Tryz.prog.info? 333).map (·.size) = some (te 256).size := by rw [te_size]; kernel_rfl
      have h1 : (te 256).all (·.oneCell') = true := Array.all_eq_true_iff_forall_mem.2 (te_one 256)
      go_wp2_with (first | (refine wpList_load_row rfl 333 _ rfl _ rfl 333 _ _ _ G1.out Tryz.underlying333 rfl hi ?_) | (refine wpList_store_row rfl 333 _ _ rfl w.heap.size (te 256) rfl rfl 333 _ G0.out hi (by simp [zr32, te_size]) h1 ?_))
      exact bodyPost_ret (v := .agg (te 256)) (results_cell_row rfl _ _ w.heap.size 333 (te 256) (0, 0) _ rfl (setRow_heap _ _ _ _ _ _ G0.out) Tryz.underlying333 rfl hi) rfl ⟨rfl, Below.setRow g2 (Nat.le_refl _) _⟩
set_option maxRecDepth 100000 in
set_option maxHeartbeats 1000000 in
theorem reflected_any (w : World) :
    Calls Tryz.prog 250 #[] w fun e w' => e = .returned (.agg (te 256)) ∧ Below w.heap.size w w' := by
  have hz := zero_32b
  go_enter Tryz.func250, Tryz.ntmps250
  go_wp2_with fail
  refine (etable_any _).mono ?_
  rintro e w1 ⟨rfl, hb⟩
  have hb1 := ((Below.refl w.heap.size w).alloc (Nat.le_refl _) (.cells zr32 333)).trans (hb.mono (by simp))
  have g0 : w1.heap[w.heap.size]? = some (.cells zr32 333) := (hb.block w.heap.size (by simp)).trans (heap_alloc_new _ _)
  have G0 := Lib.hid g0; clear g0 hz
  have hi : (Tryz.prog.info? 333).map (·.size) = some (te 256).size := by rw [te_size]; kernel_rfl
  have h1 : (te 256).all (·.oneCell') = true := Array.all_eq_true_iff_forall_mem.2 (te_one 256)
  go_wp2_with (refine wpList_store_row rfl 333 _ _ rfl w.heap.size (te 256) rfl rfl 333 _ G0.out hi (by simp [zr32, te_size]) h1 ?_)
  exact bodyPost_ret (v := .agg (te 256)) (results_cell_row rfl _ _ w.heap.size 333 (te 256) (0, 0) _ rfl (setRow_heap _ _ _ _ _ _ G0.out) Tryz.underlying333 rfl hi) rfl ⟨rfl, Below.setRow hb1 (Nat.le_refl _) _⟩
set_option maxRecDepth 100000 in
set_option maxHeartbeats 1000000 in
theorem eext_any (s : ByteArray) (w : World) (hs : s.size ≤ 1000000) : Calls Tryz.prog 228 #[.int .u32 0, .string s] w fun e w' => e = .returned (.int .u32 (edc 0 s.data.toList : Nat)) ∧ Below w.heap.size w w' := by
  have hz := zero_32b
  go_enter Tryz.func228, Tryz.ntmps228
  go_wp2_with fail
  refine (reflected_any _).mono ?_
  rintro e w1 ⟨rfl, hb⟩
  have hi : (Tryz.prog.info? 333).map (·.size) = some (te 256).size := by rw [te_size]; kernel_rfl
  have h1 : (te 256).all (·.oneCell') = true := Array.all_eq_true_iff_forall_mem.2 (te_one 256)
  go_wp2_with (refine wpList_store_row rfl 333 _ _ rfl w1.heap.size (te 256) rfl rfl 333 _ (heap_alloc_new _ _) hi (by simp [zr32, te_size]) h1 ?_)
  have hT : ((w1.alloc (.cells zr32 333)).setRow w1.heap.size (te 256)).heap[w1.heap.size]? = some (.cells (te 256) 333) := setRow_heap _ _ _ _ _ _ (heap_alloc_new _ _)
  have hb2 : Below w.heap.size w ((w1.alloc (.cells zr32 333)).setRow w1.heap.size (te 256)) := Below.setRow (hb.alloc hb.size _) hb.size _
  generalize (w1.alloc (.cells zr32 333)).setRow w1.heap.size (te 256) = w2 at hT hb2 ⊢
  obtain ⟨g, hg⟩ : ∃ g, g = w1.heap.size := ⟨_, rfl⟩
  rw [← hg] at hT
  simp only [← hg]
  clear hz h1 hi hb hg
  have HT := Lib.hid hT; clear hT
  go_loop [0, 10] (fun vc vk => ∃ k : Nat, k ≤ s.size ∧ vc = .int .u32 (edc 0 (s.data.toList.take k) : Nat) ∧ vk = .int .i64 k) (fun _ vk => s.size - (intOf vk).toNat)
  case atStart => exact ⟨0, by omega, rfl, rfl⟩
  case round =>
    obtain ⟨k, hk, rfl, rfl⟩ := hrel
    have hX : edc 0 (s.data.toList.take k) < 4294967296 := edc_lt (by omega) _
    by_cases hlt : k < s.size
    · have HS := Lib.hid (edc_take s k hlt)
      generalize edc 0 (s.data.toList.take k) = X at hX HS ⊢
      have HR : Hid (ereg X s[k] = (X / 256) ^^^ etab ((X % 256) ^^^ s[k].toNat)) := Lib.hid rfl
      have hcb := s[k].toNat_lt
      have hj : X % 256 ^^^ s[k].toNat < 256 := xor256 (by omega) hcb
      have hbx : bits .xor .u8 ((X : Int) % 256) (s[k].toNat : Int) = ((X % 256 ^^^ s[k].toNat : Nat) : Int) := u8_xor_nat (X % 256) s[k].toNat (by omega) hcb
      have hcell : w2.cell? ⟨g, X % 256 ^^^ s[k].toNat, none⟩ = some (.int .u32 (etab (X % 256 ^^^ s[k].toNat) : Nat)) := by rw [cell_of_row w2 _ _ _ _ _ HT.out]; exact te_get 256 _ hj (by omega)
      generalize X % 256 ^^^ s[k].toNat = j at hj hbx hcell HR
      have HJ := Lib.hid hj
      go_wp2_with fail
      refine ⟨⟨k + 1, by omega, congrArg (Value.int .u32) ?_, rfl⟩, by simp [intOf]; omega⟩
      rw [HS.out, HR.out]
      exact u32_xor_nat (X / 256) (etab j) (by omega) (etab_lt HJ.out)
    · obtain rfl : k = s.size := by omega
      have HF : Hid (edc 0 (s.data.toList.take s.size) = edc 0 s.data.toList) := Lib.hid (by rw [List.take_of_length_le (by simp)])
      go_wp2_with fail
      go_ret
      exact ⟨by rw [← HF.out]; rfl, hb2⟩
set_option maxRecDepth 100000 in
theorem edc_any (s : ByteArray) (w : World) (hs : s.size ≤ 1000000) : Calls Tryz.prog 194 #[.string s] w fun e w' => e = .returned (.int .u32 (edc 0 s.data.toList : Nat)) ∧ Below w.heap.size w w' := by
  go_enter Tryz.func194, Tryz.ntmps194
  go_wp2_with fail
  refine (eext_any s _ hs).mono ?_
  rintro e w1 ⟨rfl, hb⟩
  go_wp2_with fail
  go_ret
  exact ⟨rfl, hb⟩
/-- the bytes of a code -/
def edcB (c : Nat) : List UInt8 := [UInt8.ofNat (c % 256), UInt8.ofNat (c / 256 % 256), UInt8.ofNat (c / 65536 % 256), UInt8.ofNat (c / 16777216)]
theorem edcB_run (c : Nat) (hc : c < 4294967296) (w : World) (t : TypeId) : (convert 123 9 (.slice (some ⟨w.heap.size, 0, none⟩) 4 4)).run Tryz.prog (w.alloc (.cells #[.int .u8 ((c : Int) % 256), .int .u8 ((c : Int) / 256 % 256), .int .u8 ((c : Int) / 65536 % 256), .int .u8 ((c : Int) / 16777216)] t)) = .ok (.string (str (edcB c))) (w.alloc (.cells #[.int .u8 ((c : Int) % 256), .int .u8 ((c : Int) / 256 % 256), .int .u8 ((c : Int) / 65536 % 256), .int .u8 ((c : Int) / 16777216)] t)) := by
  have h := run_str (dst := 9) Tryz.underlying123 Tryz.underlying5 Tryz.underlying9 (Rd.lit w (edcB c) t (by simp [edcB]))
  have e : (bs (edcB c)).toArray = #[.int .u8 ((c : Int) % 256), .int .u8 ((c : Int) / 256 % 256), .int .u8 ((c : Int) / 65536 % 256), .int .u8 ((c : Int) / 16777216)] := by
    simp only [edcB, bs, B, List.map_cons, List.map_nil, toNat_ofNat (show c % 256 < 256 by omega), toNat_ofNat (show c / 256 % 256 < 256 by omega), toNat_ofNat (show c / 65536 % 256 < 256 by omega), toNat_ofNat (show c / 16777216 < 256 by omega)]
    simp
  rw [e] at h
  exact h
set_option maxRecDepth 100000 in
theorem edcbytes_any (c : Nat) (w : World) (hc : c < 4294967296) : Calls Tryz.prog 193 #[.int .u32 c] w fun e w' => e = .returned (.string (str (edcB c))) ∧ Below w.heap.size w w' := by
  have hst := edcB_run c hc w 5
  go_enter Tryz.func193, Tryz.ntmps193
  go_wp2_with fail

  go_ret
  exact ⟨rfl, (Below.refl _ _).alloc (Nat.le_refl _) _⟩
end Go.Proofs.YtflmjdjkfognjaaGreat.T7
