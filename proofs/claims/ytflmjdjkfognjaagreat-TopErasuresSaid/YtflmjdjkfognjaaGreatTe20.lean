/- Parts: XQd XQc XIa XGiw -/
import Derived.Test.YtflmjdjkfognjaaGreatChecked
import Derived.Test.YtflmjdjkfognjaaGreatTe06
import Derived.Test.YtflmjdjkfognjaaGreatTe19
import Derived.Test.YtflmjdjkfognjaaGreatTe04
import Derived.Laws.StructEq
import Derived.IntWalk
import Derived.Deep.Cut
import Derived.Deep.RegionHeld3
import Derived.Outline
import Derived.Test.YtflmjdjkfognjaaGreatTe17
namespace Go.Proofs.YtflmjdjkfognjaaGreat.W10
open Go.RowKit
set_option linter.unusedVariables false
def RB (b : Bool) (w : World) (e : Ending) (w' : World) : Prop := e = .returned (.bool b) ∧ Below w.heap.size w w'
def tcs (x : T.Trk) : List Value := [.int .i64 x.num, .int .i64 x.ses, .int .i64 x.st, .int .i64 x.len, .int .i64 x.nx, .int .i64 x.sta, .int .i64 x.pk]
def RdK (w : World) (v : Value) (l : List T.Trk) : Prop := RdD T.z tcs 7 w v l
theorem RdK.keep {w w' : World} {v : Value} {l : List T.Trk} (h : RdK w v l) (hb : Below w.heap.size w w') : RdK w' v l := RdS.keep h hb
theorem RdK.cells {w : World} {a : Option Addr} {n c : Nat} {l : List T.Trk} (h : RdK w (.slice a n c) l) : ∃ b off, ∀ i, i < l.length → a = some ⟨b, off, none⟩ ∧ w.rangeAt b (off + i * 7) (tcs (T.tr l i)) := RdD.at h
def btw (n a b : Int) : Bool := decide (a ≤ n ∧ n ≤ b)
end Go.Proofs.YtflmjdjkfognjaaGreat.W10
namespace Go.Proofs.YtflmjdjkfognjaaGreat.W10
open Go.RowKit
set_option linter.unusedVariables false
theorem Rd.lit (w : World) (l : List UInt8) (t : TypeId) (hl : l.length ≤ 140737488351232) : Rd (w.alloc (.cells (bs l).toArray t)) (.slice (some ⟨w.heap.size, 0, none⟩) l.length l.length) l := by
  refine ⟨hl, some ⟨w.heap.size, 0, none⟩, l.length, w.heap.size, 0, rfl, Nat.le_refl _, fun i hi => ⟨rfl, ?_⟩⟩
  rw [Nat.zero_add]
  exact (Bx.new w t (bs l)).cell (bs_get hi)
theorem toNat_ofNat {n : Nat} (h : n < 256) : ((UInt8.ofNat n).toNat : Int) = n := by simp; omega
def crcB (c : Nat) : List UInt8 := [UInt8.ofNat (c / 256), UInt8.ofNat (c % 256)]
def chk (s : List UInt8) : List UInt8 := crcB (65535 - C.crc 0 s)
end Go.Proofs.YtflmjdjkfognjaaGreat.W10
namespace Go.Proofs.YtflmjdjkfognjaaGreat.T7
open Go.RowKit W10
set_option linter.unusedVariables false
def es1 (n : Nat) : Nat := if n % 2 = 1 then (n / 2) ^^^ 3623976961 else n / 2
def esN : Nat → Nat → Nat
  | 0, n => n
  | k + 1, n => es1 (esN k n)
theorem es1_lt {n : Nat} (h : n < 4294967296) : es1 n < 4294967296 := by
  unfold es1
  split
  · exact Nat.xor_lt_two_pow (n := 32) (by omega) (by omega)
  · omega
theorem esN_lt {n : Nat} (h : n < 4294967296) : ∀ k, esN k n < 4294967296
  | 0 => h
  | k + 1 => es1_lt (esN_lt h k)
def etab (b : Nat) : Nat := esN 8 b
theorem etab_lt {b : Nat} (h : b < 256) : etab b < 4294967296 := esN_lt (by omega) 8
def ereg (c : Nat) (b : UInt8) : Nat := (c / 256) ^^^ etab ((c % 256) ^^^ b.toNat)
theorem xor256 {a b : Nat} (ha : a < 256) (hb : b < 256) : a ^^^ b < 256 := Nat.xor_lt_two_pow (n := 8) (by omega) (by omega)
theorem ereg_lt {c : Nat} (h : c < 4294967296) (b : UInt8) : ereg c b < 4294967296 :=
  Nat.xor_lt_two_pow (n := 32) (by omega) (etab_lt (xor256 (by omega) b.toNat_lt))
def edc (c : Nat) (s : List UInt8) : Nat := s.foldl ereg c
theorem edc_lt {c : Nat} (h : c < 4294967296) : ∀ s : List UInt8, edc c s < 4294967296
  | [] => h
  | b :: s => edc_lt (ereg_lt h b) s
theorem edc_snoc (c : Nat) (s : List UInt8) (b : UInt8) : edc c (s ++ [b]) = ereg (edc c s) b := by simp [edc]
theorem edc_take (s : ByteArray) (k : Nat) (h : k < s.size) : edc 0 (s.data.toList.take (k + 1)) = ereg (edc 0 (s.data.toList.take k)) s[k] := by
  rw [← edc_snoc, List.take_succ_eq_append_getElem (by simpa using h)]; rfl
theorem and1_32 {X : Nat} (h : X < 4294967296) : bits .and .u32 (X : Int) 1 = ((X % 2 : Nat) : Int) := by
  have e := u32_and_nat X 1 h (by omega)
  rw [Nat.and_one_is_mod] at e
  exact e
set_option maxRecDepth 100000 in
theorem reflected1_any (b : Nat) (w : World) (hb : b < 256) : Calls Tryz.prog 271 #[.int .u8 b] w fun e w' => e = .returned (.int .u32 (etab b : Nat)) ∧ w = w' := by
  go_enter Tryz.func271, Tryz.ntmps271
  go_wp2_with fail
  go_loop [3, 6] (fun vn vk => ∃ k : Nat, k ≤ 8 ∧ vn = .int .u32 (esN k b : Nat) ∧ vk = .int .i64 k) (fun _ vk => 8 - (intOf vk).toNat)
  case atStart => exact ⟨0, by omega, rfl, rfl⟩
  case round =>
    obtain ⟨k, hk, rfl, rfl⟩ := hrel
    by_cases hlt : k < 8
    · have hX : esN k b < 4294967296 := esN_lt (by omega) k
      have HS : Hid (esN (k + 1) b = es1 (esN k b)) := Lib.hid rfl
      generalize esN k b = X at hX HS ⊢
      have hand := and1_32 hX
      have HU : Hid (es1 X = if X % 2 = 1 then (X / 2) ^^^ 3623976961 else X / 2) := Lib.hid rfl
      by_cases h1 : X % 2 = 1
      · have HE := Lib.hid h1; clear h1
        have d1 : (((X % 2 : Nat) : Int) == 1) = true := by have := HE.out; simp; omega
        have d2 : (((X : Int) % 2) == 1) = true := by have := HE.out; simp; omega
        go_wp2_with fail
        refine ⟨⟨k + 1, by omega, congrArg (Value.int .u32) ?_, rfl⟩, by simp [intOf]; omega⟩
        rw [HS.out, HU.out, if_pos HE.out]
        exact u32_xor_nat (X / 2) 3623976961 (by omega) (by omega)
      · have HE := Lib.hid h1; clear h1
        have d1 : (((X % 2 : Nat) : Int) == 1) = false := by have := HE.out; simp; omega
        have d2 : (((X : Int) % 2) == 1) = false := by have := HE.out; simp; omega
        go_wp2_with fail
        refine ⟨⟨k + 1, by omega, congrArg (Value.int .u32) ?_, rfl⟩, by simp [intOf]; omega⟩
        rw [HS.out, HU.out, if_neg HE.out]
        omega
    · obtain rfl : k = 8 := by omega
      go_wp2_with fail
      go_ret
      exact ⟨rfl, rfl⟩
def zr32 : Array Value := Array.replicate 256 (.int .u32 0)
def te : Nat → Array Value
  | 0 => zr32
  | k + 1 => (te k).setIfInBounds k (.int .u32 (etab k : Nat))
theorem te_size : ∀ k, (te k).size = 256
  | 0 => by simp [te, zr32]
  | k + 1 => by rw [te, Array.size_setIfInBounds, te_size k]
theorem te_get (k i : Nat) (h : i < k) (hk : k ≤ 256) : (te k)[i]? = some (.int .u32 (etab i : Nat)) := by
  induction k generalizing i with
  | zero => omega
  | succ k ih =>
    rw [te]
    by_cases e : i = k
    · subst e
      rw [Array.getElem?_setIfInBounds_self_of_lt (by rw [te_size]; omega)]
    · rw [Array.getElem?_setIfInBounds_ne (by omega)]
      exact ih i (by omega) (by omega)
theorem te_some (k i : Nat) (h : i < 256) : ∃ v, (te k)[i]? = some v := by
  have : i < (te k).size := by rw [te_size]; exact h
  exact ⟨_, Array.getElem?_eq_getElem this⟩
theorem te_one (k : Nat) : ∀ v ∈ (te k), v.oneCell' = true := by
  induction k with
  | zero => intro v hv; simp [te, zr32] at hv; subst hv; rfl
  | succ k ih =>
    intro v hv
    rcases Array.mem_or_eq_of_mem_setIfInBounds hv with h | h
    · exact ih v h
    · subst h; rfl
theorem zero_32b : ∀ w, (zeroValue 333).run Tryz.prog w = .ok (.agg zr32) w := fun _ => by kernel_rfl
set_option maxRecDepth 100000 in
set_option maxHeartbeats 1000000 in
theorem etable_any (w : World) :
    Calls Tryz.prog 270 #[.func (.func 271) #[] #[]] w fun e w' => e = .returned (.agg (te 256)) ∧ Below w.heap.size w w' := by
  have hz := zero_32b
  go_enter Tryz.func270, Tryz.ntmps270
  go_wp2_with fail
  have h0 : ((w.alloc (.cells zr32 333)).alloc (.cells zr32 333)).heap[w.heap.size]? = some (.cells (te 0) 333) := heap_alloc2_old _ _ _
  have h1 : ((w.alloc (.cells zr32 333)).alloc (.cells zr32 333)).heap[w.heap.size + 1]? = some (.cells (te 0) 333) := heap_alloc2_new _ _ _
  have h2 : Below w.heap.size w ((w.alloc (.cells zr32 333)).alloc (.cells zr32 333)) := ((Below.refl _ _).alloc (Nat.le_refl _) _).alloc (by simp) _
  generalize (w.alloc (.cells zr32 333)).alloc (.cells zr32 333) = w1 at h0 h1 h2 ⊢
  clear hz
  go_loopw [5] (fun vk wr => ∃ k : Nat, k ≤ 256 ∧ vk = .int .i64 k ∧ wr.heap[w.heap.size]? = some (.cells zr32 333) ∧ wr.heap[w.heap.size + 1]? = some (.cells (te k) 333) ∧ Below w.heap.size w wr) (fun vk _ => 256 - (intOf vk).toNat)
  case atStart => exact ⟨0, by omega, rfl, h0, h1, h2⟩
  case round =>
    obtain ⟨k, hk, rfl, g0, g1, g2⟩ := hrel
    clear h0 h1 h2
    by_cases hlt : k < 256
    · obtain ⟨v, hv⟩ := te_some k k hlt
      have hc : wr.cell? ⟨w.heap.size + 1, k, none⟩ = some v := by rw [cell_of_row wr _ k _ _ _ g1]; exact hv
      have hf := frozen_of_row wr _ k _ _ g1
      clear hv
      have G0 := Lib.hid g0; have G1 := Lib.hid g1; clear g0 g1
      go_wp2_with fail
      refine (reflected1_any k _ hlt).mono ?_
      rintro e w' ⟨rfl, rfl⟩
      go_wp2_with fail
      go_roundw
      case rel =>
        refine ⟨k + 1, by omega, by go_num, ?_, ?_, g2.setCell (by simp) _⟩
        · rw [heap_setCell_other _ _ _ _ (by simp)]; exact G0.out
        · exact heap_setCell_same _ _ _ _ _ _ G1.out
      case measure => simp [intOf]; omega
    · obtain rfl : k = 256 := by omega
      have G0 := Lib.hid g0; have G1 := Lib.hid g1; clear g0 g1
      have hi : (Tryz.prog.info? 333).map (·.size) = some (te 256).size := by rw [te_size]; kernel_rfl
      have h1 : (te 256).all (·.oneCell') = true := Array.all_eq_true_iff_forall_mem.2 (te_one 256)
      go_wp2_with (first | (refine wpList_load_row rfl 333 _ rfl _ rfl 333 _ _ _ G1.out Tryz.underlying333 rfl hi ?_) | (refine wpList_store_row rfl 333 _ _ rfl w.heap.size (te 256) rfl rfl 333 _ G0.out hi (by simp [zr32, te_size]) h1 ?_))
      exact bodyPost_ret (v := .agg (te 256)) (results_cell_row rfl _ _ w.heap.size 333 (te 256) (0, 0) _ rfl (setRow_heap _ _ _ _ _ _ G0.out) Tryz.underlying333 rfl hi) rfl ⟨rfl, Below.setRow g2 (Nat.le_refl _) _⟩
set_option maxRecDepth 100000 in
set_option maxHeartbeats 1000000 in
theorem reflected_any (w : World) :
    Calls Tryz.prog 250 #[] w fun e w' => e = .returned (.agg (te 256)) ∧ Below w.heap.size w w' := by
  have hz := zero_32b
  go_enter Tryz.func250, Tryz.ntmps250
  go_wp2_with fail
  refine (etable_any _).mono ?_
  rintro e w1 ⟨rfl, hb⟩
  have hb1 := ((Below.refl w.heap.size w).alloc (Nat.le_refl _) (.cells zr32 333)).trans (hb.mono (by simp))
  have g0 : w1.heap[w.heap.size]? = some (.cells zr32 333) := (hb.block w.heap.size (by simp)).trans (heap_alloc_new _ _)
  have G0 := Lib.hid g0; clear g0 hz
  have hi : (Tryz.prog.info? 333).map (·.size) = some (te 256).size := by rw [te_size]; kernel_rfl
  have h1 : (te 256).all (·.oneCell') = true := Array.all_eq_true_iff_forall_mem.2 (te_one 256)
  go_wp2_with (refine wpList_store_row rfl 333 _ _ rfl w.heap.size (te 256) rfl rfl 333 _ G0.out hi (by simp [zr32, te_size]) h1 ?_)
  exact bodyPost_ret (v := .agg (te 256)) (results_cell_row rfl _ _ w.heap.size 333 (te 256) (0, 0) _ rfl (setRow_heap _ _ _ _ _ _ G0.out) Tryz.underlying333 rfl hi) rfl ⟨rfl, Below.setRow hb1 (Nat.le_refl _) _⟩
set_option maxRecDepth 100000 in
set_option maxHeartbeats 1000000 in
theorem eext_any (s : ByteArray) (w : World) (hs : s.size ≤ 1000000) : Calls Tryz.prog 228 #[.int .u32 0, .string s] w fun e w' => e = .returned (.int .u32 (edc 0 s.data.toList : Nat)) ∧ Below w.heap.size w w' := by
  have hz := zero_32b
  go_enter Tryz.func228, Tryz.ntmps228
  go_wp2_with fail
  refine (reflected_any _).mono ?_
  rintro e w1 ⟨rfl, hb⟩
  have hi : (Tryz.prog.info? 333).map (·.size) = some (te 256).size := by rw [te_size]; kernel_rfl
  have h1 : (te 256).all (·.oneCell') = true := Array.all_eq_true_iff_forall_mem.2 (te_one 256)
  go_wp2_with (refine wpList_store_row rfl 333 _ _ rfl w1.heap.size (te 256) rfl rfl 333 _ (heap_alloc_new _ _) hi (by simp [zr32, te_size]) h1 ?_)
  have hT : ((w1.alloc (.cells zr32 333)).setRow w1.heap.size (te 256)).heap[w1.heap.size]? = some (.cells (te 256) 333) := setRow_heap _ _ _ _ _ _ (heap_alloc_new _ _)
  have hb2 : Below w.heap.size w ((w1.alloc (.cells zr32 333)).setRow w1.heap.size (te 256)) := Below.setRow (hb.alloc hb.size _) hb.size _
  generalize (w1.alloc (.cells zr32 333)).setRow w1.heap.size (te 256) = w2 at hT hb2 ⊢
  obtain ⟨g, hg⟩ : ∃ g, g = w1.heap.size := ⟨_, rfl⟩
  rw [← hg] at hT
  simp only [← hg]
  clear hz h1 hi hb hg
  have HT := Lib.hid hT; clear hT
  go_loop [0, 10] (fun vc vk => ∃ k : Nat, k ≤ s.size ∧ vc = .int .u32 (edc 0 (s.data.toList.take k) : Nat) ∧ vk = .int .i64 k) (fun _ vk => s.size - (intOf vk).toNat)
  case atStart => exact ⟨0, by omega, rfl, rfl⟩
  case round =>
    obtain ⟨k, hk, rfl, rfl⟩ := hrel
    have hX : edc 0 (s.data.toList.take k) < 4294967296 := edc_lt (by omega) _
    by_cases hlt : k < s.size
    · have HS := Lib.hid (edc_take s k hlt)
      generalize edc 0 (s.data.toList.take k) = X at hX HS ⊢
      have HR : Hid (ereg X s[k] = (X / 256) ^^^ etab ((X % 256) ^^^ s[k].toNat)) := Lib.hid rfl
      have hcb := s[k].toNat_lt
      have hj : X % 256 ^^^ s[k].toNat < 256 := xor256 (by omega) hcb
      have hbx : bits .xor .u8 ((X : Int) % 256) (s[k].toNat : Int) = ((X % 256 ^^^ s[k].toNat : Nat) : Int) := u8_xor_nat (X % 256) s[k].toNat (by omega) hcb
      have hcell : w2.cell? ⟨g, X % 256 ^^^ s[k].toNat, none⟩ = some (.int .u32 (etab (X % 256 ^^^ s[k].toNat) : Nat)) := by rw [cell_of_row w2 _ _ _ _ _ HT.out]; exact te_get 256 _ hj (by omega)
      generalize X % 256 ^^^ s[k].toNat = j at hj hbx hcell HR
      have HJ := Lib.hid hj
      go_wp2_with fail
      refine ⟨⟨k + 1, by omega, congrArg (Value.int .u32) ?_, rfl⟩, by simp [intOf]; omega⟩
      rw [HS.out, HR.out]
      exact u32_xor_nat (X / 256) (etab j) (by omega) (etab_lt HJ.out)
    · obtain rfl : k = s.size := by omega
      have HF : Hid (edc 0 (s.data.toList.take s.size) = edc 0 s.data.toList) := Lib.hid (by rw [List.take_of_length_le (by simp)])
      go_wp2_with fail
      go_ret
      exact ⟨by rw [← HF.out]; rfl, hb2⟩
set_option maxRecDepth 100000 in
theorem edc_any (s : ByteArray) (w : World) (hs : s.size ≤ 1000000) : Calls Tryz.prog 194 #[.string s] w fun e w' => e = .returned (.int .u32 (edc 0 s.data.toList : Nat)) ∧ Below w.heap.size w w' := by
  go_enter Tryz.func194, Tryz.ntmps194
  go_wp2_with fail
  refine (eext_any s _ hs).mono ?_
  rintro e w1 ⟨rfl, hb⟩
  go_wp2_with fail
  go_ret
  exact ⟨rfl, hb⟩
def edcB (c : Nat) : List UInt8 := [UInt8.ofNat (c % 256), UInt8.ofNat (c / 256 % 256), UInt8.ofNat (c / 65536 % 256), UInt8.ofNat (c / 16777216)]
theorem edcB_run (c : Nat) (hc : c < 4294967296) (w : World) (t : TypeId) : (convert 123 9 (.slice (some ⟨w.heap.size, 0, none⟩) 4 4)).run Tryz.prog (w.alloc (.cells #[.int .u8 ((c : Int) % 256), .int .u8 ((c : Int) / 256 % 256), .int .u8 ((c : Int) / 65536 % 256), .int .u8 ((c : Int) / 16777216)] t)) = .ok (.string (str (edcB c))) (w.alloc (.cells #[.int .u8 ((c : Int) % 256), .int .u8 ((c : Int) / 256 % 256), .int .u8 ((c : Int) / 65536 % 256), .int .u8 ((c : Int) / 16777216)] t)) := by
  have h := run_str (dst := 9) Tryz.underlying123 Tryz.underlying5 Tryz.underlying9 (Rd.lit w (edcB c) t (by simp [edcB]))
  have e : (bs (edcB c)).toArray = #[.int .u8 ((c : Int) % 256), .int .u8 ((c : Int) / 256 % 256), .int .u8 ((c : Int) / 65536 % 256), .int .u8 ((c : Int) / 16777216)] := by
    simp only [edcB, bs, B, List.map_cons, List.map_nil, toNat_ofNat (show c % 256 < 256 by omega), toNat_ofNat (show c / 256 % 256 < 256 by omega), toNat_ofNat (show c / 65536 % 256 < 256 by omega), toNat_ofNat (show c / 16777216 < 256 by omega)]
    simp
  rw [e] at h
  exact h
set_option maxRecDepth 100000 in
theorem edcbytes_any (c : Nat) (w : World) (hc : c < 4294967296) : Calls Tryz.prog 193 #[.int .u32 c] w fun e w' => e = .returned (.string (str (edcB c))) ∧ Below w.heap.size w w' := by
  have hst := edcB_run c hc w 5
  go_enter Tryz.func193, Tryz.ntmps193
  go_wp2_with fail

  go_ret
  exact ⟨rfl, (Below.refl _ _).alloc (Nat.le_refl _) _⟩
end Go.Proofs.YtflmjdjkfognjaaGreat.T7
namespace Go.Proofs.YtflmjdjkfognjaaGreat
open Go Go.RowKit
set_option linter.unusedVariables false
section
variable {F : Fence} {n : Nat} {P : Program}
def GivesN (F : Fence) (n : Nat) (P : Program) (gf : Nat) (lb : Array Value) (N : Nat) (G : Nat → Value → World → Prop) (w : World) : Prop :=
  ∀ (l : Nat) (J : Nat → World → Prop) (Jx : World → Prop) (W : World), Below w.heap.size w W → (∀ A, ¬ J N A) → (∀ k A A', J k A → Below A.heap.size A A' → J k A') →
    (∀ k v A, k < N → J k A → G k v A → YieldAt F (n - 1) P l #[v] A fun e A' => (e = .returned (.bool true) ∧ J (k + 1) A' ∧ A.heap.size ≤ A'.heap.size) ∨ (e = .returned (.bool false) ∧ Jx A')) →
    J 0 W → CallsIn F n P gf (#[.func (.yield l) #[] #[]] ++ lb) W fun e W' => (∃ v, e = .returned v) ∧ Jx W'
theorem wpIn_range_givesN {g : Operand} {ps : Array Tmp} {assign body : Code} {Q : Exit → Act → World → Prop} {a : Act} {w : World}
    (hro : F.round = none) (h1 : 1 ≤ n) {gf : Nat} {lb : Array Value} (hg : a.eval g = .func (.func gf) #[] lb) (hFg : F.fn gf) (eg : ∀ args w, (callFunc gf args).run P w = .ok (.enter gf args) w)
    {N : Nat} {G : Nat → Value → World → Prop} (hseq : GivesN F (n - 1) P gf lb N G w) (hps : ps.size = 1)
    (I : Nat → World → Prop) (Ix : Code → World → Prop) (A : Nat → Value → Act → World → Prop)
    (hI : ∀ k, Stays w.heap.size (I k)) (hIx : ∀ c, Stays w.heap.size (Ix c)) (hA : ∀ k v a', Stays w.heap.size (A k v a')) (h0 : I 0 w) (hN : ∀ W, ¬ I N W)
    (hassign : ∀ (l k : Nat) (v : Value) (W : World) (K : Act → World → Prop), k < N → I k W → G k v W → (∀ a' W', KeepsFrom w.heap.size W W' → I k W' → A k v a' W' → K a' W') →
      assign.wpIn (F.inRound l) (n - 1 - 1) P (Exit.then K (fun _ _ _ => False)) { tmps := (ps.zip #[v]).foldl (fun t (p, v) => t.setIfInBounds p v) a.tmps, defers := [] } W)
    (hbody : ∀ (l k : Nat) (v : Value) (a' : Act) (W : World), w.heap.size ≤ l → (∃ r, W.heap[l]? = some (.loop r)) → k < N → I k W → A k v a' W → body.wpIn (F.inRound l) (n - 1 - 1) P (leftBy w.heap.size I Ix k W) a' W)
    (hstop : ∀ (D : Nat) (c : Code) (W : World), w.heap.size ≤ D → Ix c W → W.heap[D]? = some (.deferred (some [])) → c.wpIn F n P Q { a with defers := { target := .collected D, args := #[] } :: a.defers } W) :
    (Code.rangeFunc g ps assign body).wpIn F n P Q a w := by
  refine wpIn_rangeFunc fun fn hfn => ?_
  rw [hro]
  obtain ⟨B, hB⟩ : ∃ B, B = w.heap.size := ⟨_, rfl⟩
  obtain ⟨rec, hrec⟩ : ∃ rec : LoopState → Option Code → Loop, rec = fun st pe => { state := st, pending := pe, fn, tmps := a.tmps, params := ps, assign, body, defers := w.heap.size } := ⟨_, rfl⟩
  have hs1 : ∀ st pe, (rec st pe).state = st := fun _ _ => by rw [hrec]
  have hs2 : ∀ st pe, (rec st pe).pending = pe := fun _ _ => by rw [hrec]
  have hs3 : ∀ st pe st' pe', { rec st pe with state := st', pending := pe' } = rec st' pe' := fun _ _ _ _ => by rw [hrec]
  have hs4 : ∀ st pe st', { rec st pe with state := st' } = rec st' pe := fun _ _ _ => by rw [hrec]
  obtain ⟨W1, hW1⟩ : ∃ W1, W1 = (w.alloc (.deferred (some []))).alloc (.loop (rec .ready none)) := ⟨_, rfl⟩
  have hbw : Below w.heap.size w W1 := by rw [hW1]; exact ((Below.refl _ w).alloc (Nat.le_refl _) _).alloc (by simp) _
  have hL1 : W1.heap[B + 1]? = some (.loop (rec .ready none)) := by
    have := World.alloc_heap_new (w.alloc (.deferred (some []))) (.loop (rec .ready none))
    rw [World.size_alloc] at this
    rw [hW1, hB]; exact this
  have hD1 : W1.heap[B]? = some (.deferred (some [])) := by
    rw [hW1, hB]; exact (Below.heap_alloc _ _ _ (by simp)).trans (World.alloc_heap_new w _)
  -- a store of the loop's record
  have hput : ∀ (r : Loop) (W : World), B + 1 < W.heap.size → (W.putObj (B + 1) (.loop r)).heap[B + 1]? = some (.loop r) ∧ (∀ k, k ≠ B + 1 → (W.putObj (B + 1) (.loop r)).heap[k]? = W.heap[k]?) :=
    fun r W h => ⟨World.putObj_heap_same h, fun k hk => World.putObj_heap_other hk⟩
  refine ⟨B + 1, [{ target := .collected B, args := #[] }], W1, { target := .fn (.func gf) lb, args := #[.func (.yield (B + 1)) #[] #[]] }, W1, gf, #[.func (.yield (B + 1)) #[] #[]] ++ lb, W1, ?_, ?_, ?_, ?_, fun _ => h1, ?_⟩
  · rw [hW1, hrec, hB]; exact run_enterLoop_outer _ _ _ _ _
  · simp only [resolve, hg]
    simp [go_sem]
  · intro f' hf'
    simp [Target.leads] at hf'
    exact hf' ▸ hFg
  · simp [invoke, go_sem, eg]
  · refine (hseq (B + 1) (fun k W => I k W ∧ W.heap[B + 1]? = some (.loop (rec .ready none)) ∧ W.heap[B]? = some (.deferred (some [])))
      (fun W => ∃ c, Ix c W ∧ W.heap[B + 1]? = some (.loop (rec .done (some c))) ∧ W.heap[B]? = some (.deferred (some []))) W1 hbw (fun A h => hN A h.1) ?_ ?_ ⟨(hI 0).below h0 hbw, hL1, hD1⟩).mono ?_
    · rintro k X Y ⟨hi, hl, hd⟩ hb
      exact ⟨(hI k).below hi hb, (hb.block _ (Array.getElem?_eq_some_iff.1 hl).1).trans hl, (hb.block _ (Array.getElem?_eq_some_iff.1 hd).1).trans hd⟩
    · rintro k v W hk ⟨hi, hl, hd⟩ hgv
      have hy := run_yield (P := P) (args := #[v]) hl (by rw [hrec]; exact hps.symm)
      rw [hrec] at hy
      refine ⟨fn, _, assign, body, hy, roundIn_of_wpIn hfn (hassign _ k v W _ hk hi hgv ?_)⟩
      intro a' Wa hka hia hax
      have hla := hka.same _ _ (by omega) hl rfl
      have hda := hka.same _ _ (by omega) hd rfl
      have hlt := (Array.getElem?_eq_some_iff.1 hla).1
      refine ⟨_, run_beginRound hla (hs1 _ _), ?_⟩
      rw [hs4]
      obtain ⟨p1, p2⟩ := hput (rec .busy none) Wa hlt
      refine wpIn_mono (hbody _ k v a' _ (by omega) ⟨_, p1⟩ hk ((hI k).putObj _ hia (by omega) hla rfl) ((hA k v a').putObj _ hax (by omega) hla rfl)) ?_
      -- the end of a round
      have fin : ∀ (jump : Option Code) (W3 : World), KeepsFrom w.heap.size (Wa.putObj (B + 1) (.loop (rec .busy none))) W3 →
          (Instr.endRound (B + 1) jump).run P W3 = .ok (.bool jump.isNone) (W3.putObj (B + 1) (.loop (rec (if jump.isNone then .ready else .done) jump))) ∧ W3.heap[B + 1]? = some (.loop (rec .busy none)) ∧
          (W3.putObj (B + 1) (.loop (rec (if jump.isNone then .ready else .done) jump))).heap[B + 1]? = some (.loop (rec (if jump.isNone then .ready else .done) jump)) ∧
          (W3.putObj (B + 1) (.loop (rec (if jump.isNone then .ready else .done) jump))).heap[B]? = some (.deferred (some [])) := fun jump W3 hk3 => by
        have hl3 := hk3.same _ _ (by omega) p1 rfl
        have hd3 := hk3.same _ _ (by omega) ((p2 B (by omega)).trans hda) rfl
        have hr := run_endRound (P := P) jump hl3
        rw [hs3] at hr
        obtain ⟨q1, q2⟩ := hput (rec (if jump.isNone then .ready else .done) jump) W3 (Array.getElem?_eq_some_iff.1 hl3).1
        exact ⟨hr, hl3, q1, (q2 B (by omega)).trans hd3⟩
      have jmp : ∀ (c : Code) (W3 : World), KeepsFrom w.heap.size (Wa.putObj (B + 1) (.loop (rec .busy none))) W3 → Ix c W3 → ∃ v w', (Instr.endRound (B + 1) (some c)).run P W3 = .ok v w' ∧
          ((Ending.returned v = .returned (.bool true) ∧ (I (k + 1) w' ∧ w'.heap[B + 1]? = some (.loop (rec .ready none)) ∧ w'.heap[B]? = some (.deferred (some []))) ∧ W.heap.size ≤ w'.heap.size) ∨
            (Ending.returned v = .returned (.bool false) ∧ ∃ c, Ix c w' ∧ w'.heap[B + 1]? = some (.loop (rec .done (some c))) ∧ w'.heap[B]? = some (.deferred (some [])))) := fun c W3 hk3 hx => by
        obtain ⟨hr, hl3, hl4, hd4⟩ := fin (some c) W3 hk3
        exact ⟨_, _, hr, .inr ⟨rfl, c, (hIx c).putObj _ hx (by omega) hl3 rfl, hl4, hd4⟩⟩
      intro e a3 W3 hp
      cases e with
      | normal =>
        obtain ⟨hr, hl3, hl4, hd4⟩ := fin none W3 hp.1
        have z1 := hka.size
        have z2 := hp.1.size
        rw [size_putObj] at z2
        exact ⟨_, _, hr, .inl ⟨rfl, ⟨(hI (k + 1)).putObj _ hp.2 (by omega) hl3 rfl, hl4, hd4⟩, by rw [size_putObj]; omega⟩⟩
      | ret => exact jmp _ W3 hp.1 hp.2
      | exit id => exact jmp _ W3 hp.1 hp.2
      | goto t => exact jmp _ W3 hp.1 hp.2
      | panic ch => exact hp.elim
      | outgrown => exact hp.elim
    · rintro e W2 ⟨⟨v, rfl⟩, c, hx, hl, hd⟩
      have hr := run_endLoop (P := P) hl (by rw [hs1]; simp)
      rw [hs2] at hr
      refine ⟨some c, _, hr, ?_⟩
      rw [hB] at hd hl ⊢
      exact hstop _ c _ (Nat.le_refl _) ((hIx c).putObj _ hx (by omega) hl rfl) ((World.putObj_heap_other (by omega)).trans hd)
theorem wpIn_range_givesN1 {g : Operand} {ps : Array Tmp} {assign body : Code} {Q : Exit → Act → World → Prop} {a : Act} {w : World}
    (hro : F.round = none) (h1 : 1 ≤ n) {gf : Nat} {lb : Array Value} (hg : a.eval g = .func (.func gf) #[] lb) (hFg : F.fn gf) (eg : ∀ args w, (callFunc gf args).run P w = .ok (.enter gf args) w)
    {N : Nat} {G : Nat → Value → World → Prop} (hseq : GivesN F (n - 1) P gf lb N G w) (hps : ps.size = 1)
    (I : Nat → World → Prop) (Ix : Code → World → Prop) (a₁ : Value → Act)
    (hI : ∀ k, Stays w.heap.size (I k)) (hIx : ∀ c, Stays w.heap.size (Ix c)) (hG : ∀ k v, Stays w.heap.size (G k v)) (h0 : I 0 w) (hN : ∀ W, ¬ I N W)
    (hassign : ∀ (l : Nat) (v : Value) (W : World) (K : Act → World → Prop), (∃ k, G k v W) → K (a₁ v) W →
      assign.wpIn (F.inRound l) (n - 1 - 1) P (Exit.then K (fun _ _ _ => False)) { tmps := (ps.zip #[v]).foldl (fun t (p, v) => t.setIfInBounds p v) a.tmps, defers := [] } W)
    (hbody : ∀ (l k : Nat) (v : Value) (W : World), k < N → I k W → G k v W → body.wpIn (F.inRound l) (n - 1 - 1) P (leftBy w.heap.size I Ix k W) (a₁ v) W)
    (hstop : ∀ (D : Nat) (c : Code) (W : World), w.heap.size ≤ D → Ix c W → W.heap[D]? = some (.deferred (some [])) → c.wpIn F n P Q { a with defers := { target := .collected D, args := #[] } :: a.defers } W) :
    (Code.rangeFunc g ps assign body).wpIn F n P Q a w :=
  wpIn_range_givesN hro h1 hg hFg eg hseq hps I Ix (fun k v a' W => a' = a₁ v ∧ G k v W) hI hIx (fun k v a' => (Stays.const _ (a' = a₁ v)).and (hG k v)) h0 hN
    (fun l k v W K _ hi hgv hK => hassign l v W K ⟨k, hgv⟩ (hK _ _ (KeepsFrom.refl _ _) hi ⟨rfl, hgv⟩))
    (fun l k v a' W _ _ hk hi ⟨e, hgv⟩ => by subst e; exact hbody l k v W hk hi hgv) hstop
end
end Go.Proofs.YtflmjdjkfognjaaGreat
