/- Parts: XIe XBld XQa -/
import Derived.Test.YtflmjdjkfognjaaGreatTe20
import Derived.Test.YtflmjdjkfognjaaGreatTe23
import Derived.Test.YtflmjdjkfognjaaGreatTe06
import Derived.Test.YtflmjdjkfognjaaGreatTeShelf
import Derived.Lib.AppendStr
namespace Go.Proofs.YtflmjdjkfognjaaGreat.T7
open Go Go.RowKit W10
set_option linter.unusedVariables false
theorem sub_both {P : Program} {t : TypeId} (ht : P.underlying t = some .string) (l : List UInt8) (lo hi : Nat) (h1 : lo ≤ hi) (h2 : hi ≤ l.length) (x y : Int) (hx : x = lo) (hy : y = hi) (w : World) :
    (Instr.slice t (.string (str l)) (some (.int .i64 x)) (some (.int .i64 y)) none).run P w = .ok (.string (str ((l.drop lo).take (hi - lo)))) w := by
  subst hx hy
  have e : (str l).extract lo hi = str ((l.drop lo).take (hi - lo)) := by
    apply ByteArray.ext
    rw [ByteArray.data_extract]
    simp [str]
  simp [Instr.slice, run_underlying ht, Instr.sliceBounds, run_sliceBound, str_size, h2, h1, e]
theorem sub_from {P : Program} {t : TypeId} (ht : P.underlying t = some .string) (l : List UInt8) (lo : Nat) (h1 : lo ≤ l.length) (x : Int) (hx : x = lo) (w : World) :
    (Instr.slice t (.string (str l)) (some (.int .i64 x)) none none).run P w = .ok (.string (str (l.drop lo))) w := by
  subst hx
  have e : (str l).extract lo l.length = str (l.drop lo) := by
    apply ByteArray.ext
    rw [ByteArray.data_extract]
    simp [str]
    exact List.take_of_length_le (by simp)
  simp [Instr.slice, run_underlying ht, Instr.sliceBounds, run_sliceBound, str_size, h1, e]
theorem sub_upto {P : Program} {t : TypeId} (ht : P.underlying t = some .string) (l : List UInt8) (hi : Nat) (h2 : hi ≤ l.length) (y : Int) (hy : y = hi) (w : World) :
    (Instr.slice t (.string (str l)) none (some (.int .i64 y)) none).run P w = .ok (.string (str (l.take hi))) w := by
  subst hy
  have e : (str l).extract 0 hi = str (l.take hi) := by
    apply ByteArray.ext
    rw [ByteArray.data_extract]
    simp [str]
  simp [Instr.slice, run_underlying ht, Instr.sliceBounds, run_sliceBound, str_size, h2, e]
theorem str_cat (l m : List UInt8) : str l ++ str m = str (l ++ m) := by
  apply ByteArray.ext
  simp [str]
def syL : List UInt8 := [0, 255, 255, 255, 255, 255, 255, 255, 255, 255, 255, 0]
def syV : List Value := bs syL
def sw : Nat → Array Value
  | 0 => Array.replicate 12 (.int .u8 0)
  | k + 1 => if k = 0 then sw 0 else (sw k).setIfInBounds k (.int .u8 255)
theorem sw_size : ∀ k, (sw k).size = 12
  | 0 => by simp [sw]
  | k + 1 => by
    rw [sw]
    split
    · simp [sw]
    · rw [Array.size_setIfInBounds, sw_size k]
theorem sw_some (k i : Nat) (h : i < 12) : ∃ v, (sw k)[i]? = some v := by
  have : i < (sw k).size := by rw [sw_size]; exact h
  exact ⟨_, Array.getElem?_eq_getElem this⟩
theorem sw_end : sw 11 = syV.toArray := by kernel_rfl
theorem zero_12 : ∀ w, (zeroValue 190).run Tryz.prog w = .ok (.agg (sw 0)) w := fun _ => by kernel_rfl
set_option maxRecDepth 100000 in
set_option maxHeartbeats 1000000 in
theorem sync_any (w : World) : Calls Tryz.prog 96 #[] w fun e w' => e = .returned (.agg syV.toArray) ∧ Below w.heap.size w w' := by
  have hz := zero_12
  go_enter Tryz.func96, Tryz.ntmps96
  go_wp2_with fail
  have h0 : ((w.alloc (.cells (sw 0) 190)).alloc (.cells (sw 0) 190)).heap[w.heap.size]? = some (.cells (sw 0) 190) := heap_alloc2_old _ _ _
  have h1 : ((w.alloc (.cells (sw 0) 190)).alloc (.cells (sw 0) 190)).heap[w.heap.size + 1]? = some (.cells (sw 0) 190) := heap_alloc2_new _ _ _
  have h2 : Below w.heap.size w ((w.alloc (.cells (sw 0) 190)).alloc (.cells (sw 0) 190)) := ((Below.refl _ _).alloc (Nat.le_refl _) _).alloc (by simp) _
  generalize (w.alloc (.cells (sw 0) 190)).alloc (.cells (sw 0) 190) = w1 at h0 h1 h2 ⊢
  clear hz
  go_loopw [2] (fun vk wr => ∃ k : Nat, 1 ≤ k ∧ k ≤ 11 ∧ vk = .int .i64 k ∧ wr.heap[w.heap.size]? = some (.cells (sw 0) 190) ∧ wr.heap[w.heap.size + 1]? = some (.cells (sw k) 190) ∧ Below w.heap.size w wr) (fun vk _ => 11 - (intOf vk).toNat)
  case atStart => exact ⟨1, by omega, by omega, rfl, h0, (by rw [show sw 1 = sw 0 from by simp [sw]]; exact h1), h2⟩
  case round =>
    obtain ⟨k, hk1, hk, rfl, g0, g1, g2⟩ := hrel
    clear h0 h1 h2
    by_cases hlt : k < 11
    · obtain ⟨v, hv⟩ := sw_some k k (by omega)
      have hc : wr.cell? ⟨w.heap.size + 1, k, none⟩ = some v := by rw [cell_of_row wr _ k _ _ _ g1]; exact hv
      have hf := frozen_of_row wr _ k _ _ g1
      clear hv
      have G0 := Lib.hid g0; have G1 := Lib.hid g1; clear g0 g1
      have hk12 : k < 12 := by omega
      go_wp2_with fail
      go_roundw
      case rel =>
        refine ⟨k + 1, by omega, by omega, by go_num, ?_, ?_, g2.setCell (by simp) _⟩
        · rw [heap_setCell_other _ _ _ _ (by simp)]; exact G0.out
        · rw [sw, if_neg (by omega)]
          exact heap_setCell_same _ _ _ _ _ _ G1.out
      case measure => simp [intOf]; omega
    · obtain rfl : k = 11 := by omega
      rw [sw_end] at g1
      have G0 := Lib.hid g0; have G1 := Lib.hid g1; clear g0 g1
      have hi : (Tryz.prog.info? 190).map (·.size) = some syV.toArray.size := by kernel_rfl
      have h1 : syV.toArray.all (·.oneCell') = true := by kernel_rfl
      go_wp2_with (first | (refine wpList_load_row rfl 190 _ rfl _ rfl 190 _ _ _ G1.out Tryz.underlying190 rfl hi ?_) | (refine wpList_store_row rfl 190 _ _ rfl w.heap.size syV.toArray rfl rfl 190 _ G0.out hi (by rw [sw_size]; rfl) h1 ?_))
      exact bodyPost_ret (v := .agg syV.toArray) (results_cell_row rfl _ _ w.heap.size 190 syV.toArray (0, 0) _ rfl (setRow_heap _ _ _ _ _ _ G0.out) Tryz.underlying190 rfl hi) rfl ⟨rfl, Below.setRow g2 (Nat.le_refl _) _⟩
def layV : Value := .agg #[.int .u8 1, .int .i64 16, .int .i64 2048, .int .i64 0]
set_option maxRecDepth 100000 in
theorem edcat_any (w : World) : Calls Tryz.prog 95 #[layV] w fun e w' => e = .returned (.int .i64 2064) ∧ Below w.heap.size w w' := by
  unfold layV
  go_enter Tryz.func95, Tryz.ntmps95
  go_wp2_with fail
  go_ret
  exact ⟨rfl, (Below.refl _ _).alloc (Nat.le_refl _) _⟩
set_option maxRecDepth 100000 in
set_option maxHeartbeats 1000000 in
theorem layouts_0 (w : World) : Calls Tryz.prog 94 #[.int .i64 0] w fun e w' => e = .returned (.tuple #[layV, .bool true]) ∧ Below w.heap.size w w' := by
  unfold layV
  go_enter Tryz.func94, Tryz.ntmps94
  go_wp2_with fail
  refine bodyPost_ret (v := .tuple #[.agg #[.int .u8 1, .int .i64 16, .int .i64 2048, .int .i64 0], .bool true]) (by simp [results, Tryz.results94, go_sem]) rfl ⟨rfl, ((Below.refl _ _).alloc (Nat.le_refl _) _).alloc (by simp) _⟩
set_option maxRecDepth 100000 in
theorem add_any (p l : List UInt8) (g : Nat) (w : World) (hx : Bx w g 9 [.string (str l)]) (hl : l.length + p.length ≤ 1000000) :
    Calls Tryz.prog 145 #[.string (str p), .pointer (some ⟨g, 0, none⟩)] w fun e w' => e = .returned (.tuple #[]) ∧ w' = w.setCell ⟨g, 0, none⟩ (.string (str (l ++ p))) := by
  have c0 := hx.cell (i := 0) rfl
  have f0 := hx.free 0
  have HS : Hid (str l ++ str p = str (l ++ p)) := Lib.hid (str_cat _ _)
  have h1 := str_size l
  have h2 := str_size p
  go_enter Tryz.func145, Tryz.ntmps145
  go_wp2_with fail
  rw [HS.out]
  go_end0
  exact ⟨rfl, rfl⟩
def secV (lba : Int) (d : List UInt8) : Value := .agg #[.int .i64 lba, .int .i64 0, .int .i64 0, .int .i64 0, .int .i64 0, .int .i64 0, .string (str d)]
set_option maxRecDepth 100000 in
set_option maxHeartbeats 2000000 in
theorem svalid_0 (lba : Int) (d : List UInt8) (w : World) (h0 : -150 ≤ lba) (h1 : lba ≤ 449849) (hd : d.length = 2048) :
    Calls Tryz.prog 144 #[secV lba d] w fun e w' => e = .returned (.bool true) ∧ Below w.heap.size w w' := by
  have hA := (Below.refl w.heap.size w).alloc (Nat.le_refl _) (.cells #[.int .i64 lba, .int .i64 0, .int .i64 0, .int .i64 0, .int .i64 0, .int .i64 0, .string (str d)] 103)
  have hx := Bx.new w 103 [.int .i64 lba, .int .i64 0, .int .i64 0, .int .i64 0, .int .i64 0, .int .i64 0, .string (str d)]
  change Bx (w.alloc (.cells #[.int .i64 lba, .int .i64 0, .int .i64 0, .int .i64 0, .int .i64 0, .int .i64 0, .string (str d)] 103)) _ _ _ at hx
  have hsz := str_size d
  rw [hd] at hsz
  have hsz2 : (str d).data.size = 2048 := hsz
  have HM := Lib.hid (fun W => tomsf_ok lba W h0 h1)
  have HL := Lib.hid layouts_0
  unfold layV at HL
  unfold secV
  obtain ⟨S, hS⟩ : ∃ S, S = str d := ⟨_, rfl⟩
  rw [← hS] at hA hx hsz hsz2 ⊢
  clear hS
  obtain ⟨b, hb⟩ : ∃ b, b = w.heap.size := ⟨_, rfl⟩
  have HB := Lib.hid hb
  rw [← hb] at hx
  have HX := Lib.hid hx
  have HA := Lib.hid hA
  have c0 := hx.cell (i := 0) rfl
  have c1 := hx.cell (i := 1) rfl
  clear hA hx hb
  go_enter Tryz.func144, Tryz.ntmps144
  go_upto_region 1 with (fail)
  rw [← HB.out]
  generalize w.alloc (.cells #[.int .i64 lba, .int .i64 0, .int .i64 0, .int .i64 0, .int .i64 0, .int .i64 0, .string S] 103) = w1 at *
  go_wp2_with fail
  refine (HL.out w1).mono ?_
  rintro e w2 ⟨rfl, hb2⟩
  have HX2 := Lib.hid ((HX.out.call hb2).alloc (.cells #[.int .u8 1, .int .i64 16, .int .i64 2048, .int .i64 0] 187))
  have HA2 := Lib.hid ((HA.out.trans (hb2.mono HA.out.size)).alloc (by have := HA.out.size; have := hb2.size; omega) (.cells #[.int .u8 1, .int .i64 16, .int .i64 2048, .int .i64 0] 187))
  have hl2 := Bx.new w2 187 [.int .u8 1, .int .i64 16, .int .i64 2048, .int .i64 0]
  change Bx (w2.alloc (.cells #[.int .u8 1, .int .i64 16, .int .i64 2048, .int .i64 0] 187)) _ _ _ at hl2
  obtain ⟨lb, hlb⟩ : ∃ lb, lb = w2.heap.size := ⟨_, rfl⟩
  have HLB := Lib.hid hlb
  rw [← hlb] at hl2
  have HL2 := Lib.hid hl2
  clear hb2 hl2 hlb c0 c1
  have c0 := HX2.out.cell (i := 0) rfl
  go_upto_region 2 with (fail)
  rw [← HLB.out]
  generalize w2.alloc (.cells #[.int .u8 1, .int .i64 16, .int .i64 2048, .int .i64 0] 187) = w3 at *
  go_wp2_with fail
  refine (HM.out w3).mono ?_
  rintro e w4 ⟨rfl, hb4⟩
  have hm : (msfn (lba + 150)) = .agg #[.int .i64 (Q.mM (lba + 150)), .int .i64 (Q.mS (lba + 150)), .int .i64 (Q.mF (lba + 150))] := rfl
  rw [hm]
  have HX4 := Lib.hid ((HX2.out.call hb4).alloc (.cells #[.int .i64 (Q.mM (lba + 150)), .int .i64 (Q.mS (lba + 150)), .int .i64 (Q.mF (lba + 150))] 36))
  have HL4 := Lib.hid ((HL2.out.call hb4).alloc (.cells #[.int .i64 (Q.mM (lba + 150)), .int .i64 (Q.mS (lba + 150)), .int .i64 (Q.mF (lba + 150))] 36))
  have HA4 := Lib.hid ((HA2.out.trans (hb4.mono HA2.out.size)).alloc (by have := HA2.out.size; have := hb4.size; omega) (.cells #[.int .i64 (Q.mM (lba + 150)), .int .i64 (Q.mS (lba + 150)), .int .i64 (Q.mF (lba + 150))] 36))
  clear hb4 c0 hm
  have c1 := HX4.out.cell (i := 1) rfl
  have c2 := HX4.out.cell (i := 2) rfl
  have c3 := HX4.out.cell (i := 3) rfl
  have c4 := HX4.out.cell (i := 4) rfl
  have c5 := HX4.out.cell (i := 5) rfl
  have c6 := HX4.out.cell (i := 6) rfl
  have l2 := HL4.out.cell (i := 2) rfl
  go_wp2_with fail
  go_ret
  exact ⟨rfl, HA4.out⟩
set_option maxRecDepth 100000 in
set_option maxHeartbeats 1000000 in
theorem code_any (l : List UInt8) (hl : l.length ≤ 1000000) (w : World) : Calls Tryz.prog 146 #[.string (str l), .int .i64 0] w fun e w' => e = .returned (.string (str (edcB (edc 0 l)))) ∧ Below w.heap.size w w' := by
  have hlt : edc 0 l < 4294967296 := edc_lt (by omega) l
  have HE : Hid (∀ W, Calls Tryz.prog 194 #[.string (str l)] W fun e w' => e = .returned (.int .u32 (edc 0 l : Nat)) ∧ Below W.heap.size W w') := Lib.hid (fun W => edc_any (str l) W (by rw [str_size]; exact hl))
  have HC := Lib.hid (fun W => edcbytes_any (edc 0 l) W hlt)
  have hsl : ∀ W, (Instr.slice 9 (.string (str l)) (some (.int .i64 0)) none none).run Tryz.prog W = .ok (.string (str l)) W := fun W => by
    have h := sub_from (P := Tryz.prog) Tryz.underlying9 l 0 (by omega) 0 rfl W
    rwa [List.drop_zero] at h
  generalize edc 0 l = c at *
  generalize str l = S at *
  go_enter Tryz.func146, Tryz.ntmps146
  go_wp2_with fail
  refine (HE.out w).mono ?_
  rintro e w1 ⟨rfl, hb1⟩
  go_wp2_with fail
  refine (HC.out w1).mono ?_
  rintro e w2 ⟨rfl, hb2⟩
  have HB := Lib.hid (hb1.trans (hb2.mono hb1.size))
  clear hb1 hb2
  go_wp2_with fail
  go_ret
  exact ⟨rfl, HB.out⟩
end Go.Proofs.YtflmjdjkfognjaaGreat.T7
namespace Go.Proofs.YtflmjdjkfognjaaGreat
open Go.RowKit
set_option linter.unusedVariables false
theorem sizeBld : (Tryz.prog.info? 169).map (·.size) = some 2 := by kernel_rfl
theorem liesBld : liesAt Tryz.prog Tryz.prog.depth 169 (2 / Tryz.prog.cellsOf 169) 0 169 1 = true := by kernel_rfl
theorem infoB8 : (Tryz.prog.info? 5).map (fun i => (i.zero, i.size, i.bytes)) = some (some (.int .u8 0), 1, 1) := by kernel_rfl
set_option maxHeartbeats 1000000 in
set_option maxRecDepth 100000 in
theorem bcheck_used (b : Nat) (w : World) (h0 : w.cell? ⟨b, 0, none⟩ = some (.pointer (some ⟨b, 0, none⟩))) :
    Calls Tryz.prog 152 #[.pointer (some ⟨b, 0, none⟩)] w fun e w' => e = .returned (.tuple #[]) ∧ w' = w := by
  obtain ⟨j, hj, _⟩ := Option.map_eq_some_iff.1 sizeBld
  go_enter Tryz.func152, Tryz.ntmps152
  go_wp2
  rw [Lib.run_neq_ptr_same w _ Tryz.underlying167 hj]
  go_wp2
  go_end0
  exact ⟨rfl, rfl⟩
set_option maxHeartbeats 1000000 in
set_option maxRecDepth 100000 in
theorem bcheck_fresh (b : Nat) (w : World) (h0 : w.cell? ⟨b, 0, none⟩ = some (.pointer none)) (hsh : w.shape? b = some (169, 2)) (hfz : w.frozen? ⟨b, 0, none⟩ = false) :
    Calls Tryz.prog 152 #[.pointer (some ⟨b, 0, none⟩)] w fun e w' => e = .returned (.tuple #[]) ∧ w' = w.setCell ⟨b, 0, none⟩ (.pointer (some ⟨b, 0, none⟩)) := by
  obtain ⟨j, hj, hjs⟩ := Option.map_eq_some_iff.1 sizeBld
  go_enter Tryz.func152, Tryz.ntmps152
  go_wp2
  rw [Lib.run_to_unsafe w ⟨b, 0, none⟩ Tryz.underlying167 Tryz.underlying288 hj (by rw [hjs]; decide) hsh (Nat.zero_lt_succ 1)]
  simp only [Result.andThen]
  rw [Oper.upon_value]
  go_wp2
  rw [run_callFunc_extern Tryz.func195 (by kernel_rfl) (by kernel_rfl) (by kernel_rfl) (e := Extern.AbiNoEscape.same) (by kernel_rfl)]
  rw [Lib.run_noEscape]
  simp only [Result.andThen]
  rw [Oper.upon_value]
  go_wp2
  rw [Lib.run_from_unsafe w ⟨b, 0, none⟩ Tryz.underlying288 Tryz.underlying167 hj hsh liesBld]
  simp only [Result.andThen]
  rw [Oper.upon_value]
  go_wp2
  go_end0
  exact ⟨rfl, rfl⟩
theorem bcheck_any (B b : Nat) (bs : List Value) (w : World) (h : Lib.IsBuilder 169 5 B b bs w) :
    Calls Tryz.prog 152 #[.pointer (some ⟨b, 0, none⟩)] w fun e w' => e = .returned (.tuple #[]) ∧ (Lib.BuilderAt 169 5 B b (.pointer (some ⟨b, 0, none⟩)) bs w' ∧ Below B w w') := by
  rcases h with h | h
  · refine (bcheck_fresh b w h.cell0 h.shape h.frozen0).mono ?_
    rintro e w' ⟨rfl, rfl⟩
    exact ⟨rfl, h.used _, (Below.refl B w).setCell (p := ⟨b, 0, none⟩) h.1 _⟩
  · refine (bcheck_used b w h.cell0).mono ?_
    rintro e w' ⟨rfl, rfl⟩
    exact ⟨rfl, h, Below.refl B _⟩
set_option maxHeartbeats 1000000 in
set_option maxRecDepth 100000 in
theorem bwrite_any (B b : Nat) (bs : List Value) (s : ByteArray) (w : World) (h : Lib.IsBuilder 169 5 B b bs w) (hlen : bs.length + s.size ≤ 140737488355328) (hBw : B ≤ w.heap.size) :
    Calls Tryz.prog 81 #[.pointer (some ⟨b, 0, none⟩), .string s] w fun e w' => e = .returned (.tuple #[.int .i64 s.size, .nilIface]) ∧ (Lib.BuilderAt 169 5 B b (.pointer (some ⟨b, 0, none⟩)) (bs ++ Lib.strCells s) w' ∧ Below B w w') := by
  obtain ⟨i0, hi, hz0, hz1, hz2⟩ := info_parts infoB8
  go_enter Tryz.func81, Tryz.ntmps81
  go_wp2_with (go_at_call 152; refine (bcheck_any B b bs _ h).mono ?_)
  rintro e w1 ⟨rfl, h1, hb1⟩
  obtain ⟨hB, v, hbk, hown, hne⟩ := h1
  have c0 : w1.cell? ⟨b, 0, none⟩ = some (.pointer (some ⟨b, 0, none⟩)) := by rw [Lib.cell_of_heap hbk]; rfl
  have c1 : w1.cell? ⟨b, 1, none⟩ = some v := by rw [Lib.cell_of_heap hbk]; rfl
  go_wp2_with (at_builtin; refine Lib.wpList_append_own_string _ rfl _ _ 123 9 rfl B 5 i0 Tryz.underlying123 Tryz.underlying9 hi hz0 hz1 hz2 _ _ _ rfl hown s rfl ?c3 ?c4 ?c5 ?_)
  case c3 => unfold maxLen; omega
  case c4 => omega
  case c5 => have := hb1.size; omega
  intro v' w2 hown' hgrow _
  have hlt : b < w1.heap.size := by
    rcases Nat.lt_or_ge b w1.heap.size with h' | h'
    · exact h'
    · simp [Array.getElem?_eq_none h'] at hbk
  have hb2 : w2.heap[b]? = some (.cells #[.pointer (some ⟨b, 0, none⟩), v] 169 (0, 0)) := by
    rw [hgrow.block b hlt (fun e => hne e.symm)]
    exact hbk
  have d0 : w2.cell? ⟨b, 0, none⟩ = some (.pointer (some ⟨b, 0, none⟩)) := by rw [Lib.cell_of_heap hb2]; rfl
  have d1 : w2.cell? ⟨b, 1, none⟩ = some v := by rw [Lib.cell_of_heap hb2]; rfl
  have f1 : w2.frozen? ⟨b, 1, none⟩ = false := Lib.frozen_of_heap hb2 1
  obtain ⟨ao, n', cap, rfl⟩ : ∃ ao n' cap, v' = .slice ao n' cap := by
    rcases hown'.2 with ⟨hv, _⟩ | ⟨g, cap, cur, hv, _⟩
    · exact ⟨_, _, _, hv⟩
    · exact ⟨_, _, _, hv⟩
  go_wp2
  go_ret2
  refine ⟨rfl, ?_, ?_⟩
  · exact Lib.BuilderAt.put hB hb2 (by simpa [Lib.strCells_length] using hown') (by decide)
  · exact ((hb1.grown hgrow (by have := hb1.size; omega) (fun k hk => ownD_block hown k hk)).setCell hB _)
end Go.Proofs.YtflmjdjkfognjaaGreat
namespace Go.Proofs.YtflmjdjkfognjaaGreat.W10
open Go.RowKit
set_option linter.unusedVariables false
def by8 (x : Int) : UInt8 := UInt8.ofNat x.toNat
theorem by8_nat {x : Int} (h0 : 0 ≤ x) (h1 : x < 256) : ((by8 x).toNat : Int) = x := by
  unfold by8; rw [toNat_ofNat (by omega)]; omega
theorem bcd_lt {n : Int} (h0 : 0 ≤ n) (h1 : n ≤ 99) : 0 ≤ bcd n ∧ bcd n < 256 := by unfold bcd; omega
def adr (m s f : Int) : List UInt8 := [by8 (bcd m), by8 (bcd s), by8 (bcd f)]
def okA (m s f : Int) : Prop := 0 ≤ m ∧ m ≤ 99 ∧ 0 ≤ s ∧ s ≤ 59 ∧ 0 ≤ f ∧ f ≤ 74
theorem one_run (x : Int) (w : World) (h0 : 0 ≤ x) (h1 : x < 256) (t : TypeId) : (convert 123 9 (.slice (some ⟨w.heap.size, 0, none⟩) 1 1)).run Tryz.prog (w.alloc (.cells #[.int .u8 x] t)) = .ok (.string (str [by8 x])) (w.alloc (.cells #[.int .u8 x] t)) := by
  have h := run_str (dst := 9) Tryz.underlying123 Tryz.underlying5 Tryz.underlying9 (Rd.lit w [by8 x] t (by simp))
  have e : (bs [by8 x]).toArray = #[.int .u8 x] := by
    simp only [bs, B, List.map_cons, List.map_nil, by8_nat h0 h1]
  rw [e] at h
  exact h
set_option maxRecDepth 100000 in
theorem part_any (n : Int) (w : World) (h0 : 0 ≤ n) (h1 : n ≤ 99) : Calls Tryz.prog 113 #[.int .i64 n] w (RV (.string (str [by8 (bcd n)])) w) := by
  have hb := bcd_lt h0 h1
  have hst := one_run (bcd n) w hb.1 hb.2 5
  clear hb
  go_enter Tryz.func113, Tryz.ntmps113
  go_wp2_with (go_at_call 114; refine (bcd_any n _ h0 h1).mono ?_; rintro e w2 ⟨rfl, rfl⟩)
  go_ret
  exact ⟨rfl, (Below.refl _ _).alloc (Nat.le_refl _) _⟩
theorem strCells_str (l : List UInt8) : Lib.strCells (str l) = Lib.byteCells l := by
  simp [Lib.strCells, Lib.byteCells, str]
theorem bld_keep {T e : TypeId} {B b : Nat} {cs : List Value} {w w' : World} (h : Lib.IsBuilder T e B b cs w) (hb : Below w.heap.size w w') : Lib.IsBuilder T e B b cs w' := by
  have k : ∀ p, Lib.BuilderAt T e B b p cs w → Lib.BuilderAt T e B b p cs w' := fun p h => by
    have hl := h.lt
    obtain ⟨h1, v, h2, h3, h4⟩ := h
    exact ⟨h1, v, (hb.block b hl).trans h2, ownD_keep h3 hb, h4⟩
  exact h.imp (k _) (k _)
set_option maxRecDepth 100000 in
set_option maxHeartbeats 2000000 in
theorem awrite_any (m s f : Int) (w : World) (h : okA m s f) : Calls Tryz.prog 112 #[msfv m s f, .func (.func 113) #[] #[]] w (RV (.string (str (adr m s f))) w) := by
  have i0 : ∀ w, (Instr.index 207 (.agg #[.int .i64 m, .int .i64 s, .int .i64 f]) (.int .i64 0)).run Tryz.prog w = .ok (.int .i64 m) w := fun _ => by kernel_rfl
  have i1 : ∀ w, (Instr.index 207 (.agg #[.int .i64 m, .int .i64 s, .int .i64 f]) (.int .i64 1)).run Tryz.prog w = .ok (.int .i64 s) w := fun _ => by kernel_rfl
  have i2 : ∀ w, (Instr.index 207 (.agg #[.int .i64 m, .int .i64 s, .int .i64 f]) (.int .i64 2)).run Tryz.prog w = .ok (.int .i64 f) w := fun _ => by kernel_rfl
  obtain ⟨h1, h2, h3, h4, h5, h6⟩ := h
  have HA : Hid (adr m s f = [by8 (bcd m), by8 (bcd s), by8 (bcd f)]) := Lib.hid rfl
  go_enter Tryz.func112, Tryz.ntmps112
  go_upto_region 2 with (fail)
  have hm0 : Bx (w.alloc (.cells #[.int .i64 m, .int .i64 s, .int .i64 f] 36)) w.heap.size 36 [.int .i64 m, .int .i64 s, .int .i64 f] := Bx.new _ _ _
  have hb0 := (Below.refl w.heap.size w).alloc (Nat.le_refl _) (.cells #[.int .i64 m, .int .i64 s, .int .i64 f] 36)
  have hsz0 : (w.alloc (.cells #[.int .i64 m, .int .i64 s, .int .i64 f] 36)).heap.size = w.heap.size + 1 := by simp
  generalize w.alloc (.cells #[.int .i64 m, .int .i64 s, .int .i64 f] 36) = w0 at hm0 hb0 hsz0 ⊢
  have hB0 := Lib.fresh_isBuilder 169 5 w0
  have hb1 := hb0.alloc hb0.size (.cells #[.pointer none, .slice none 0 0] 169)
  have hm1 := hm0.alloc (.cells #[.pointer none, .slice none 0 0] 169)
  have hg1 : w0.heap.size ≤ (w0.alloc (.cells #[.pointer none, .slice none 0 0] 169)).heap.size := by simp
  rw [← hsz0]
  obtain ⟨gB, hgB⟩ : ∃ gB, gB = w0.heap.size := ⟨_, rfl⟩
  have hlt : w.heap.size ≤ gB := by omega
  rw [← hgB] at hB0 hg1
  simp only [← hgB]
  generalize w0.alloc (.cells #[.pointer none, .slice none 0 0] 169) = w1 at hB0 hb1 hm1 hg1 ⊢
  clear hsz0 hgB hm0 hb0
  have c0 := hm1.cell (i := 0) rfl
  have c1 := hm1.cell (i := 1) rfl
  have c2 := hm1.cell (i := 2) rfl
  have HB0 := Lib.hid hB0; clear hB0
  go_wp2_with fail
  refine (split_any m s f _).mono ?_
  rintro e w2 ⟨rfl, hb2⟩
  have HB2 := Lib.hid (bld_keep HB0.out hb2)
  have hb3 := hb1.trans (hb2.mono hb1.size)
  have hg3 := Nat.le_trans hg1 hb2.size
  clear hb2 hb1 hg1 c0 c1 c2 hm1 HB0
  go_wp2_with fail
  go_loopw [10] (fun vi wr => ∃ (k : Nat), k ≤ 3 ∧ vi = .int .i64 k ∧ Hid (Lib.IsBuilder 169 5 gB gB (Lib.byteCells ((adr m s f).take k)) wr) ∧ Below w.heap.size w wr ∧ gB ≤ wr.heap.size) (fun vi _ => 3 - (intOf vi).toNat)
  case atStart => exact ⟨0, by omega, rfl, HB2, hb3, hg3⟩
  case round =>
    clear HB2 hb3 hg3
    obtain ⟨k, hk, rfl, HB, hb, hg⟩ := hrel
    by_cases hk3 : k = 3
    · subst hk3
      have HT : Hid ((adr m s f).take 3 = adr m s f) := Lib.hid rfl
      rw [HT.out] at HB
      go_wp2_with fail
      refine (Tryz.Builder_String_any gB gB (adr m s f) _ HB.out hg).mono ?_
      rintro e w3 ⟨rfl, hb3⟩
      go_wp2_with fail
      go_ret
      exact ⟨rfl, hb.trans (hb3.mono hlt)⟩
    by_cases hk0 : k = 0
    · subst hk0
      have HT : Hid (Lib.byteCells ((adr m s f).take 0) ++ Lib.strCells (str [by8 (bcd m)]) = Lib.byteCells ((adr m s f).take 1)) := Lib.hid (by rw [strCells_str]; rfl)
      have HL : Hid ((Lib.byteCells ((adr m s f).take 0)).length + (str [by8 (bcd m)]).size ≤ 140737488355328) := Lib.hid (by rw [str_size, Lib.byteCells_length]; simp [adr])
      clear hk3
      go_wp2_with fail
      refine (part_any m _ h1 h2).mono ?_
      rintro e w3 ⟨rfl, hb3⟩
      have HB3 := Lib.hid (bld_keep HB.out hb3)
      have hb4 := hb.trans (hb3.mono hb.size)
      have hg4 := Nat.le_trans hg hb3.size
      clear hb3 hb hg HB
      go_wp2_with fail
      refine (bwrite_any gB gB _ _ _ HB3.out HL.out hg4).mono ?_
      rintro e w5 ⟨rfl, hB5, hb5⟩
      rw [HT.out] at hB5
      have HB5 := Lib.hid hB5
      have hb6 := hb4.trans (hb5.mono hlt)
      have hg6 := Nat.le_trans hg4 hb5.size
      clear hB5 hb5 hb4 hg4 HB3
      go_wp2_with fail
      first
      | (go_roundw
         case rel => exact ⟨1, by omega, by go_num, Lib.hid (.inr HB5.out), hb6, hg6⟩
         case measure => simp [intOf])
      | exact ⟨⟨1, by omega, by go_num, Lib.hid (.inr HB5.out), hb6, hg6⟩, by simp [intOf]⟩
    by_cases hk1 : k = 1
    · subst hk1
      have HT : Hid (Lib.byteCells ((adr m s f).take 1) ++ Lib.strCells (str [by8 (bcd s)]) = Lib.byteCells ((adr m s f).take 2)) := Lib.hid (by rw [strCells_str]; rfl)
      have HL : Hid ((Lib.byteCells ((adr m s f).take 1)).length + (str [by8 (bcd s)]).size ≤ 140737488355328) := Lib.hid (by rw [str_size, Lib.byteCells_length]; simp [adr])
      clear hk3
      go_wp2_with fail
      refine (part_any s _ h3 (by omega)).mono ?_
      rintro e w3 ⟨rfl, hb3⟩
      have HB3 := Lib.hid (bld_keep HB.out hb3)
      have hb4 := hb.trans (hb3.mono hb.size)
      have hg4 := Nat.le_trans hg hb3.size
      clear hb3 hb hg HB
      go_wp2_with fail
      refine (bwrite_any gB gB _ _ _ HB3.out HL.out hg4).mono ?_
      rintro e w5 ⟨rfl, hB5, hb5⟩
      rw [HT.out] at hB5
      have HB5 := Lib.hid hB5
      have hb6 := hb4.trans (hb5.mono hlt)
      have hg6 := Nat.le_trans hg4 hb5.size
      clear hB5 hb5 hb4 hg4 HB3
      go_wp2_with fail
      first
      | (go_roundw
         case rel => exact ⟨2, by omega, by go_num, Lib.hid (.inr HB5.out), hb6, hg6⟩
         case measure => simp [intOf])
      | exact ⟨⟨2, by omega, by go_num, Lib.hid (.inr HB5.out), hb6, hg6⟩, by simp [intOf]⟩
    by_cases hk2 : k = 2
    · subst hk2
      have HT : Hid (Lib.byteCells ((adr m s f).take 2) ++ Lib.strCells (str [by8 (bcd f)]) = Lib.byteCells ((adr m s f).take 3)) := Lib.hid (by rw [strCells_str]; rfl)
      have HL : Hid ((Lib.byteCells ((adr m s f).take 2)).length + (str [by8 (bcd f)]).size ≤ 140737488355328) := Lib.hid (by rw [str_size, Lib.byteCells_length]; simp [adr])
      clear hk3
      go_wp2_with fail
      refine (part_any f _ h5 (by omega)).mono ?_
      rintro e w3 ⟨rfl, hb3⟩
      have HB3 := Lib.hid (bld_keep HB.out hb3)
      have hb4 := hb.trans (hb3.mono hb.size)
      have hg4 := Nat.le_trans hg hb3.size
      clear hb3 hb hg HB
      go_wp2_with fail
      refine (bwrite_any gB gB _ _ _ HB3.out HL.out hg4).mono ?_
      rintro e w5 ⟨rfl, hB5, hb5⟩
      rw [HT.out] at hB5
      have HB5 := Lib.hid hB5
      have hb6 := hb4.trans (hb5.mono hlt)
      have hg6 := Nat.le_trans hg4 hb5.size
      clear hB5 hb5 hb4 hg4 HB3
      go_wp2_with fail
      first
      | (go_roundw
         case rel => exact ⟨3, by omega, by go_num, Lib.hid (.inr HB5.out), hb6, hg6⟩
         case measure => simp [intOf])
      | exact ⟨⟨3, by omega, by go_num, Lib.hid (.inr HB5.out), hb6, hg6⟩, by simp [intOf]⟩
    omega
set_option maxRecDepth 100000 in
theorem aenc_any (m s f : Int) (w : World) (h : okA m s f) : Calls Tryz.prog 48 #[msfv m s f] w (R2B (.string (str (adr m s f))) (.int .i64 0) w) := by
  have HO := Lib.hid h
  have HV := Lib.hid (vB_t h)
  clear h
  go_enter Tryz.func48, Tryz.ntmps48
  go_wp2_with fail
  refine (avalid_any m s f _).mono ?_
  rw [HV.out]
  rintro e w1 ⟨rfl, hb⟩
  have hM := (Bx.new w 36 [.int .i64 m, .int .i64 s, .int .i64 f]).call hb
  have hle := ((Below.refl w.heap.size w).alloc (Nat.le_refl _) (.cells #[.int .i64 m, .int .i64 s, .int .i64 f] 36)).trans (hb.mono (by simp))
  have c0 := hM.cell (i := 0) rfl
  have c1 := hM.cell (i := 1) rfl
  have c2 := hM.cell (i := 2) rfl
  clear hb hM
  go_wp2_with fail
  refine (awrite_any m s f _ HO.out).mono ?_
  rintro e w2 ⟨rfl, hb2⟩
  go_wp2_with fail
  go_ret2
  exact ⟨rfl, hle.trans (hb2.mono hle.size)⟩
end Go.Proofs.YtflmjdjkfognjaaGreat.W10
