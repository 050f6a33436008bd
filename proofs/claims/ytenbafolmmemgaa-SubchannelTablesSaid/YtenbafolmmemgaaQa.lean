/- Chapter 10: bytes of addresses walked (both). -/
import Derived.Test.YtenbafolmmemgaaQv
import Derived.Test.YtenbafolmmemgaaBld
import Derived.Test.YtenbafolmmemgaaQc
namespace Go.Proofs.Ytenbafolmmemgaa.W10
open Go.RowKit
set_option linter.unusedVariables false

/-- a number below 256 as a byte -/
def by8 (x : Int) : UInt8 := UInt8.ofNat x.toNat
theorem by8_nat {x : Int} (h0 : 0 ≤ x) (h1 : x < 256) : ((by8 x).toNat : Int) = x := by
  unfold by8; rw [toNat_ofNat (by omega)]; omega
theorem bcd_lt {n : Int} (h0 : 0 ≤ n) (h1 : n ≤ 99) : 0 ≤ bcd n ∧ bcd n < 256 := by unfold bcd; omega
/-- the bytes of an address -/
def adr (m s f : Int) : List UInt8 := [by8 (bcd m), by8 (bcd s), by8 (bcd f)]
def okA (m s f : Int) : Prop := 0 ≤ m ∧ m ≤ 99 ∧ 0 ≤ s ∧ s ≤ 59 ∧ 0 ≤ f ∧ f ≤ 74
/-- a byte as a string -/
theorem one_run (x : Int) (w : World) (h0 : 0 ≤ x) (h1 : x < 256) (t : TypeId) : (convert 49 9 (.slice (some ⟨w.heap.size, 0, none⟩) 1 1)).run Try.prog (w.alloc (.cells #[.int .u8 x] t)) = .ok (.string (str [by8 x])) (w.alloc (.cells #[.int .u8 x] t)) := by
  have h := run_str (dst := 9) Try.underlying49 Try.underlying5 Try.underlying9 (Rd.lit w [by8 x] t (by simp))
  have e : (bs [by8 x]).toArray = #[.int .u8 x] := by
    simp only [bs, B, List.map_cons, List.map_nil, by8_nat h0 h1]
  rw [e] at h
  exact h
theorem three_run (x y z : Int) (w : World) (h0 : 0 ≤ x) (h1 : x < 256) (h2 : 0 ≤ y) (h3 : y < 256) (h4 : 0 ≤ z) (h5 : z < 256) (t : TypeId) : (convert 49 9 (.slice (some ⟨w.heap.size, 0, none⟩) 3 3)).run Try.prog (w.alloc (.cells #[.int .u8 x, .int .u8 y, .int .u8 z] t)) = .ok (.string (str [by8 x, by8 y, by8 z])) (w.alloc (.cells #[.int .u8 x, .int .u8 y, .int .u8 z] t)) := by
  have h := run_str (dst := 9) Try.underlying49 Try.underlying5 Try.underlying9 (Rd.lit w [by8 x, by8 y, by8 z] t (by simp))
  have e : (bs [by8 x, by8 y, by8 z]).toArray = #[.int .u8 x, .int .u8 y, .int .u8 z] := by
    simp only [bs, B, List.map_cons, List.map_nil, by8_nat h0 h1, by8_nat h2 h3, by8_nat h4 h5]
  rw [e] at h
  exact h
set_option maxRecDepth 100000 in
theorem part_any (n : Int) (w : World) (h0 : 0 ≤ n) (h1 : n ≤ 99) : Calls Try.prog 58 #[.int .i64 n] w (RV (.string (str [by8 (bcd n)])) w) := by
  have hb := bcd_lt h0 h1
  have hst := one_run (bcd n) w hb.1 hb.2 5
  clear hb
  go_enter Try.func58, Try.ntmps58
  go_wp2_with (go_at_call 59; refine (bcd_any n _ h0 h1).mono ?_; rintro e w2 ⟨rfl, rfl⟩)
  go_ret
  exact ⟨rfl, (Below.refl _ _).alloc (Nat.le_refl _) _⟩
set_option maxRecDepth 100000 in
theorem raenc_any (m s f : Int) (w : World) (h : okA m s f) : Calls Try.prog 47 #[msfv m s f] w (R2B (.string (str (adr m s f))) (.int .i64 0) w) := by
  obtain ⟨h1, h2, h3, h4, h5, h6⟩ := h
  have hv := vB_t ⟨h1, h2, h3, h4, h5, h6⟩
  have b1 := bcd_lt h1 h2
  have b2 := bcd_lt h3 (by omega : s ≤ 99)
  have b3 := bcd_lt h5 (by omega : f ≤ 99)
  have HV := Lib.hid hv
  have hst := fun W => three_run (bcd m) (bcd s) (bcd f) W b1.1 b1.2 b2.1 b2.2 b3.1 b3.2 5
  clear hv b1 b2 b3
  show Calls _ _ _ _ (R2B (.string (str [by8 (bcd m), by8 (bcd s), by8 (bcd f)])) _ _)
  go_enter Try.func47, Try.ntmps47
  go_wp2_with fail
  refine (rvalid6_any m s f _).mono ?_
  rw [HV.out]
  rintro e w1 ⟨rfl, hb⟩
  have hM := (Bx.new w 25 [.int .i64 m, .int .i64 s, .int .i64 f]).call hb
  have hle := ((Below.refl w.heap.size w).alloc (Nat.le_refl _) (.cells #[.int .i64 m, .int .i64 s, .int .i64 f] 25)).trans (hb.mono (by simp))
  have c0 := hM.cell (i := 0) rfl
  have c1 := hM.cell (i := 1) rfl
  have c2 := hM.cell (i := 2) rfl
  clear hb hM
  go_wp2_with fail
  refine (rbcd_any m _ h1 h2).mono ?_
  rintro e w2 ⟨rfl, rfl⟩
  go_wp2_with fail
  refine (rbcd_any s _ h3 (by omega)).mono ?_
  rintro e w2 ⟨rfl, rfl⟩
  go_wp2_with fail
  refine (rbcd_any f _ h5 (by omega)).mono ?_
  rintro e w2 ⟨rfl, rfl⟩
  go_wp2_with fail
  go_ret2
  exact ⟨rfl, hle.alloc hle.size _⟩
theorem strCells_str (l : List UInt8) : Lib.strCells (str l) = Lib.byteCells l := by
  simp [Lib.strCells, Lib.byteCells, str]
theorem bld_keep {T e : TypeId} {B b : Nat} {cs : List Value} {w w' : World} (h : Lib.IsBuilder T e B b cs w) (hb : Below w.heap.size w w') : Lib.IsBuilder T e B b cs w' := by
  have k : ∀ p, Lib.BuilderAt T e B b p cs w → Lib.BuilderAt T e B b p cs w' := fun p h => by
    have hl := h.lt
    obtain ⟨h1, v, h2, h3, h4⟩ := h
    exact ⟨h1, v, (hb.block b hl).trans h2, ownD_keep h3 hb, h4⟩
  exact h.imp (k _) (k _)
set_option maxRecDepth 100000 in
set_option maxHeartbeats 2000000 in
theorem awrite_any (m s f : Int) (w : World) (h : okA m s f) : Calls Try.prog 57 #[msfv m s f, .func (.func 58) #[] #[]] w (RV (.string (str (adr m s f))) w) := by
  have i0 : ∀ w, (Instr.index 75 (.agg #[.int .i64 m, .int .i64 s, .int .i64 f]) (.int .i64 0)).run Try.prog w = .ok (.int .i64 m) w := fun _ => by kernel_rfl
  have i1 : ∀ w, (Instr.index 75 (.agg #[.int .i64 m, .int .i64 s, .int .i64 f]) (.int .i64 1)).run Try.prog w = .ok (.int .i64 s) w := fun _ => by kernel_rfl
  have i2 : ∀ w, (Instr.index 75 (.agg #[.int .i64 m, .int .i64 s, .int .i64 f]) (.int .i64 2)).run Try.prog w = .ok (.int .i64 f) w := fun _ => by kernel_rfl
  obtain ⟨h1, h2, h3, h4, h5, h6⟩ := h
  have HA : Hid (adr m s f = [by8 (bcd m), by8 (bcd s), by8 (bcd f)]) := Lib.hid rfl
  go_enter Try.func57, Try.ntmps57
  go_upto_region 2 with (fail)
  have hm0 : Bx (w.alloc (.cells #[.int .i64 m, .int .i64 s, .int .i64 f] 25)) w.heap.size 25 [.int .i64 m, .int .i64 s, .int .i64 f] := Bx.new _ _ _
  have hb0 := (Below.refl w.heap.size w).alloc (Nat.le_refl _) (.cells #[.int .i64 m, .int .i64 s, .int .i64 f] 25)
  have hsz0 : (w.alloc (.cells #[.int .i64 m, .int .i64 s, .int .i64 f] 25)).heap.size = w.heap.size + 1 := by simp
  generalize w.alloc (.cells #[.int .i64 m, .int .i64 s, .int .i64 f] 25) = w0 at hm0 hb0 hsz0 ⊢
  have hB0 := Lib.fresh_isBuilder 92 5 w0
  have hb1 := hb0.alloc hb0.size (.cells #[.pointer none, .slice none 0 0] 92)
  have hm1 := hm0.alloc (.cells #[.pointer none, .slice none 0 0] 92)
  have hg1 : w0.heap.size ≤ (w0.alloc (.cells #[.pointer none, .slice none 0 0] 92)).heap.size := by simp
  rw [← hsz0]
  obtain ⟨gB, hgB⟩ : ∃ gB, gB = w0.heap.size := ⟨_, rfl⟩
  have hlt : w.heap.size ≤ gB := by omega
  rw [← hgB] at hB0 hg1
  simp only [← hgB]
  generalize w0.alloc (.cells #[.pointer none, .slice none 0 0] 92) = w1 at hB0 hb1 hm1 hg1 ⊢
  clear hsz0 hgB hm0 hb0
  have c0 := hm1.cell (i := 0) rfl
  have c1 := hm1.cell (i := 1) rfl
  have c2 := hm1.cell (i := 2) rfl
  have HB0 := Lib.hid hB0; clear hB0
  go_wp2_with fail
  refine (split_any m s f _).mono ?_
  rintro e w2 ⟨rfl, hb2⟩
  have HB2 := Lib.hid (bld_keep HB0.out hb2)
  have hb3 := hb1.trans (hb2.mono hb1.size)
  have hg3 := Nat.le_trans hg1 hb2.size
  clear hb2 hb1 hg1 c0 c1 c2 hm1 HB0
  go_wp2_with fail
  go_loopw [10] (fun vi wr => ∃ (k : Nat), k ≤ 3 ∧ vi = .int .i64 k ∧ Hid (Lib.IsBuilder 92 5 gB gB (Lib.byteCells ((adr m s f).take k)) wr) ∧ Below w.heap.size w wr ∧ gB ≤ wr.heap.size) (fun vi _ => 3 - (intOf vi).toNat)
  case atStart => exact ⟨0, by omega, rfl, HB2, hb3, hg3⟩
  case round =>
    clear HB2 hb3 hg3
    obtain ⟨k, hk, rfl, HB, hb, hg⟩ := hrel
    by_cases hk3 : k = 3
    · subst hk3
      have HT : Hid ((adr m s f).take 3 = adr m s f) := Lib.hid rfl
      rw [HT.out] at HB
      go_wp2_with fail
      refine (Try.Builder_String_any gB gB (adr m s f) _ HB.out hg).mono ?_
      rintro e w3 ⟨rfl, hb3⟩
      go_wp2_with fail
      go_ret
      exact ⟨rfl, hb.trans (hb3.mono hlt)⟩
    by_cases hk0 : k = 0
    · subst hk0
      have HT : Hid (Lib.byteCells ((adr m s f).take 0) ++ Lib.strCells (str [by8 (bcd m)]) = Lib.byteCells ((adr m s f).take 1)) := Lib.hid (by rw [strCells_str]; rfl)
      have HL : Hid ((Lib.byteCells ((adr m s f).take 0)).length + (str [by8 (bcd m)]).size ≤ 140737488355328) := Lib.hid (by rw [str_size, Lib.byteCells_length]; simp [adr])
      clear hk3
      go_wp2_with fail
      refine (part_any m _ h1 h2).mono ?_
      rintro e w3 ⟨rfl, hb3⟩
      have HB3 := Lib.hid (bld_keep HB.out hb3)
      have hb4 := hb.trans (hb3.mono hb.size)
      have hg4 := Nat.le_trans hg hb3.size
      clear hb3 hb hg HB
      go_wp2_with fail
      refine (bwrite_any gB gB _ _ _ HB3.out HL.out hg4).mono ?_
      rintro e w5 ⟨rfl, hB5, hb5⟩
      rw [HT.out] at hB5
      have HB5 := Lib.hid hB5
      have hb6 := hb4.trans (hb5.mono hlt)
      have hg6 := Nat.le_trans hg4 hb5.size
      clear hB5 hb5 hb4 hg4 HB3
      go_wp2_with fail
      first
      | (go_roundw
         case rel => exact ⟨1, by omega, by go_num, Lib.hid (.inr HB5.out), hb6, hg6⟩
         case measure => simp [intOf])
      | exact ⟨⟨1, by omega, by go_num, Lib.hid (.inr HB5.out), hb6, hg6⟩, by simp [intOf]⟩
    by_cases hk1 : k = 1
    · subst hk1
      have HT : Hid (Lib.byteCells ((adr m s f).take 1) ++ Lib.strCells (str [by8 (bcd s)]) = Lib.byteCells ((adr m s f).take 2)) := Lib.hid (by rw [strCells_str]; rfl)
      have HL : Hid ((Lib.byteCells ((adr m s f).take 1)).length + (str [by8 (bcd s)]).size ≤ 140737488355328) := Lib.hid (by rw [str_size, Lib.byteCells_length]; simp [adr])
      clear hk3
      go_wp2_with fail
      refine (part_any s _ h3 (by omega)).mono ?_
      rintro e w3 ⟨rfl, hb3⟩
      have HB3 := Lib.hid (bld_keep HB.out hb3)
      have hb4 := hb.trans (hb3.mono hb.size)
      have hg4 := Nat.le_trans hg hb3.size
      clear hb3 hb hg HB
      go_wp2_with fail
      refine (bwrite_any gB gB _ _ _ HB3.out HL.out hg4).mono ?_
      rintro e w5 ⟨rfl, hB5, hb5⟩
      rw [HT.out] at hB5
      have HB5 := Lib.hid hB5
      have hb6 := hb4.trans (hb5.mono hlt)
      have hg6 := Nat.le_trans hg4 hb5.size
      clear hB5 hb5 hb4 hg4 HB3
      go_wp2_with fail
      first
      | (go_roundw
         case rel => exact ⟨2, by omega, by go_num, Lib.hid (.inr HB5.out), hb6, hg6⟩
         case measure => simp [intOf])
      | exact ⟨⟨2, by omega, by go_num, Lib.hid (.inr HB5.out), hb6, hg6⟩, by simp [intOf]⟩
    by_cases hk2 : k = 2
    · subst hk2
      have HT : Hid (Lib.byteCells ((adr m s f).take 2) ++ Lib.strCells (str [by8 (bcd f)]) = Lib.byteCells ((adr m s f).take 3)) := Lib.hid (by rw [strCells_str]; rfl)
      have HL : Hid ((Lib.byteCells ((adr m s f).take 2)).length + (str [by8 (bcd f)]).size ≤ 140737488355328) := Lib.hid (by rw [str_size, Lib.byteCells_length]; simp [adr])
      clear hk3
      go_wp2_with fail
      refine (part_any f _ h5 (by omega)).mono ?_
      rintro e w3 ⟨rfl, hb3⟩
      have HB3 := Lib.hid (bld_keep HB.out hb3)
      have hb4 := hb.trans (hb3.mono hb.size)
      have hg4 := Nat.le_trans hg hb3.size
      clear hb3 hb hg HB
      go_wp2_with fail
      refine (bwrite_any gB gB _ _ _ HB3.out HL.out hg4).mono ?_
      rintro e w5 ⟨rfl, hB5, hb5⟩
      rw [HT.out] at hB5
      have HB5 := Lib.hid hB5
      have hb6 := hb4.trans (hb5.mono hlt)
      have hg6 := Nat.le_trans hg4 hb5.size
      clear hB5 hb5 hb4 hg4 HB3
      go_wp2_with fail
      first
      | (go_roundw
         case rel => exact ⟨3, by omega, by go_num, Lib.hid (.inr HB5.out), hb6, hg6⟩
         case measure => simp [intOf])
      | exact ⟨⟨3, by omega, by go_num, Lib.hid (.inr HB5.out), hb6, hg6⟩, by simp [intOf]⟩
    omega
set_option maxRecDepth 100000 in
theorem aenc_any (m s f : Int) (w : World) (h : okA m s f) : Calls Try.prog 41 #[msfv m s f] w (R2B (.string (str (adr m s f))) (.int .i64 0) w) := by
  have HO := Lib.hid h
  have HV := Lib.hid (vB_t h)
  clear h
  go_enter Try.func41, Try.ntmps41
  go_wp2_with fail
  refine (avalid_any m s f _).mono ?_
  rw [HV.out]
  rintro e w1 ⟨rfl, hb⟩
  have hM := (Bx.new w 25 [.int .i64 m, .int .i64 s, .int .i64 f]).call hb
  have hle := ((Below.refl w.heap.size w).alloc (Nat.le_refl _) (.cells #[.int .i64 m, .int .i64 s, .int .i64 f] 25)).trans (hb.mono (by simp))
  have c0 := hM.cell (i := 0) rfl
  have c1 := hM.cell (i := 1) rfl
  have c2 := hM.cell (i := 2) rfl
  clear hb hM
  go_wp2_with fail
  refine (awrite_any m s f _ HO.out).mono ?_
  rintro e w2 ⟨rfl, hb2⟩
  go_wp2_with fail
  go_ret2
  exact ⟨rfl, hle.trans (hb2.mono hle.size)⟩
set_option maxRecDepth 100000 in
theorem msfs_any (m s f : Int) (w : World) (h : okA m s f) : Calls Try.prog 40 #[msfv m s f] w (RV (.string (str (adr m s f))) w) := by
  have HO := Lib.hid h
  clear h
  go_enter Try.func40, Try.ntmps40
  go_wp2_with fail
  refine (aenc_any m s f _ HO.out).mono ?_
  rintro e w1 ⟨rfl, hb⟩
  have hle := ((Below.refl w.heap.size w).alloc (Nat.le_refl _) (.cells #[.int .i64 m, .int .i64 s, .int .i64 f] 25)).trans (hb.mono (by simp))
  go_wp2_with fail
  go_ret
  exact ⟨rfl, hle⟩
end Go.Proofs.Ytenbafolmmemgaa.W10
