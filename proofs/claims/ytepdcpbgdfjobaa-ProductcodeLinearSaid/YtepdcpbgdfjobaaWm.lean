/- Chapter 8: the law ProductcodeLinear walked. -/
import Derived.Test.YtepdcpbgdfjobaaWl
import Derived.Test.YtepdcpbgdfjobaaWg
import Derived.Test.YtepdcpbgdfjobaaRef4b
namespace Go.Proofs.Ytepdcpbgdfjobaa.W8
open Go.RowKit Go.Shelf
set_option linter.unusedVariables false

theorem ext_str (l : List UInt8) (n : Nat) : (str l).extract 0 n = str (l.take n) := by
  unfold str
  ext1
  simp [ByteArray.extract, ByteArray.copySlice]
theorem soundN_of {R : List UInt8} {f : Int} : ∀ k, (∀ j, j < k → G.validB (takeL R (wd j) f) 2 = true) → soundN R f k = true
  | 0, _ => rfl
  | k + 1, h => by rw [soundN, soundN_of k (fun j hj => h j (by omega)), h k (by omega)]; rfl
theorem fst_16 (m : Int) : fstI m ≤ 16 := by unfold fstI; split <;> (try split) <;> omega
theorem enc8_ok {raw : List UInt8} {m : Int} (hl : raw.length = 2352) (hm : fstB m = true) : enc8 raw m = (encN raw (fstI m) 138, 0) := by
  unfold enc8 fitB
  rw [hl, hm]
  rfl
theorem vld_enc {raw : List UInt8} {m : Int} (hl : raw.length = 2352) (hm : fstB m = true) : vldB (encN raw (fstI m) 138) m = true := by
  unfold vldB soundB
  rw [hm, encN_length, hl, soundN_of 138 (enc_words hl (fst_16 m) 138 (Nat.le_refl _))]
  rfl
theorem take_enc {raw : List UInt8} {f : Int} (hl : raw.length = 2352) : (encN raw f 138).take 2076 = raw.take 2076 := by
  apply G.ext_ix
  · rw [List.length_take, List.length_take, encN_length]
  · intro i hi
    have h1 : i < 2076 := by rw [List.length_take] at hi; omega
    rw [ix_take h1, ix_take h1, enc_keeps hl i h1 138 (Nat.le_refl _)]
def lin13V (A X Y Z PX : ByteArray) (m : Int) (i : Nat) (v : Value) (W : World) : Prop := match i with
  | 0 => v = .string X
  | 1 => v = .string PX
  | 2 => v = .string A
  | 3 => v = .string PX
  | 4 => v = .bool true
  | 5 => v = .bool true
  | 6 => v = .string X
  | 7 => v = .int .i64 m
  | 8 => v = .bool true
  | 9 => v = .bool true
  | 10 => v = .bool true
  | 11 => v = .string Z
  | 12 => v = .string X
  | 13 => v = .string Y
  | 14 => v = .string Z
  | 15 => v = .bool true
  | 16 => v = .bool true
  | 17 => v = .bool true
  | 18 => v = .string X
  | 19 => v = .string X
  | 20 => v = .bool true
  | 21 => v = .bool true
  | 22 => v = .bool true
  | _ => True
theorem lin13V_keep (A X Y Z PX : ByteArray) (m : Int) (i : Nat) (v : Value) (W W' : World) (hR : (fun w W => Below w.heap.size w W) W W') (h : lin13V A X Y Z PX m i v W) : lin13V A X Y Z PX m i v W' := by
  unfold lin13V at h ⊢
  split at h <;> first | exact h
set_option maxRecDepth 100000 in
set_option maxHeartbeats 4000000 in
theorem linear_len1 (w : World) (a b : List UInt8) (m : Int) (ha : a.length ≤ 9223372036854775807) (hb : b.length ≤ 9223372036854775807) (h : a.length ≠ 2352) : Calls Try.prog 6 #[.string (str a), .string (str b), .int .i64 m] w fun e w' => e = .returned (.bool true) ∧ Below w.heap.size w w' := by
  have hz := str_size a
  have hd : ((a.length : Int) != 2352) = true := by simp; omega
  have H := Lib.hid h
  clear h
  go_enter Try.func6, Try.ntmps6
  go_wp2_with fail
  refine (awake8_any _).mono ?_
  rintro e w0 ⟨rfl, hb0⟩
  go_wp2_with fail
  go_ret
  exact ⟨rfl, hb0⟩
set_option maxRecDepth 100000 in
set_option maxHeartbeats 4000000 in
theorem linear_len2 (w : World) (a b : List UInt8) (m : Int) (ha : a.length ≤ 9223372036854775807) (hb : b.length ≤ 9223372036854775807) (h1 : a.length = 2352) (h : b.length ≠ 2352) : Calls Try.prog 6 #[.string (str a), .string (str b), .int .i64 m] w fun e w' => e = .returned (.bool true) ∧ Below w.heap.size w w' := by
  have hz := str_size a
  have hy := str_size b
  rw [h1] at hz
  have hd : ((b.length : Int) != 2352) = true := by simp; omega
  have hd2 : ((2352 : Int) != 2352) = false := by decide
  have H := Lib.hid h; have H1 := Lib.hid h1
  clear h h1
  go_enter Try.func6, Try.ntmps6
  go_wp2_with fail
  refine (awake8_any _).mono ?_
  rintro e w0 ⟨rfl, hb0⟩
  go_wp2_with fail
  go_ret
  exact ⟨rfl, hb0⟩
set_option maxRecDepth 100000 in
set_option maxHeartbeats 4000000 in
theorem linear_mode (w : World) (a b : List UInt8) (m : Int) (ha : a.length ≤ 9223372036854775807) (hb : b.length ≤ 9223372036854775807) (h1 : a.length = 2352) (h2 : b.length = 2352) (hm : fstB m = false) : Calls Try.prog 6 #[.string (str a), .string (str b), .int .i64 m] w fun e w' => e = .returned (.bool true) ∧ Below w.heap.size w w' := by
  have hz := str_size a
  have hy := str_size b
  rw [h1] at hz
  rw [h2] at hy
  have hd2 : ((2352 : Int) != 2352) = false := by decide
  have h0 : m ≠ 0 ∧ m ≠ 1 := by
    unfold fstB at hm
    simp only [Bool.or_eq_false_iff, decide_eq_false_iff_not] at hm
    exact hm
  have hq0 : (m != 0) = true := by simpa using h0.1
  have hq1 : (m != 1) = true := by simpa using h0.2
  have HE := Lib.hid (fun W => encode8_any a m W ha)
  have HV := Lib.hid (fun W => valid8_any a m W ha)
  have e1 : enc8 a m = ([], 1) := by unfold enc8 fitB; rw [hm, Bool.and_false]; rfl
  have e2 : vldB a m = false := by unfold vldB; rw [hm, Bool.false_and]
  rw [e1] at HE
  rw [e2] at HV
  have H1 := Lib.hid h1; have H2 := Lib.hid h2; have H0 := Lib.hid h0
  clear h1 h2 hm h0 e1 e2
  go_enter Try.func6, Try.ntmps6
  go_wp2_with fail
  refine (awake8_any _).mono ?_
  rintro e w0 ⟨rfl, hb0⟩
  go_wp2_with fail
  refine (HE.out _).mono ?_
  rintro e w1 ⟨rfl, hb1⟩
  have hB1 := hb0.trans (hb1.mono hb0.size)
  have hq : (str []).toList = [] := str_toList []
  clear hb0 hb1
  go_wp2_with fail
  refine (HV.out _).mono ?_
  rintro e w2 ⟨rfl, hb2⟩
  have hB2 := hB1.trans (hb2.mono hB1.size)
  clear hB1 hb2
  go_wp2_with fail
  go_ret
  exact ⟨rfl, hB2⟩
set_option maxRecDepth 100000 in
set_option maxHeartbeats 4000000 in
theorem linear_ok (w : World) (a b : List UInt8) (m : Int) (ha : a.length ≤ 9223372036854775807) (hb : b.length ≤ 9223372036854775807) (h1 : a.length = 2352) (h2 : b.length = 2352) (hm : fstB m = true) : Calls Try.prog 6 #[.string (str a), .string (str b), .int .i64 m] w fun e w' => e = .returned (.bool true) ∧ Below w.heap.size w w' := by
  have hz := str_size a
  have hy := str_size b
  rw [h1] at hz
  rw [h2] at hy
  have hd2 : ((2352 : Int) != 2352) = false := by decide
  have hab : a.length = b.length := by omega
  have hq : ((m != 0) && (m != 1)) = false := by
    unfold fstB at hm
    cases c1 : decide (m = 0) <;> cases c2 : decide (m = 1) <;> simp_all
  have HX1 := Lib.hid (fun W => encode8_any a m W ha)
  have HX2 := Lib.hid (fun W => encode8_any b m W hb)
  have HXa := Lib.hid (fun W => xor_any a b W (by omega) (by omega))
  have HX3 := Lib.hid (fun W => encode8_any (G.xorL a b) m W (by rw [G.xorL_length hab]; omega))
  have HX4 := Lib.hid (fun W => encode8_any (encN a (fstI m) 138) m W (by rw [encN_length]; omega))
  have HV := Lib.hid (fun W => valid8_any (encN a (fstI m) 138) m W (by rw [encN_length]; omega))
  have HXO := Lib.hid (fun W => xor_any (encN a (fstI m) 138) (encN b (fstI m) 138) W (by rw [encN_length, encN_length]; omega) (by rw [encN_length]; omega))
  rw [enc8_ok h1 hm] at HX1
  rw [enc8_ok h2 hm] at HX2
  rw [enc8_ok (by rw [G.xorL_length hab]; exact h1) hm, enc_xor hab] at HX3
  rw [enc8_ok (by rw [encN_length]; exact h1) hm, enc_same (fst_16 m) (enc_words h1 (fst_16 m) 138 (Nat.le_refl _)) 138 (Nat.le_refl _)] at HX4
  rw [vld_enc h1 hm] at HV
  have hpx : (str (encN a (fstI m) 138)).extract 0 2076 = str (a.take 2076) := by rw [ext_str, take_enc h1]
  have hpa : (str a).extract 0 2076 = str (a.take 2076) := ext_str _ _
  have hsx : (str (encN a (fstI m) 138)).size = 2352 := by rw [str_size, encN_length]; exact h1
  have hsy : (str (encN b (fstI m) 138)).size = 2352 := by rw [str_size, encN_length]; exact h2
  dsimp only at HX1 HX2 HX3 HX4
  generalize str (a.take 2076) = PX at *
  generalize str (encN a (fstI m) 138) = X at *
  generalize str (encN b (fstI m) 138) = Y at *
  generalize str (G.xorL (encN a (fstI m) 138) (encN b (fstI m) 138)) = Z at *
  generalize str (G.xorL a b) = AB at *
  generalize str a = A at *
  generalize str b = B' at *
  have HPX := Lib.hid hpx; have HPA := Lib.hid hpa; have HSX := Lib.hid hsx; have HSA := Lib.hid hz
  have hsx2 := HSX.out
  have hsy2 := hsy
  have HQ := Lib.hid hq
  have HM := Lib.hid hm
  clear h1 h2 hm hab hpx hpa hsx hsy hq ha hb
  have hq2 : (m != 0) = false ∨ ((m != 0) = true ∧ (m != 1) = false) := by
    have := HQ.out
    cases c : (m != 0) <;> simp_all
  rcases hq2 with hq0 | ⟨hq0, hq1⟩
  · go_enter Try.func6, Try.ntmps6
    go_wp2_with fail
    refine (awake8_any _).mono ?_
    rintro e w0 ⟨rfl, hb0⟩
    go_wp2_with fail
    refine (HX1.out _).mono ?_
    rintro e w1 ⟨rfl, hb1⟩
    have hB1 := hb0.trans (hb1.mono hb0.size)
    clear hb0 hb1
    go_wp2_with fail
    refine (HX2.out _).mono ?_
    rintro e w2 ⟨rfl, hb2⟩
    have hB2 := hB1.trans (hb2.mono hB1.size)
    clear hB1 hb2
    go_wp2_with fail
    refine (HXa.out _).mono ?_
    rintro e w3 ⟨rfl, hb3⟩
    have hB3 := hB2.trans (hb3.mono hB2.size)
    clear hB2 hb3
    go_wp2_with fail
    refine (HX3.out _).mono ?_
    rintro e w4 ⟨rfl, hb4⟩
    have hB4 := hB3.trans (hb4.mono hB3.size)
    clear hB3 hb4
    go_wp2_with fail
    refine (HX4.out _).mono ?_
    rintro e w5 ⟨rfl, hb5⟩
    have hB5 := hB4.trans (hb5.mono hB4.size)
    have HB5 := Lib.hid hB5
    clear hB4 hb5 hB5
    go_wp2_with fail
    refine wp_region_inr (by kernel_rfl) (fun w W => Below w.heap.size w W) (fun W => Below w5.heap.size w5 W) (lin13V A X Y Z PX m) (fun _ => false) (by kernel_rfl) (fun W W' hb h => h.trans (hb.mono h.size)) (lin13V_keep A X Y Z PX m) ((Below.refl _ _).drew) ⟨?_, ?_, ?_, ?_, ?_, ?_, ?_, ?_, ?_, ?_, ?_, ?_, ?_, ?_, ?_, ?_, ?_, ?_, ?_, ?_, ?_, ?_, ?_, trivial⟩ ?_
    · intro a W hc hsz hold hdep
      have o7 : a.tmps.getD 7 undef = .string X := hold 7 (by kernel_rfl)
      clear hsz hold hdep
      refine stepR_do rfl (wanted_none rfl) ?_
      refine stepR_val (v := .string X) (Below.refl _ _) rfl fun K hK => ?_
      go_simp
      exact hK
    · intro a W hc hsz hold hdep
      have d0 : a.tmps.getD 93 undef = .string X := hdep 0 (by kernel_rfl) rfl _ rfl
      have hs := HSX.out
      have hx := HPX.out
      clear hsz hold hdep
      refine stepR_do rfl (wanted_none rfl) ?_
      refine stepR_val (v := .string PX) (Below.refl _ _) rfl fun K hK => ?_
      go_simp
      exact hK
    · intro a W hc hsz hold hdep
      have o0 : a.tmps.getD 0 undef = .string A := hold 0 (by kernel_rfl)
      clear hsz hold hdep
      refine stepR_do rfl (wanted_none rfl) ?_
      refine stepR_val (v := .string A) (Below.refl _ _) rfl fun K hK => ?_
      go_simp
      exact hK
    · intro a W hc hsz hold hdep
      have d2 : a.tmps.getD 95 undef = .string A := hdep 2 (by kernel_rfl) rfl _ rfl
      have hs := HSA.out
      have hx := HPA.out
      clear hsz hold hdep
      refine stepR_do rfl (wanted_none rfl) ?_
      refine stepR_val (v := .string PX) (Below.refl _ _) rfl fun K hK => ?_
      go_simp
      exact hK
    · intro a W hc hsz hold hdep
      have d1 : a.tmps.getD 94 undef = .string PX := hdep 1 (by kernel_rfl) rfl _ rfl
      have d3 : a.tmps.getD 96 undef = .string PX := hdep 3 (by kernel_rfl) rfl _ rfl
      clear hsz hold hdep
      refine stepR_do rfl (wanted_none rfl) ?_
      refine stepR_val (v := .bool true) (Below.refl _ _) rfl fun K hK => ?_
      go_simp
      exact hK
    · intro a W hc hsz hold hdep
      have d4 : a.tmps.getD 97 undef = .bool true := hdep 4 (by kernel_rfl) rfl _ rfl
      clear hsz hold hdep
      refine stepR_do rfl (wanted_none rfl) ?_
      refine stepR_val (v := .bool true) (Below.refl _ _) rfl fun K hK => ?_
      go_simp
      exact hK
    · intro a W hc hsz hold hdep
      have o7 : a.tmps.getD 7 undef = .string X := hold 7 (by kernel_rfl)
      have g6 : a.tmps.getD 98 undef = .bool true := hdep 5 (by kernel_rfl) rfl _ rfl
      clear hsz hold hdep
      refine stepR_do rfl ((wanted_of (want := true) rfl rfl g6).trans rfl) ?_
      clear g6
      refine stepR_val (v := .string X) (Below.refl _ _) rfl fun K hK => ?_
      go_simp
      exact hK
    · intro a W hc hsz hold hdep
      have o2 : a.tmps.getD 2 undef = .int .i64 m := hold 2 (by kernel_rfl)
      have g7 : a.tmps.getD 98 undef = .bool true := hdep 5 (by kernel_rfl) rfl _ rfl
      clear hsz hold hdep
      refine stepR_do rfl ((wanted_of (want := true) rfl rfl g7).trans rfl) ?_
      clear g7
      refine stepR_val (v := .int .i64 m) (Below.refl _ _) rfl fun K hK => ?_
      go_simp
      exact hK
    · intro a W hc hsz hold hdep
      have d6 : a.tmps.getD 99 undef = .string X := hdep 6 (by kernel_rfl) rfl _ rfl
      have e6 : a.tmps[99]?.getD undef = .string X := by rw [← Array.getD_eq_getD_getElem?]; exact d6
      have d7 : a.tmps.getD 100 undef = .int .i64 m := hdep 7 (by kernel_rfl) rfl _ rfl
      have e7 : a.tmps[100]?.getD undef = .int .i64 m := by rw [← Array.getD_eq_getD_getElem?]; exact d7
      have g8 : a.tmps.getD 98 undef = .bool true := hdep 5 (by kernel_rfl) rfl _ rfl
      clear hsz hold hdep
      refine stepR_do rfl ((wanted_of (want := true) rfl rfl g8).trans rfl) ?_
      clear g8
      refine stepR_call (v := .bool true) (fun W' hb => hb) (fun _ => rfl) fun K hK => ?_
      go_simp
      refine (HV.out W).mono ?_
      rintro e w' ⟨rfl, hb'⟩
      exact hK _ hb'
    · intro a W hc hsz hold hdep
      have d5 : a.tmps.getD 98 undef = .bool true := hdep 5 (by kernel_rfl) rfl _ rfl
      have d8 : a.tmps.getD 101 undef = .bool true := hdep 8 (by kernel_rfl) rfl _ rfl
      clear hsz hold hdep
      refine stepR_do rfl (wanted_none rfl) ?_
      refine stepR_val (v := .bool true) (Below.refl _ _) rfl fun K hK => ?_
      go_simp
      exact hK
    · intro a W hc hsz hold hdep
      have d9 : a.tmps.getD 102 undef = .bool true := hdep 9 (by kernel_rfl) rfl _ rfl
      clear hsz hold hdep
      refine stepR_do rfl (wanted_none rfl) ?_
      refine stepR_val (v := .bool true) (Below.refl _ _) rfl fun K hK => ?_
      go_simp
      exact hK
    · intro a W hc hsz hold hdep
      have o11 : a.tmps.getD 11 undef = .string Z := hold 11 (by kernel_rfl)
      have g11 : a.tmps.getD 103 undef = .bool true := hdep 10 (by kernel_rfl) rfl _ rfl
      clear hsz hold hdep
      refine stepR_do rfl ((wanted_of (want := true) rfl rfl g11).trans rfl) ?_
      clear g11
      refine stepR_val (v := .string Z) (Below.refl _ _) rfl fun K hK => ?_
      go_simp
      exact hK
    · intro a W hc hsz hold hdep
      have o7 : a.tmps.getD 7 undef = .string X := hold 7 (by kernel_rfl)
      have g12 : a.tmps.getD 103 undef = .bool true := hdep 10 (by kernel_rfl) rfl _ rfl
      clear hsz hold hdep
      refine stepR_do rfl ((wanted_of (want := true) rfl rfl g12).trans rfl) ?_
      clear g12
      refine stepR_val (v := .string X) (Below.refl _ _) rfl fun K hK => ?_
      go_simp
      exact hK
    · intro a W hc hsz hold hdep
      have o9 : a.tmps.getD 9 undef = .string Y := hold 9 (by kernel_rfl)
      have g13 : a.tmps.getD 103 undef = .bool true := hdep 10 (by kernel_rfl) rfl _ rfl
      clear hsz hold hdep
      refine stepR_do rfl ((wanted_of (want := true) rfl rfl g13).trans rfl) ?_
      clear g13
      refine stepR_val (v := .string Y) (Below.refl _ _) rfl fun K hK => ?_
      go_simp
      exact hK
    · intro a W hc hsz hold hdep
      have d12 : a.tmps.getD 105 undef = .string X := hdep 12 (by kernel_rfl) rfl _ rfl
      have e12 : a.tmps[105]?.getD undef = .string X := by rw [← Array.getD_eq_getD_getElem?]; exact d12
      have d13 : a.tmps.getD 106 undef = .string Y := hdep 13 (by kernel_rfl) rfl _ rfl
      have e13 : a.tmps[106]?.getD undef = .string Y := by rw [← Array.getD_eq_getD_getElem?]; exact d13
      have g14 : a.tmps.getD 103 undef = .bool true := hdep 10 (by kernel_rfl) rfl _ rfl
      clear hsz hold hdep
      refine stepR_do rfl ((wanted_of (want := true) rfl rfl g14).trans rfl) ?_
      clear g14
      refine stepR_call (v := .string Z) (fun W' hb => hb) (fun _ => rfl) fun K hK => ?_
      go_simp
      refine (HXO.out W).mono ?_
      rintro e w' ⟨rfl, hb'⟩
      exact hK _ hb'
    · intro a W hc hsz hold hdep
      have d11 : a.tmps.getD 104 undef = .string Z := hdep 11 (by kernel_rfl) rfl _ rfl
      have d14 : a.tmps.getD 107 undef = .string Z := hdep 14 (by kernel_rfl) rfl _ rfl
      have g15 : a.tmps.getD 103 undef = .bool true := hdep 10 (by kernel_rfl) rfl _ rfl
      clear hsz hold hdep
      refine stepR_do rfl ((wanted_of (want := true) rfl rfl g15).trans rfl) ?_
      clear g15
      refine stepR_val (v := .bool true) (Below.refl _ _) rfl fun K hK => ?_
      go_simp
      exact hK
    · intro a W hc hsz hold hdep
      have d10 : a.tmps.getD 103 undef = .bool true := hdep 10 (by kernel_rfl) rfl _ rfl
      have d15 : a.tmps.getD 108 undef = .bool true := hdep 15 (by kernel_rfl) rfl _ rfl
      clear hsz hold hdep
      refine stepR_do rfl (wanted_none rfl) ?_
      refine stepR_val (v := .bool true) (Below.refl _ _) rfl fun K hK => ?_
      go_simp
      exact hK
    · intro a W hc hsz hold hdep
      have d16 : a.tmps.getD 109 undef = .bool true := hdep 16 (by kernel_rfl) rfl _ rfl
      clear hsz hold hdep
      refine stepR_do rfl (wanted_none rfl) ?_
      refine stepR_val (v := .bool true) (Below.refl _ _) rfl fun K hK => ?_
      go_simp
      exact hK
    · intro a W hc hsz hold hdep
      have o13 : a.tmps.getD 13 undef = .string X := hold 13 (by kernel_rfl)
      have g18 : a.tmps.getD 110 undef = .bool true := hdep 17 (by kernel_rfl) rfl _ rfl
      clear hsz hold hdep
      refine stepR_do rfl ((wanted_of (want := true) rfl rfl g18).trans rfl) ?_
      clear g18
      refine stepR_val (v := .string X) (Below.refl _ _) rfl fun K hK => ?_
      go_simp
      exact hK
    · intro a W hc hsz hold hdep
      have o7 : a.tmps.getD 7 undef = .string X := hold 7 (by kernel_rfl)
      have g19 : a.tmps.getD 110 undef = .bool true := hdep 17 (by kernel_rfl) rfl _ rfl
      clear hsz hold hdep
      refine stepR_do rfl ((wanted_of (want := true) rfl rfl g19).trans rfl) ?_
      clear g19
      refine stepR_val (v := .string X) (Below.refl _ _) rfl fun K hK => ?_
      go_simp
      exact hK
    · intro a W hc hsz hold hdep
      have d18 : a.tmps.getD 111 undef = .string X := hdep 18 (by kernel_rfl) rfl _ rfl
      have d19 : a.tmps.getD 112 undef = .string X := hdep 19 (by kernel_rfl) rfl _ rfl
      have g20 : a.tmps.getD 110 undef = .bool true := hdep 17 (by kernel_rfl) rfl _ rfl
      clear hsz hold hdep
      refine stepR_do rfl ((wanted_of (want := true) rfl rfl g20).trans rfl) ?_
      clear g20
      refine stepR_val (v := .bool true) (Below.refl _ _) rfl fun K hK => ?_
      go_simp
      exact hK
    · intro a W hc hsz hold hdep
      have d17 : a.tmps.getD 110 undef = .bool true := hdep 17 (by kernel_rfl) rfl _ rfl
      have d20 : a.tmps.getD 113 undef = .bool true := hdep 20 (by kernel_rfl) rfl _ rfl
      clear hsz hold hdep
      refine stepR_do rfl (wanted_none rfl) ?_
      refine stepR_val (v := .bool true) (Below.refl _ _) rfl fun K hK => ?_
      go_simp
      exact hK
    · intro a W hc hsz hold hdep
      have d21 : a.tmps.getD 114 undef = .bool true := hdep 21 (by kernel_rfl) rfl _ rfl
      clear hsz hold hdep
      refine stepR_do rfl (wanted_none rfl) ?_
      refine stepR_val (v := .bool true) (Below.refl _ _) rfl fun K hK => ?_
      go_simp
      exact hK
    · intro a W hC hd hsz hold hval
      have d6 : a.tmps.getD 6 undef = .bool true := hval 22 _ rfl rfl
      clear hold
      obtain ⟨tm, df⟩ := a
      replace hd : df = [] := hd
      replace hsz : tm.size = 115 := hsz
      replace d6 : tm.getD 6 undef = .bool true := d6
      subst hd
      have e : tm = List.toArray (tm.getD 0 undef :: tm.getD 1 undef :: tm.getD 2 undef :: tm.getD 3 undef :: tm.getD 4 undef :: tm.getD 5 undef :: tm.getD 6 undef :: tm.getD 7 undef :: tm.getD 8 undef :: tm.getD 9 undef :: tm.getD 10 undef :: tm.getD 11 undef :: tm.getD 12 undef :: tm.getD 13 undef :: tm.getD 14 undef :: tm.getD 15 undef :: tm.getD 16 undef :: tm.getD 17 undef :: tm.getD 18 undef :: tm.getD 19 undef :: tm.getD 20 undef :: tm.getD 21 undef :: tm.getD 22 undef :: tm.getD 23 undef :: tm.getD 24 undef :: tm.getD 25 undef :: tm.getD 26 undef :: tm.getD 27 undef :: tm.getD 28 undef :: tm.getD 29 undef :: tm.getD 30 undef :: tm.getD 31 undef :: tm.getD 32 undef :: tm.getD 33 undef :: tm.getD 34 undef :: tm.getD 35 undef :: tm.getD 36 undef :: tm.getD 37 undef :: tm.getD 38 undef :: tm.getD 39 undef :: tm.getD 40 undef :: tm.getD 41 undef :: tm.getD 42 undef :: tm.getD 43 undef :: tm.getD 44 undef :: tm.getD 45 undef :: tm.getD 46 undef :: tm.getD 47 undef :: tm.getD 48 undef :: tm.getD 49 undef :: tm.getD 50 undef :: tm.getD 51 undef :: tm.getD 52 undef :: tm.getD 53 undef :: tm.getD 54 undef :: tm.getD 55 undef :: tm.getD 56 undef :: tm.getD 57 undef :: tm.getD 58 undef :: tm.getD 59 undef :: tm.getD 60 undef :: tm.getD 61 undef :: tm.getD 62 undef :: tm.getD 63 undef :: tm.getD 64 undef :: tm.getD 65 undef :: tm.getD 66 undef :: tm.getD 67 undef :: tm.getD 68 undef :: tm.getD 69 undef :: tm.getD 70 undef :: tm.getD 71 undef :: tm.getD 72 undef :: tm.getD 73 undef :: tm.getD 74 undef :: tm.getD 75 undef :: tm.getD 76 undef :: tm.getD 77 undef :: tm.getD 78 undef :: tm.getD 79 undef :: tm.getD 80 undef :: tm.getD 81 undef :: tm.getD 82 undef :: tm.getD 83 undef :: tm.getD 84 undef :: tm.getD 85 undef :: tm.getD 86 undef :: tm.getD 87 undef :: tm.getD 88 undef :: tm.getD 89 undef :: tm.getD 90 undef :: tm.getD 91 undef :: tm.getD 92 undef :: tm.getD 93 undef :: tm.getD 94 undef :: tm.getD 95 undef :: tm.getD 96 undef :: tm.getD 97 undef :: tm.getD 98 undef :: tm.getD 99 undef :: tm.getD 100 undef :: tm.getD 101 undef :: tm.getD 102 undef :: tm.getD 103 undef :: tm.getD 104 undef :: tm.getD 105 undef :: tm.getD 106 undef :: tm.getD 107 undef :: tm.getD 108 undef :: tm.getD 109 undef :: tm.getD 110 undef :: tm.getD 111 undef :: tm.getD 112 undef :: tm.getD 113 undef :: tm.getD 114 undef :: []) := arr_eq tm 115 hsz
      rw [d6] at e
      clear d6 hsz
      generalize tm.getD 0 undef = v0 at e
      generalize tm.getD 1 undef = v1 at e
      generalize tm.getD 2 undef = v2 at e
      generalize tm.getD 3 undef = v3 at e
      generalize tm.getD 4 undef = v4 at e
      generalize tm.getD 5 undef = v5 at e
      generalize tm.getD 7 undef = v7 at e
      generalize tm.getD 8 undef = v8 at e
      generalize tm.getD 9 undef = v9 at e
      generalize tm.getD 10 undef = v10 at e
      generalize tm.getD 11 undef = v11 at e
      generalize tm.getD 12 undef = v12 at e
      generalize tm.getD 13 undef = v13 at e
      generalize tm.getD 14 undef = v14 at e
      generalize tm.getD 15 undef = v15 at e
      generalize tm.getD 16 undef = v16 at e
      generalize tm.getD 17 undef = v17 at e
      generalize tm.getD 18 undef = v18 at e
      generalize tm.getD 19 undef = v19 at e
      generalize tm.getD 20 undef = v20 at e
      generalize tm.getD 21 undef = v21 at e
      generalize tm.getD 22 undef = v22 at e
      generalize tm.getD 23 undef = v23 at e
      generalize tm.getD 24 undef = v24 at e
      generalize tm.getD 25 undef = v25 at e
      generalize tm.getD 26 undef = v26 at e
      generalize tm.getD 27 undef = v27 at e
      generalize tm.getD 28 undef = v28 at e
      generalize tm.getD 29 undef = v29 at e
      generalize tm.getD 30 undef = v30 at e
      generalize tm.getD 31 undef = v31 at e
      generalize tm.getD 32 undef = v32 at e
      generalize tm.getD 33 undef = v33 at e
      generalize tm.getD 34 undef = v34 at e
      generalize tm.getD 35 undef = v35 at e
      generalize tm.getD 36 undef = v36 at e
      generalize tm.getD 37 undef = v37 at e
      generalize tm.getD 38 undef = v38 at e
      generalize tm.getD 39 undef = v39 at e
      generalize tm.getD 40 undef = v40 at e
      generalize tm.getD 41 undef = v41 at e
      generalize tm.getD 42 undef = v42 at e
      generalize tm.getD 43 undef = v43 at e
      generalize tm.getD 44 undef = v44 at e
      generalize tm.getD 45 undef = v45 at e
      generalize tm.getD 46 undef = v46 at e
      generalize tm.getD 47 undef = v47 at e
      generalize tm.getD 48 undef = v48 at e
      generalize tm.getD 49 undef = v49 at e
      generalize tm.getD 50 undef = v50 at e
      generalize tm.getD 51 undef = v51 at e
      generalize tm.getD 52 undef = v52 at e
      generalize tm.getD 53 undef = v53 at e
      generalize tm.getD 54 undef = v54 at e
      generalize tm.getD 55 undef = v55 at e
      generalize tm.getD 56 undef = v56 at e
      generalize tm.getD 57 undef = v57 at e
      generalize tm.getD 58 undef = v58 at e
      generalize tm.getD 59 undef = v59 at e
      generalize tm.getD 60 undef = v60 at e
      generalize tm.getD 61 undef = v61 at e
      generalize tm.getD 62 undef = v62 at e
      generalize tm.getD 63 undef = v63 at e
      generalize tm.getD 64 undef = v64 at e
      generalize tm.getD 65 undef = v65 at e
      generalize tm.getD 66 undef = v66 at e
      generalize tm.getD 67 undef = v67 at e
      generalize tm.getD 68 undef = v68 at e
      generalize tm.getD 69 undef = v69 at e
      generalize tm.getD 70 undef = v70 at e
      generalize tm.getD 71 undef = v71 at e
      generalize tm.getD 72 undef = v72 at e
      generalize tm.getD 73 undef = v73 at e
      generalize tm.getD 74 undef = v74 at e
      generalize tm.getD 75 undef = v75 at e
      generalize tm.getD 76 undef = v76 at e
      generalize tm.getD 77 undef = v77 at e
      generalize tm.getD 78 undef = v78 at e
      generalize tm.getD 79 undef = v79 at e
      generalize tm.getD 80 undef = v80 at e
      generalize tm.getD 81 undef = v81 at e
      generalize tm.getD 82 undef = v82 at e
      generalize tm.getD 83 undef = v83 at e
      generalize tm.getD 84 undef = v84 at e
      generalize tm.getD 85 undef = v85 at e
      generalize tm.getD 86 undef = v86 at e
      generalize tm.getD 87 undef = v87 at e
      generalize tm.getD 88 undef = v88 at e
      generalize tm.getD 89 undef = v89 at e
      generalize tm.getD 90 undef = v90 at e
      generalize tm.getD 91 undef = v91 at e
      generalize tm.getD 92 undef = v92 at e
      generalize tm.getD 93 undef = v93 at e
      generalize tm.getD 94 undef = v94 at e
      generalize tm.getD 95 undef = v95 at e
      generalize tm.getD 96 undef = v96 at e
      generalize tm.getD 97 undef = v97 at e
      generalize tm.getD 98 undef = v98 at e
      generalize tm.getD 99 undef = v99 at e
      generalize tm.getD 100 undef = v100 at e
      generalize tm.getD 101 undef = v101 at e
      generalize tm.getD 102 undef = v102 at e
      generalize tm.getD 103 undef = v103 at e
      generalize tm.getD 104 undef = v104 at e
      generalize tm.getD 105 undef = v105 at e
      generalize tm.getD 106 undef = v106 at e
      generalize tm.getD 107 undef = v107 at e
      generalize tm.getD 108 undef = v108 at e
      generalize tm.getD 109 undef = v109 at e
      generalize tm.getD 110 undef = v110 at e
      generalize tm.getD 111 undef = v111 at e
      generalize tm.getD 112 undef = v112 at e
      generalize tm.getD 113 undef = v113 at e
      generalize tm.getD 114 undef = v114 at e
      subst e
      have hB := HB5.out.trans (hC.mono HB5.out.size)
      clear hval hC
      go_wp2_with fail
      go_ret
      exact ⟨rfl, hB⟩
  · go_enter Try.func6, Try.ntmps6
    go_wp2_with fail
    refine (awake8_any _).mono ?_
    rintro e w0 ⟨rfl, hb0⟩
    go_wp2_with fail
    refine (HX1.out _).mono ?_
    rintro e w1 ⟨rfl, hb1⟩
    have hB1 := hb0.trans (hb1.mono hb0.size)
    clear hb0 hb1
    go_wp2_with fail
    refine (HX2.out _).mono ?_
    rintro e w2 ⟨rfl, hb2⟩
    have hB2 := hB1.trans (hb2.mono hB1.size)
    clear hB1 hb2
    go_wp2_with fail
    refine (HXa.out _).mono ?_
    rintro e w3 ⟨rfl, hb3⟩
    have hB3 := hB2.trans (hb3.mono hB2.size)
    clear hB2 hb3
    go_wp2_with fail
    refine (HX3.out _).mono ?_
    rintro e w4 ⟨rfl, hb4⟩
    have hB4 := hB3.trans (hb4.mono hB3.size)
    clear hB3 hb4
    go_wp2_with fail
    refine (HX4.out _).mono ?_
    rintro e w5 ⟨rfl, hb5⟩
    have hB5 := hB4.trans (hb5.mono hB4.size)
    have HB5 := Lib.hid hB5
    clear hB4 hb5 hB5
    go_wp2_with fail
    refine wp_region_inr (by kernel_rfl) (fun w W => Below w.heap.size w W) (fun W => Below w5.heap.size w5 W) (lin13V A X Y Z PX m) (fun _ => false) (by kernel_rfl) (fun W W' hb h => h.trans (hb.mono h.size)) (lin13V_keep A X Y Z PX m) ((Below.refl _ _).drew) ⟨?_, ?_, ?_, ?_, ?_, ?_, ?_, ?_, ?_, ?_, ?_, ?_, ?_, ?_, ?_, ?_, ?_, ?_, ?_, ?_, ?_, ?_, ?_, trivial⟩ ?_
    · intro a W hc hsz hold hdep
      have o7 : a.tmps.getD 7 undef = .string X := hold 7 (by kernel_rfl)
      clear hsz hold hdep
      refine stepR_do rfl (wanted_none rfl) ?_
      refine stepR_val (v := .string X) (Below.refl _ _) rfl fun K hK => ?_
      go_simp
      exact hK
    · intro a W hc hsz hold hdep
      have d0 : a.tmps.getD 93 undef = .string X := hdep 0 (by kernel_rfl) rfl _ rfl
      have hs := HSX.out
      have hx := HPX.out
      clear hsz hold hdep
      refine stepR_do rfl (wanted_none rfl) ?_
      refine stepR_val (v := .string PX) (Below.refl _ _) rfl fun K hK => ?_
      go_simp
      exact hK
    · intro a W hc hsz hold hdep
      have o0 : a.tmps.getD 0 undef = .string A := hold 0 (by kernel_rfl)
      clear hsz hold hdep
      refine stepR_do rfl (wanted_none rfl) ?_
      refine stepR_val (v := .string A) (Below.refl _ _) rfl fun K hK => ?_
      go_simp
      exact hK
    · intro a W hc hsz hold hdep
      have d2 : a.tmps.getD 95 undef = .string A := hdep 2 (by kernel_rfl) rfl _ rfl
      have hs := HSA.out
      have hx := HPA.out
      clear hsz hold hdep
      refine stepR_do rfl (wanted_none rfl) ?_
      refine stepR_val (v := .string PX) (Below.refl _ _) rfl fun K hK => ?_
      go_simp
      exact hK
    · intro a W hc hsz hold hdep
      have d1 : a.tmps.getD 94 undef = .string PX := hdep 1 (by kernel_rfl) rfl _ rfl
      have d3 : a.tmps.getD 96 undef = .string PX := hdep 3 (by kernel_rfl) rfl _ rfl
      clear hsz hold hdep
      refine stepR_do rfl (wanted_none rfl) ?_
      refine stepR_val (v := .bool true) (Below.refl _ _) rfl fun K hK => ?_
      go_simp
      exact hK
    · intro a W hc hsz hold hdep
      have d4 : a.tmps.getD 97 undef = .bool true := hdep 4 (by kernel_rfl) rfl _ rfl
      clear hsz hold hdep
      refine stepR_do rfl (wanted_none rfl) ?_
      refine stepR_val (v := .bool true) (Below.refl _ _) rfl fun K hK => ?_
      go_simp
      exact hK
    · intro a W hc hsz hold hdep
      have o7 : a.tmps.getD 7 undef = .string X := hold 7 (by kernel_rfl)
      have g6 : a.tmps.getD 98 undef = .bool true := hdep 5 (by kernel_rfl) rfl _ rfl
      clear hsz hold hdep
      refine stepR_do rfl ((wanted_of (want := true) rfl rfl g6).trans rfl) ?_
      clear g6
      refine stepR_val (v := .string X) (Below.refl _ _) rfl fun K hK => ?_
      go_simp
      exact hK
    · intro a W hc hsz hold hdep
      have o2 : a.tmps.getD 2 undef = .int .i64 m := hold 2 (by kernel_rfl)
      have g7 : a.tmps.getD 98 undef = .bool true := hdep 5 (by kernel_rfl) rfl _ rfl
      clear hsz hold hdep
      refine stepR_do rfl ((wanted_of (want := true) rfl rfl g7).trans rfl) ?_
      clear g7
      refine stepR_val (v := .int .i64 m) (Below.refl _ _) rfl fun K hK => ?_
      go_simp
      exact hK
    · intro a W hc hsz hold hdep
      have d6 : a.tmps.getD 99 undef = .string X := hdep 6 (by kernel_rfl) rfl _ rfl
      have e6 : a.tmps[99]?.getD undef = .string X := by rw [← Array.getD_eq_getD_getElem?]; exact d6
      have d7 : a.tmps.getD 100 undef = .int .i64 m := hdep 7 (by kernel_rfl) rfl _ rfl
      have e7 : a.tmps[100]?.getD undef = .int .i64 m := by rw [← Array.getD_eq_getD_getElem?]; exact d7
      have g8 : a.tmps.getD 98 undef = .bool true := hdep 5 (by kernel_rfl) rfl _ rfl
      clear hsz hold hdep
      refine stepR_do rfl ((wanted_of (want := true) rfl rfl g8).trans rfl) ?_
      clear g8
      refine stepR_call (v := .bool true) (fun W' hb => hb) (fun _ => rfl) fun K hK => ?_
      go_simp
      refine (HV.out W).mono ?_
      rintro e w' ⟨rfl, hb'⟩
      exact hK _ hb'
    · intro a W hc hsz hold hdep
      have d5 : a.tmps.getD 98 undef = .bool true := hdep 5 (by kernel_rfl) rfl _ rfl
      have d8 : a.tmps.getD 101 undef = .bool true := hdep 8 (by kernel_rfl) rfl _ rfl
      clear hsz hold hdep
      refine stepR_do rfl (wanted_none rfl) ?_
      refine stepR_val (v := .bool true) (Below.refl _ _) rfl fun K hK => ?_
      go_simp
      exact hK
    · intro a W hc hsz hold hdep
      have d9 : a.tmps.getD 102 undef = .bool true := hdep 9 (by kernel_rfl) rfl _ rfl
      clear hsz hold hdep
      refine stepR_do rfl (wanted_none rfl) ?_
      refine stepR_val (v := .bool true) (Below.refl _ _) rfl fun K hK => ?_
      go_simp
      exact hK
    · intro a W hc hsz hold hdep
      have o11 : a.tmps.getD 11 undef = .string Z := hold 11 (by kernel_rfl)
      have g11 : a.tmps.getD 103 undef = .bool true := hdep 10 (by kernel_rfl) rfl _ rfl
      clear hsz hold hdep
      refine stepR_do rfl ((wanted_of (want := true) rfl rfl g11).trans rfl) ?_
      clear g11
      refine stepR_val (v := .string Z) (Below.refl _ _) rfl fun K hK => ?_
      go_simp
      exact hK
    · intro a W hc hsz hold hdep
      have o7 : a.tmps.getD 7 undef = .string X := hold 7 (by kernel_rfl)
      have g12 : a.tmps.getD 103 undef = .bool true := hdep 10 (by kernel_rfl) rfl _ rfl
      clear hsz hold hdep
      refine stepR_do rfl ((wanted_of (want := true) rfl rfl g12).trans rfl) ?_
      clear g12
      refine stepR_val (v := .string X) (Below.refl _ _) rfl fun K hK => ?_
      go_simp
      exact hK
    · intro a W hc hsz hold hdep
      have o9 : a.tmps.getD 9 undef = .string Y := hold 9 (by kernel_rfl)
      have g13 : a.tmps.getD 103 undef = .bool true := hdep 10 (by kernel_rfl) rfl _ rfl
      clear hsz hold hdep
      refine stepR_do rfl ((wanted_of (want := true) rfl rfl g13).trans rfl) ?_
      clear g13
      refine stepR_val (v := .string Y) (Below.refl _ _) rfl fun K hK => ?_
      go_simp
      exact hK
    · intro a W hc hsz hold hdep
      have d12 : a.tmps.getD 105 undef = .string X := hdep 12 (by kernel_rfl) rfl _ rfl
      have e12 : a.tmps[105]?.getD undef = .string X := by rw [← Array.getD_eq_getD_getElem?]; exact d12
      have d13 : a.tmps.getD 106 undef = .string Y := hdep 13 (by kernel_rfl) rfl _ rfl
      have e13 : a.tmps[106]?.getD undef = .string Y := by rw [← Array.getD_eq_getD_getElem?]; exact d13
      have g14 : a.tmps.getD 103 undef = .bool true := hdep 10 (by kernel_rfl) rfl _ rfl
      clear hsz hold hdep
      refine stepR_do rfl ((wanted_of (want := true) rfl rfl g14).trans rfl) ?_
      clear g14
      refine stepR_call (v := .string Z) (fun W' hb => hb) (fun _ => rfl) fun K hK => ?_
      go_simp
      refine (HXO.out W).mono ?_
      rintro e w' ⟨rfl, hb'⟩
      exact hK _ hb'
    · intro a W hc hsz hold hdep
      have d11 : a.tmps.getD 104 undef = .string Z := hdep 11 (by kernel_rfl) rfl _ rfl
      have d14 : a.tmps.getD 107 undef = .string Z := hdep 14 (by kernel_rfl) rfl _ rfl
      have g15 : a.tmps.getD 103 undef = .bool true := hdep 10 (by kernel_rfl) rfl _ rfl
      clear hsz hold hdep
      refine stepR_do rfl ((wanted_of (want := true) rfl rfl g15).trans rfl) ?_
      clear g15
      refine stepR_val (v := .bool true) (Below.refl _ _) rfl fun K hK => ?_
      go_simp
      exact hK
    · intro a W hc hsz hold hdep
      have d10 : a.tmps.getD 103 undef = .bool true := hdep 10 (by kernel_rfl) rfl _ rfl
      have d15 : a.tmps.getD 108 undef = .bool true := hdep 15 (by kernel_rfl) rfl _ rfl
      clear hsz hold hdep
      refine stepR_do rfl (wanted_none rfl) ?_
      refine stepR_val (v := .bool true) (Below.refl _ _) rfl fun K hK => ?_
      go_simp
      exact hK
    · intro a W hc hsz hold hdep
      have d16 : a.tmps.getD 109 undef = .bool true := hdep 16 (by kernel_rfl) rfl _ rfl
      clear hsz hold hdep
      refine stepR_do rfl (wanted_none rfl) ?_
      refine stepR_val (v := .bool true) (Below.refl _ _) rfl fun K hK => ?_
      go_simp
      exact hK
    · intro a W hc hsz hold hdep
      have o13 : a.tmps.getD 13 undef = .string X := hold 13 (by kernel_rfl)
      have g18 : a.tmps.getD 110 undef = .bool true := hdep 17 (by kernel_rfl) rfl _ rfl
      clear hsz hold hdep
      refine stepR_do rfl ((wanted_of (want := true) rfl rfl g18).trans rfl) ?_
      clear g18
      refine stepR_val (v := .string X) (Below.refl _ _) rfl fun K hK => ?_
      go_simp
      exact hK
    · intro a W hc hsz hold hdep
      have o7 : a.tmps.getD 7 undef = .string X := hold 7 (by kernel_rfl)
      have g19 : a.tmps.getD 110 undef = .bool true := hdep 17 (by kernel_rfl) rfl _ rfl
      clear hsz hold hdep
      refine stepR_do rfl ((wanted_of (want := true) rfl rfl g19).trans rfl) ?_
      clear g19
      refine stepR_val (v := .string X) (Below.refl _ _) rfl fun K hK => ?_
      go_simp
      exact hK
    · intro a W hc hsz hold hdep
      have d18 : a.tmps.getD 111 undef = .string X := hdep 18 (by kernel_rfl) rfl _ rfl
      have d19 : a.tmps.getD 112 undef = .string X := hdep 19 (by kernel_rfl) rfl _ rfl
      have g20 : a.tmps.getD 110 undef = .bool true := hdep 17 (by kernel_rfl) rfl _ rfl
      clear hsz hold hdep
      refine stepR_do rfl ((wanted_of (want := true) rfl rfl g20).trans rfl) ?_
      clear g20
      refine stepR_val (v := .bool true) (Below.refl _ _) rfl fun K hK => ?_
      go_simp
      exact hK
    · intro a W hc hsz hold hdep
      have d17 : a.tmps.getD 110 undef = .bool true := hdep 17 (by kernel_rfl) rfl _ rfl
      have d20 : a.tmps.getD 113 undef = .bool true := hdep 20 (by kernel_rfl) rfl _ rfl
      clear hsz hold hdep
      refine stepR_do rfl (wanted_none rfl) ?_
      refine stepR_val (v := .bool true) (Below.refl _ _) rfl fun K hK => ?_
      go_simp
      exact hK
    · intro a W hc hsz hold hdep
      have d21 : a.tmps.getD 114 undef = .bool true := hdep 21 (by kernel_rfl) rfl _ rfl
      clear hsz hold hdep
      refine stepR_do rfl (wanted_none rfl) ?_
      refine stepR_val (v := .bool true) (Below.refl _ _) rfl fun K hK => ?_
      go_simp
      exact hK
    · intro a W hC hd hsz hold hval
      have d6 : a.tmps.getD 6 undef = .bool true := hval 22 _ rfl rfl
      clear hold
      obtain ⟨tm, df⟩ := a
      replace hd : df = [] := hd
      replace hsz : tm.size = 115 := hsz
      replace d6 : tm.getD 6 undef = .bool true := d6
      subst hd
      have e : tm = List.toArray (tm.getD 0 undef :: tm.getD 1 undef :: tm.getD 2 undef :: tm.getD 3 undef :: tm.getD 4 undef :: tm.getD 5 undef :: tm.getD 6 undef :: tm.getD 7 undef :: tm.getD 8 undef :: tm.getD 9 undef :: tm.getD 10 undef :: tm.getD 11 undef :: tm.getD 12 undef :: tm.getD 13 undef :: tm.getD 14 undef :: tm.getD 15 undef :: tm.getD 16 undef :: tm.getD 17 undef :: tm.getD 18 undef :: tm.getD 19 undef :: tm.getD 20 undef :: tm.getD 21 undef :: tm.getD 22 undef :: tm.getD 23 undef :: tm.getD 24 undef :: tm.getD 25 undef :: tm.getD 26 undef :: tm.getD 27 undef :: tm.getD 28 undef :: tm.getD 29 undef :: tm.getD 30 undef :: tm.getD 31 undef :: tm.getD 32 undef :: tm.getD 33 undef :: tm.getD 34 undef :: tm.getD 35 undef :: tm.getD 36 undef :: tm.getD 37 undef :: tm.getD 38 undef :: tm.getD 39 undef :: tm.getD 40 undef :: tm.getD 41 undef :: tm.getD 42 undef :: tm.getD 43 undef :: tm.getD 44 undef :: tm.getD 45 undef :: tm.getD 46 undef :: tm.getD 47 undef :: tm.getD 48 undef :: tm.getD 49 undef :: tm.getD 50 undef :: tm.getD 51 undef :: tm.getD 52 undef :: tm.getD 53 undef :: tm.getD 54 undef :: tm.getD 55 undef :: tm.getD 56 undef :: tm.getD 57 undef :: tm.getD 58 undef :: tm.getD 59 undef :: tm.getD 60 undef :: tm.getD 61 undef :: tm.getD 62 undef :: tm.getD 63 undef :: tm.getD 64 undef :: tm.getD 65 undef :: tm.getD 66 undef :: tm.getD 67 undef :: tm.getD 68 undef :: tm.getD 69 undef :: tm.getD 70 undef :: tm.getD 71 undef :: tm.getD 72 undef :: tm.getD 73 undef :: tm.getD 74 undef :: tm.getD 75 undef :: tm.getD 76 undef :: tm.getD 77 undef :: tm.getD 78 undef :: tm.getD 79 undef :: tm.getD 80 undef :: tm.getD 81 undef :: tm.getD 82 undef :: tm.getD 83 undef :: tm.getD 84 undef :: tm.getD 85 undef :: tm.getD 86 undef :: tm.getD 87 undef :: tm.getD 88 undef :: tm.getD 89 undef :: tm.getD 90 undef :: tm.getD 91 undef :: tm.getD 92 undef :: tm.getD 93 undef :: tm.getD 94 undef :: tm.getD 95 undef :: tm.getD 96 undef :: tm.getD 97 undef :: tm.getD 98 undef :: tm.getD 99 undef :: tm.getD 100 undef :: tm.getD 101 undef :: tm.getD 102 undef :: tm.getD 103 undef :: tm.getD 104 undef :: tm.getD 105 undef :: tm.getD 106 undef :: tm.getD 107 undef :: tm.getD 108 undef :: tm.getD 109 undef :: tm.getD 110 undef :: tm.getD 111 undef :: tm.getD 112 undef :: tm.getD 113 undef :: tm.getD 114 undef :: []) := arr_eq tm 115 hsz
      rw [d6] at e
      clear d6 hsz
      generalize tm.getD 0 undef = v0 at e
      generalize tm.getD 1 undef = v1 at e
      generalize tm.getD 2 undef = v2 at e
      generalize tm.getD 3 undef = v3 at e
      generalize tm.getD 4 undef = v4 at e
      generalize tm.getD 5 undef = v5 at e
      generalize tm.getD 7 undef = v7 at e
      generalize tm.getD 8 undef = v8 at e
      generalize tm.getD 9 undef = v9 at e
      generalize tm.getD 10 undef = v10 at e
      generalize tm.getD 11 undef = v11 at e
      generalize tm.getD 12 undef = v12 at e
      generalize tm.getD 13 undef = v13 at e
      generalize tm.getD 14 undef = v14 at e
      generalize tm.getD 15 undef = v15 at e
      generalize tm.getD 16 undef = v16 at e
      generalize tm.getD 17 undef = v17 at e
      generalize tm.getD 18 undef = v18 at e
      generalize tm.getD 19 undef = v19 at e
      generalize tm.getD 20 undef = v20 at e
      generalize tm.getD 21 undef = v21 at e
      generalize tm.getD 22 undef = v22 at e
      generalize tm.getD 23 undef = v23 at e
      generalize tm.getD 24 undef = v24 at e
      generalize tm.getD 25 undef = v25 at e
      generalize tm.getD 26 undef = v26 at e
      generalize tm.getD 27 undef = v27 at e
      generalize tm.getD 28 undef = v28 at e
      generalize tm.getD 29 undef = v29 at e
      generalize tm.getD 30 undef = v30 at e
      generalize tm.getD 31 undef = v31 at e
      generalize tm.getD 32 undef = v32 at e
      generalize tm.getD 33 undef = v33 at e
      generalize tm.getD 34 undef = v34 at e
      generalize tm.getD 35 undef = v35 at e
      generalize tm.getD 36 undef = v36 at e
      generalize tm.getD 37 undef = v37 at e
      generalize tm.getD 38 undef = v38 at e
      generalize tm.getD 39 undef = v39 at e
      generalize tm.getD 40 undef = v40 at e
      generalize tm.getD 41 undef = v41 at e
      generalize tm.getD 42 undef = v42 at e
      generalize tm.getD 43 undef = v43 at e
      generalize tm.getD 44 undef = v44 at e
      generalize tm.getD 45 undef = v45 at e
      generalize tm.getD 46 undef = v46 at e
      generalize tm.getD 47 undef = v47 at e
      generalize tm.getD 48 undef = v48 at e
      generalize tm.getD 49 undef = v49 at e
      generalize tm.getD 50 undef = v50 at e
      generalize tm.getD 51 undef = v51 at e
      generalize tm.getD 52 undef = v52 at e
      generalize tm.getD 53 undef = v53 at e
      generalize tm.getD 54 undef = v54 at e
      generalize tm.getD 55 undef = v55 at e
      generalize tm.getD 56 undef = v56 at e
      generalize tm.getD 57 undef = v57 at e
      generalize tm.getD 58 undef = v58 at e
      generalize tm.getD 59 undef = v59 at e
      generalize tm.getD 60 undef = v60 at e
      generalize tm.getD 61 undef = v61 at e
      generalize tm.getD 62 undef = v62 at e
      generalize tm.getD 63 undef = v63 at e
      generalize tm.getD 64 undef = v64 at e
      generalize tm.getD 65 undef = v65 at e
      generalize tm.getD 66 undef = v66 at e
      generalize tm.getD 67 undef = v67 at e
      generalize tm.getD 68 undef = v68 at e
      generalize tm.getD 69 undef = v69 at e
      generalize tm.getD 70 undef = v70 at e
      generalize tm.getD 71 undef = v71 at e
      generalize tm.getD 72 undef = v72 at e
      generalize tm.getD 73 undef = v73 at e
      generalize tm.getD 74 undef = v74 at e
      generalize tm.getD 75 undef = v75 at e
      generalize tm.getD 76 undef = v76 at e
      generalize tm.getD 77 undef = v77 at e
      generalize tm.getD 78 undef = v78 at e
      generalize tm.getD 79 undef = v79 at e
      generalize tm.getD 80 undef = v80 at e
      generalize tm.getD 81 undef = v81 at e
      generalize tm.getD 82 undef = v82 at e
      generalize tm.getD 83 undef = v83 at e
      generalize tm.getD 84 undef = v84 at e
      generalize tm.getD 85 undef = v85 at e
      generalize tm.getD 86 undef = v86 at e
      generalize tm.getD 87 undef = v87 at e
      generalize tm.getD 88 undef = v88 at e
      generalize tm.getD 89 undef = v89 at e
      generalize tm.getD 90 undef = v90 at e
      generalize tm.getD 91 undef = v91 at e
      generalize tm.getD 92 undef = v92 at e
      generalize tm.getD 93 undef = v93 at e
      generalize tm.getD 94 undef = v94 at e
      generalize tm.getD 95 undef = v95 at e
      generalize tm.getD 96 undef = v96 at e
      generalize tm.getD 97 undef = v97 at e
      generalize tm.getD 98 undef = v98 at e
      generalize tm.getD 99 undef = v99 at e
      generalize tm.getD 100 undef = v100 at e
      generalize tm.getD 101 undef = v101 at e
      generalize tm.getD 102 undef = v102 at e
      generalize tm.getD 103 undef = v103 at e
      generalize tm.getD 104 undef = v104 at e
      generalize tm.getD 105 undef = v105 at e
      generalize tm.getD 106 undef = v106 at e
      generalize tm.getD 107 undef = v107 at e
      generalize tm.getD 108 undef = v108 at e
      generalize tm.getD 109 undef = v109 at e
      generalize tm.getD 110 undef = v110 at e
      generalize tm.getD 111 undef = v111 at e
      generalize tm.getD 112 undef = v112 at e
      generalize tm.getD 113 undef = v113 at e
      generalize tm.getD 114 undef = v114 at e
      subst e
      have hB := HB5.out.trans (hC.mono HB5.out.size)
      clear hval hC
      go_wp2_with fail
      go_ret
      exact ⟨rfl, hB⟩

theorem linear_law (w : World) (s : ByteArray) (hs : s.size ≤ maxLen) (t : ByteArray) (ht : t.size ≤ maxLen) (m : Int) (wm : (Lit.int .i64 m).wf = true) : Calls Try.prog 6 #[.string s, .string t, .int .i64 m] w fun e w' => e = .returned (.bool true) ∧ Below w.heap.size w w' := by
  have hs' : s.data.toList.length ≤ 9223372036854775807 := hs
  have ht' : t.data.toList.length ≤ 9223372036854775807 := ht
  rw [str_list s, str_list t]
  generalize s.data.toList = a at hs'
  generalize t.data.toList = b at ht'
  by_cases h1 : a.length = 2352
  · by_cases h2 : b.length = 2352
    · cases hm : fstB m with
      | false => exact linear_mode w a b m hs' ht' h1 h2 hm
      | true => exact linear_ok w a b m hs' ht' h1 h2 hm
    · exact linear_len2 w a b m hs' ht' h1 h2
  · exact linear_len1 w a b m hs' ht' h1
end Go.Proofs.Ytepdcpbgdfjobaa.W8
