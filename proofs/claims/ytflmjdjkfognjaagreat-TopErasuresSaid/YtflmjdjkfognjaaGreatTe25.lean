/- Parts: XIf XQdb -/
import Derived.Test.YtflmjdjkfognjaaGreatTe24
import Derived.Test.YtflmjdjkfognjaaGreatTe23
import Derived.Test.YtflmjdjkfognjaaGreatTe16
namespace Go.Proofs.YtflmjdjkfognjaaGreat.T7
open Go Go.RowKit W10
set_option linter.unusedVariables false
def adrL (lba : Int) : List UInt8 := adr (Q.mM (lba + 150)) (Q.mS (lba + 150)) (Q.mF (lba + 150))
theorem adrL_len (lba : Int) : (adrL lba).length = 3 := rfl
def bldH (lba : Int) (d : List UInt8) : List UInt8 := ((syL ++ adrL lba) ++ [1]) ++ d
def bld (lba : Int) (d : List UInt8) : List UInt8 := (bldH lba d ++ edcB (edc 0 (bldH lba d))) ++ List.replicate 284 0
theorem bldH_len (lba : Int) {d : List UInt8} (h : d.length = 2048) : (bldH lba d).length = 2064 := by simp [bldH, adrL_len, syL, h]
theorem edcB_len (c : Nat) : (edcB c).length = 4 := rfl
theorem bld_len (lba : Int) {d : List UInt8} (h : d.length = 2048) : (bld lba d).length = 2352 := by
  unfold bld
  rw [List.length_append, List.length_append, bldH_len lba h, edcB_len, List.length_replicate]
theorem okA_lba {lba : Int} (h0 : -150 ≤ lba) (h1 : lba ≤ 449849) : okA (Q.mM (lba + 150)) (Q.mS (lba + 150)) (Q.mF (lba + 150)) := by
  unfold okA Q.mM Q.mS Q.mF
  omega
set_option maxRecDepth 100000 in
set_option maxHeartbeats 4000000 in
theorem build_0 (lba : Int) (d : List UInt8) (w : World) (h0 : -150 ≤ lba) (h1 : lba ≤ 449849) (hd : d.length = 2048) :
    Calls Tryz.prog 76 #[secV lba d] w fun e w' => e = .returned (.tuple #[.string (str (bld lba d)), .int .i64 0]) ∧ Below w.heap.size w w' := by
  have HV := Lib.hid (fun W => svalid_0 lba d W h0 h1 hd)
  have HL := Lib.hid layouts_0
  have HM := Lib.hid (fun W => tomsf_ok lba W h0 h1)
  have HE := Lib.hid (fun W => aenc_any _ _ _ W (okA_lba h0 h1))
  have HS := Lib.hid sync_any
  have hm : (msfn (lba + 150)) = .agg #[.int .i64 (Q.mM (lba + 150)), .int .i64 (Q.mS (lba + 150)), .int .i64 (Q.mF (lba + 150))] := rfl
  have hm2 : msfv (Q.mM (lba + 150)) (Q.mS (lba + 150)) (Q.mF (lba + 150)) = .agg #[.int .i64 (Q.mM (lba + 150)), .int .i64 (Q.mS (lba + 150)), .int .i64 (Q.mF (lba + 150))] := rfl
  rw [hm] at HM
  rw [hm2] at HE
  change Hid (∀ W, Calls _ _ _ W (R2B (.string (str (adrL lba))) (.int .i64 0) W)) at HE
  clear hm hm2
  generalize hqm : Q.mM (lba + 150) = qm at *
  generalize hqs : Q.mS (lba + 150) = qs at *
  generalize hqf : Q.mF (lba + 150) = qf at *
  clear hqm hqs hqf
  unfold layV at HL
  unfold secV at HV ⊢
  have hsv : syV = [.int .u8 0, .int .u8 255, .int .u8 255, .int .u8 255, .int .u8 255, .int .u8 255, .int .u8 255, .int .u8 255, .int .u8 255, .int .u8 255, .int .u8 255, .int .u8 0] := by kernel_rfl
  have HSV := Lib.hid hsv
  rw [hsv] at HS
  clear hsv
  obtain ⟨w1, hw1⟩ : ∃ w1, w1 = w.alloc (.cells #[.int .i64 lba, .int .i64 0, .int .i64 0, .int .i64 0, .int .i64 0, .int .i64 0, .string (str d)] 103) := ⟨_, rfl⟩
  have hA := (Below.refl w.heap.size w).alloc (Nat.le_refl _) (.cells #[.int .i64 lba, .int .i64 0, .int .i64 0, .int .i64 0, .int .i64 0, .int .i64 0, .string (str d)] 103)
  obtain ⟨b, hb⟩ : ∃ b, b = w.heap.size := ⟨_, rfl⟩
  have hx : Bx w1 b 103 [.int .i64 lba, .int .i64 0, .int .i64 0, .int .i64 0, .int .i64 0, .int .i64 0, .string (str d)] := by rw [hw1, hb]; exact Bx.new w _ _
  rw [← hw1] at hA
  have HB := Lib.hid hb
  have HW1 : Hid (w.alloc (.cells #[.int .i64 lba, .int .i64 0, .int .i64 0, .int .i64 0, .int .i64 0, .int .i64 0, .string (str d)] 103) = w1) := Lib.hid hw1.symm
  have HX1 := Lib.hid hx
  have HA1 := Lib.hid hA
  have c0 := hx.cell (i := 0) rfl
  have c1 := hx.cell (i := 1) rfl
  have c2 := hx.cell (i := 2) rfl
  have c3 := hx.cell (i := 3) rfl
  have c4 := hx.cell (i := 4) rfl
  have c5 := hx.cell (i := 5) rfl
  have c6 := hx.cell (i := 6) rfl
  clear hw1 hA hb hx
  go_enter Tryz.func76, Tryz.ntmps76
  go_upto_region 1 with (fail)
  rw [HW1.out, ← HB.out]
  go_wp2_with fail
  refine (HV.out w1).mono ?_
  rintro e w2 ⟨rfl, hb2⟩
  have HX2 := Lib.hid (HX1.out.call hb2)
  have HA2 := Lib.hid (HA1.out.trans (hb2.mono HA1.out.size))
  clear hb2 c0 c1 c2 c3 c4 c5 c6
  have c1 := HX2.out.cell (i := 1) rfl
  go_wp2_with fail
  refine (HL.out w2).mono ?_
  rintro e w3 ⟨rfl, hb3⟩
  obtain ⟨lb, hlb⟩ : ∃ lb, lb = w3.heap.size := ⟨_, rfl⟩
  obtain ⟨w4, hw4⟩ : ∃ w4, w4 = w3.alloc (.cells #[.int .u8 1, .int .i64 16, .int .i64 2048, .int .i64 0] 187) := ⟨_, rfl⟩
  have hA4 := (Below.refl w3.heap.size w3).alloc (Nat.le_refl _) (.cells #[.int .u8 1, .int .i64 16, .int .i64 2048, .int .i64 0] 187)
  rw [← hw4] at hA4
  have hb4 := hb3.trans (hA4.mono hb3.size)
  have HL4 : Hid (Bx w4 lb 187 [.int .u8 1, .int .i64 16, .int .i64 2048, .int .i64 0]) := Lib.hid (by rw [hw4, hlb]; exact Bx.new w3 _ _)
  have HX4 := Lib.hid (HX2.out.call hb4)
  have HA4 := Lib.hid (HA2.out.trans (hb4.mono HA2.out.size))
  have HW4 : Hid (w3.alloc (.cells #[.int .u8 1, .int .i64 16, .int .i64 2048, .int .i64 0] 187) = w4) := Lib.hid hw4.symm
  have HLB := Lib.hid hlb
  clear hb3 hA4 hb4 hw4 hlb c1
  go_upto_region 4 with (fail)
  rw [HW4.out, ← HLB.out]
  have c0 := HX4.out.cell (i := 0) rfl
  go_wp2_with fail
  refine (HM.out w4).mono ?_
  rintro e w5 ⟨rfl, hb5⟩
  obtain ⟨mb, hmb⟩ : ∃ mb, mb = w5.heap.size := ⟨_, rfl⟩
  obtain ⟨w6, hw6⟩ : ∃ w6, w6 = w5.alloc (.cells #[.int .i64 qm, .int .i64 qs, .int .i64 qf] 36) := ⟨_, rfl⟩
  have hA6 := (Below.refl w5.heap.size w5).alloc (Nat.le_refl _) (.cells #[.int .i64 qm, .int .i64 qs, .int .i64 qf] 36)
  rw [← hw6] at hA6
  have hb6 := hb5.trans (hA6.mono hb5.size)
  have hm6 : Bx w6 mb 36 [.int .i64 qm, .int .i64 qs, .int .i64 qf] := by rw [hw6, hmb]; exact Bx.new w5 _ _
  have HX6 := Lib.hid (HX4.out.call hb6)
  have HL6 := Lib.hid (HL4.out.call hb6)
  have HA6 := Lib.hid (HA4.out.trans (hb6.mono HA4.out.size))
  have HW6 : Hid (w5.alloc (.cells #[.int .i64 qm, .int .i64 qs, .int .i64 qf] 36) = w6) := Lib.hid hw6.symm
  have HMB := Lib.hid hmb
  clear hb5 hA6 hb6 hw6 hmb c0
  go_upto_region 5 with (fail)
  rw [HW6.out, ← HMB.out]
  have c0 := hm6.cell (i := 0) rfl
  have c1 := hm6.cell (i := 1) rfl
  have c2 := hm6.cell (i := 2) rfl
  clear hm6
  go_wp2_with fail
  refine (HE.out w6).mono ?_
  rintro e w7 ⟨rfl, hb7⟩
  clear c0 c1 c2
  have HX7 := Lib.hid (HX6.out.call hb7)
  have HL7 := Lib.hid (HL6.out.call hb7)
  have HA7 := Lib.hid (HA6.out.trans (hb7.mono HA6.out.size))
  clear hb7
  go_wp2_with fail
  refine (HS.out w7).mono ?_
  rintro e w8 ⟨rfl, hb8⟩
  have HX8 := Lib.hid (HX7.out.call hb8)
  have HL8 := Lib.hid (HL7.out.call hb8)
  have HA8 := Lib.hid (HA7.out.trans (hb8.mono HA7.out.size))
  clear hb8
  go_upto_region 7 with (fail)
  obtain ⟨fb, hfb⟩ : ∃ fb, fb = w8.heap.size := ⟨_, rfl⟩
  obtain ⟨w9, hw9⟩ : ∃ w9, w9 = w8.alloc (.cells #[.int .u8 0, .int .u8 255, .int .u8 255, .int .u8 255, .int .u8 255, .int .u8 255, .int .u8 255, .int .u8 255, .int .u8 255, .int .u8 255, .int .u8 255, .int .u8 0] 190) := ⟨_, rfl⟩
  have hA9 := (Below.refl w8.heap.size w8).alloc (Nat.le_refl _) (.cells #[.int .u8 0, .int .u8 255, .int .u8 255, .int .u8 255, .int .u8 255, .int .u8 255, .int .u8 255, .int .u8 255, .int .u8 255, .int .u8 255, .int .u8 255, .int .u8 0] 190)
  rw [← hw9] at hA9
  have hf9 : Bx w9 fb 190 (bs syL) := by
    rw [show bs syL = syV from rfl, HSV.out, hw9, hfb]
    exact Bx.new w8 _ _
  have hrd : Rd w9 (.slice (some ⟨fb, 0, none⟩) 12 12) syL := ⟨by decide, some ⟨fb, 0, none⟩, 12, fb, 0, rfl, by decide, fun i hi => ⟨rfl, by rw [Nat.zero_add]; exact hf9.cell (bs_get hi)⟩⟩
  have hcv := run_str (P := Tryz.prog) Tryz.underlying123 Tryz.underlying5 Tryz.underlying9 hrd
  have HX9 := Lib.hid (HX8.out.call hA9)
  have HL9 := Lib.hid (HL8.out.call hA9)
  have HA9 := Lib.hid (HA8.out.trans (hA9.mono HA8.out.size))
  have HF9 := Lib.hid hf9
  rw [← hw9, ← hfb]
  clear hA9 hf9 hrd hw9 hfb
  obtain ⟨rb, hrb⟩ : ∃ rb, rb = w9.heap.size := ⟨_, rfl⟩
  obtain ⟨w10, hw10⟩ : ∃ w10, w10 = w9.alloc (.cells #[.string (str syL)] 9) := ⟨_, rfl⟩
  have hA10 := (Below.refl w9.heap.size w9).alloc (Nat.le_refl _) (.cells #[.string (str syL)] 9)
  rw [← hw10] at hA10
  have hr10 : Bx w10 rb 9 [.string (str syL)] := by rw [hw10, hrb]; exact Bx.new w9 _ _
  have HR10 := Lib.hid hr10
  have HX10 := Lib.hid (HX9.out.call hA10)
  have HL10 := Lib.hid (HL9.out.call hA10)
  have HA10 := Lib.hid (HA9.out.trans (hA10.mono HA9.out.size))
  have HW10 : Hid (w9.alloc (.cells #[.string (str syL)] 9) = w10) := Lib.hid hw10.symm
  have HRB := Lib.hid hrb
  have hbr : b < rb := by rw [hrb]; exact HX9.out.lt
  have hlr : lb < rb := by rw [hrb]; exact HL9.out.lt
  have hwr : w.heap.size ≤ rb := by rw [hrb]; exact HA9.out.size
  clear hA10 hr10 hw10 hrb
  go_upto_region 8 with (fail)
  rw [HW10.out, ← HRB.out]
  have HADD := Lib.hid (add_any (adrL lba) syL rb w10 HR10.out (by rw [adrL_len]; decide))
  go_wp2_with fail
  refine HADD.out.mono ?_
  rintro e w' ⟨rfl, rfl⟩
  have hr := HR10.out.set 0 (.string (str (syL ++ (adrL lba))))
  rw [List.set_cons_zero] at hr
  have HX11 := Lib.hid (HX10.out.far (p := ⟨rb, 0, none⟩) (by simp only; omega) (.string (str (syL ++ (adrL lba)))))
  have HL11 := Lib.hid (HL10.out.far (p := ⟨rb, 0, none⟩) (by simp only; omega) (.string (str (syL ++ (adrL lba)))))
  have HA11 := Lib.hid (HA10.out.setCell (p := ⟨rb, 0, none⟩) hwr (.string (str (syL ++ (adrL lba)))))
  generalize w10.setCell ⟨rb, 0, none⟩ (.string (str (syL ++ (adrL lba)))) = w11 at *
  have HR11 := Lib.hid hr
  clear hr HADD
  obtain ⟨w12, hw12⟩ : ∃ w12, w12 = w11.alloc (.cells #[.int .u8 1] 5) := ⟨_, rfl⟩
  have hA12 := (Below.refl w11.heap.size w11).alloc (Nat.le_refl _) (.cells #[.int .u8 1] 5)
  rw [← hw12] at hA12
  have hrd := Rd.lit w11 [1] 5 (by decide)
  have hcv2 := run_str (P := Tryz.prog) Tryz.underlying123 Tryz.underlying5 Tryz.underlying9 hrd
  change (convert 123 9 (.slice (some ⟨w11.heap.size, 0, none⟩) 1 1)).run Tryz.prog (w11.alloc (.cells #[.int .u8 1] 5)) = .ok (.string (str [1])) (w11.alloc (.cells #[.int .u8 1] 5)) at hcv2
  have HX12 := Lib.hid (HX11.out.call hA12)
  have HL12 := Lib.hid (HL11.out.call hA12)
  have HR12 := Lib.hid (HR11.out.call hA12)
  have HA12 := Lib.hid (HA11.out.trans (hA12.mono HA11.out.size))
  have l0 := HL11.out.cell (i := 0) rfl
  clear hA12 hrd
  have HADD := Lib.hid (add_any [1] (syL ++ adrL lba) rb w12 HR12.out (by simp only [List.length_append, adrL_len, List.length_cons, List.length_nil, show syL.length = 12 from rfl]; omega))
  rw [hw12] at HADD
  go_wp2_with fail
  refine HADD.out.mono ?_
  rintro e w' ⟨rfl, rfl⟩
  have hr := HR12.out.set 0 (.string (str ((syL ++ adrL lba) ++ [1])))
  rw [List.set_cons_zero] at hr
  have HX13 := Lib.hid (HX12.out.far (p := ⟨rb, 0, none⟩) (by simp only; omega) (.string (str ((syL ++ adrL lba) ++ [1]))))
  have HL13 := Lib.hid (HL12.out.far (p := ⟨rb, 0, none⟩) (by simp only; omega) (.string (str ((syL ++ adrL lba) ++ [1]))))
  have HA13 := Lib.hid (HA12.out.setCell (p := ⟨rb, 0, none⟩) hwr (.string (str ((syL ++ adrL lba) ++ [1]))))
  rw [← hw12]
  generalize w12.setCell ⟨rb, 0, none⟩ (.string (str ((syL ++ adrL lba) ++ [1]))) = w13 at *
  have HR13 := Lib.hid hr
  clear hr HADD
  clear hcv2 l0 hw12 hcv
  have c1 := HX13.out.cell (i := 1) rfl
  have c6 := HX13.out.cell (i := 6) rfl
  have HADD := Lib.hid (add_any d ((syL ++ adrL lba) ++ [1]) rb w13 HR13.out (by simp only [List.length_append, adrL_len, hd, List.length_cons, List.length_nil, show syL.length = 12 from rfl]; omega))
  go_wp2_with fail
  refine HADD.out.mono ?_
  rintro e w' ⟨rfl, rfl⟩
  have hr := HR13.out.set 0 (.string (str (((syL ++ adrL lba) ++ [1]) ++ d)))
  rw [List.set_cons_zero] at hr
  have HX14 := Lib.hid (HX13.out.far (p := ⟨rb, 0, none⟩) (by simp only; omega) (.string (str (((syL ++ adrL lba) ++ [1]) ++ d))))
  have HL14 := Lib.hid (HL13.out.far (p := ⟨rb, 0, none⟩) (by simp only; omega) (.string (str (((syL ++ adrL lba) ++ [1]) ++ d))))
  have HA14 := Lib.hid (HA13.out.setCell (p := ⟨rb, 0, none⟩) hwr (.string (str (((syL ++ adrL lba) ++ [1]) ++ d))))
  generalize w13.setCell ⟨rb, 0, none⟩ (.string (str (((syL ++ adrL lba) ++ [1]) ++ d))) = w14 at *
  have HR14 := Lib.hid hr
  clear hr HADD
  clear c1 c6
  change Hid (Bx w14 rb 9 [.string (str (bldH lba d))]) at HR14
  have hbl := bldH_len lba hd
  have HCO := Lib.hid (fun W => code_any (bldH lba d) (by omega) W)
  have r0 := HR14.out.cell (i := 0) rfl
  have l3 := HL14.out.cell (i := 3) rfl
  go_wp2_with fail
  refine (HCO.out w14).mono ?_
  rintro e w15 ⟨rfl, hb15⟩
  have HR15 := Lib.hid (HR14.out.call hb15)
  have HX15 := Lib.hid (HX14.out.call hb15)
  have HL15 := Lib.hid (HL14.out.call hb15)
  have HA15 := Lib.hid (HA14.out.trans (hb15.mono HA14.out.size))
  clear hb15 r0 l3
  have HADD := Lib.hid (add_any (edcB (edc 0 (bldH lba d))) (bldH lba d) rb w15 HR15.out (by rw [edcB_len, hbl]; decide))
  go_wp2_with fail
  refine HADD.out.mono ?_
  rintro e w' ⟨rfl, rfl⟩
  have hr := HR15.out.set 0 (.string (str (bldH lba d ++ edcB (edc 0 (bldH lba d)))))
  rw [List.set_cons_zero] at hr
  have HX16 := Lib.hid (HX15.out.far (p := ⟨rb, 0, none⟩) (by simp only; omega) (.string (str (bldH lba d ++ edcB (edc 0 (bldH lba d))))))
  have HL16 := Lib.hid (HL15.out.far (p := ⟨rb, 0, none⟩) (by simp only; omega) (.string (str (bldH lba d ++ edcB (edc 0 (bldH lba d))))))
  have HA16 := Lib.hid (HA15.out.setCell (p := ⟨rb, 0, none⟩) hwr (.string (str (bldH lba d ++ edcB (edc 0 (bldH lba d))))))
  generalize w15.setCell ⟨rb, 0, none⟩ (.string (str (bldH lba d ++ edcB (edc 0 (bldH lba d))))) = w16 at *
  have HR16 := Lib.hid hr
  clear hr HADD
  have r0 := HR16.out.cell (i := 0) rfl
  have hl4 : (str (bldH lba d ++ edcB (edc 0 (bldH lba d)))).size = 2068 := by rw [str_size, List.length_append, hbl, edcB_len]
  have hl5 : (str (bldH lba d ++ edcB (edc 0 (bldH lba d)))).data.size = 2068 := hl4
  have hl6 : (bldH lba d ++ edcB (edc 0 (bldH lba d))).length = 2068 := by rw [List.length_append, hbl, edcB_len]
  have HFIN : Hid (bld lba d = (bldH lba d ++ edcB (edc 0 (bldH lba d))) ++ List.replicate 284 0) := Lib.hid rfl
  obtain ⟨Z, hZ⟩ : ∃ Z : List UInt8, Z = List.replicate 284 0 := ⟨_, rfl⟩
  have HZ := Lib.hid hZ
  rw [← hZ] at HFIN
  clear hZ
  generalize bldH lba d ++ edcB (edc 0 (bldH lba d)) = L4 at *
  have HL6 := Lib.hid hl6
  go_upto_region 16 with (fail)
  go_wp2_with (first
    | (refine wpList_mkB rfl _ _ rfl (base := w16.heap.size) Tryz.underlying123 Tryz.infoU8s 284 rfl rfl (by omega) (by omega) (by omega) (Nat.le_refl _) ?_
       intro w17 hx17 hg17
       rw [← HZ.out] at hx17
       have hrd := Rd.ofOwn' hx17 (by omega)
       have hcv := run_str (P := Tryz.prog) Tryz.underlying123 Tryz.underlying5 Tryz.underlying9 hrd
       have hb17 := (Below.refl w16.heap.size w16).grown hg17 (Nat.le_refl _) (fun k hk => by cases hk)
       have HR17 := Lib.hid (HR16.out.call hb17)
       have HA17 := Lib.hid (HA16.out.trans (hb17.mono HA16.out.size))
       have HADD := Lib.hid (add_any (Z) L4 rb w17 HR17.out (by rw [HL6.out, HZ.out, List.length_replicate]; decide))
       clear hx17 hg17 hrd hb17)
    | fail)
  refine HADD.out.mono ?_
  rintro e w' ⟨rfl, rfl⟩
  have hr := HR17.out.set 0 (.string (str (L4 ++ Z)))
  rw [List.set_cons_zero] at hr
  have HA18 := Lib.hid (HA17.out.setCell (p := ⟨rb, 0, none⟩) hwr (.string (str (L4 ++ Z))))
  generalize w17.setCell ⟨rb, 0, none⟩ (.string (str (L4 ++ Z))) = w18 at *
  have r1 := hr.cell (i := 0) rfl
  clear hr HADD r0
  go_wp2_with fail
  go_ret2
  exact ⟨by rw [HFIN.out]; rfl, HA18.out⟩
end Go.Proofs.YtflmjdjkfognjaaGreat.T7
namespace Go.Proofs.YtflmjdjkfognjaaGreat.W10
open Go.RowKit
set_option linter.unusedVariables false
theorem run_sidx {P : Program} {t : TypeId} (ht : P.underlying t = some .string) (l : List UInt8) (k : Nat) (hk : k < l.length) (i : Int) (hi : i = k) (w : World) :
    (Instr.index t (.string (str l)) (.int .i64 i)).run P w = .ok (B (G.ix l k)) w := by
  subst hi
  have h1 : (str l).size = l.length := str_size l
  have h2 : ((str l)[k]'(by rw [h1]; exact hk)) = l[k] := by simp [str, ByteArray.getElem_eq_getElem_data]
  simp [Instr.index, asIntOf, run_underlying ht, h1, hk, h2, G.ix]
def bn (l : List UInt8) (k : Nat) : Int := ((G.ix l k).toNat : Int)
theorem bn_lt (l : List UInt8) (k : Nat) : 0 ≤ bn l k ∧ bn l k ≤ 255 := by have := (G.ix l k).toNat_lt; unfold bn; omega
theorem run_bn {P : Program} {t : TypeId} (ht : P.underlying t = some .string) (l : List UInt8) (k : Nat) (hk : k < l.length) (i : Int) (hi : i = k) (w : World) :
    (Instr.index t (.string (str l)) (.int .i64 i)).run P w = .ok (.int .u8 (bn l k)) w := run_sidx ht l k hk i hi w
def okD (x y z : Int) : Prop := (unbcd x).2 = 0 ∧ (unbcd y).2 = 0 ∧ (unbcd z).2 = 0 ∧ vB (unbcd x).1 (unbcd y).1 (unbcd z).1 = true
instance (x y z : Int) : Decidable (okD x y z) := by unfold okD; infer_instance
def dM (x y z : Int) : Int := if okD x y z then (unbcd x).1 else 0
def dS (x y z : Int) : Int := if okD x y z then (unbcd y).1 else 0
def dF (x y z : Int) : Int := if okD x y z then (unbcd z).1 else 0
def dE (x y z : Int) : Int := if okD x y z then 0 else 10
theorem d_yes {x y z : Int} (h : okD x y z) : dM x y z = (unbcd x).1 ∧ dS x y z = (unbcd y).1 ∧ dF x y z = (unbcd z).1 ∧ dE x y z = 0 := ⟨if_pos h, if_pos h, if_pos h, if_pos h⟩
theorem d_no {x y z : Int} (h : ¬ okD x y z) : dM x y z = 0 ∧ dS x y z = 0 ∧ dF x y z = 0 ∧ dE x y z = 10 := ⟨if_neg h, if_neg h, if_neg h, if_neg h⟩
theorem unbcd_01 (c : Int) : (unbcd c).2 = 0 ∨ (unbcd c).2 = 2 := by unfold unbcd; split <;> simp
abbrev mo (m s f : Int) : Obj := .cells #[.int .i64 m, .int .i64 s, .int .i64 f] 36
abbrev mc (m s f : Int) : List Value := [.int .i64 m, .int .i64 s, .int .i64 f]
abbrev MB (W : World) (g : Nat) (m s f : Int) : Prop := Bx W g 36 (mc m s f)
abbrev joinR (B g2 : Nat) (m s f : Int) : World → World → Prop := RegW B g2 36 3 (fun _ W => MB W g2 m s f)
def joinV (B g2 g4 : Nat) (m s f : Int) (i : Nat) (v : Value) (W : World) : Prop := match i with
  | 0 => v = msfv m s f
  | 1 => v = msfv m s f
  | 2 => v = .bool (vB m s f)
  | 3 => MB W g2 m s f
  | 4 => v = .bool (vB m s f)
  | _ => True
theorem joinV_keep (B g2 g4 : Nat) (m s f : Int) (i : Nat) (v : Value) (W W' : World) (hR : joinR B g2 m s f W W') (h : joinV B g2 g4 m s f i v W) : joinV B g2 g4 m s f i v W' := by
  by_cases h3 : i = 3
  · subst h3
    exact hR.2.2.2 0 h
  unfold joinV at h ⊢
  split at h <;> first | exact h | exact absurd rfl h3
theorem Bx.new2 (w : World) (o : Obj) (t : TypeId) (cs : List Value) (g : Nat) (hg : g = w.heap.size + 1) : Bx ((w.alloc o).alloc (.cells cs.toArray t)) g t cs := by
  have h := Bx.new (w.alloc o) t cs
  have e : (w.alloc o).heap.size = g := by rw [hg]; simp
  rwa [e] at h
set_option maxRecDepth 100000 in
set_option maxHeartbeats 2000000 in
theorem join_any (m s f : Int) (w : World) : Calls Tryz.prog 119 #[.agg #[.int .i64 m, .int .i64 s, .int .i64 f]] w (RV (.tuple #[msfv m s f, .bool (vB m s f)]) w) := by
  go_enter Tryz.func119, Tryz.ntmps119
  go_upto_region 2 with (fail)
  obtain ⟨g2, hg2⟩ : ∃ g, g = w.heap.size + 1 := ⟨_, rfl⟩
  obtain ⟨g4, hg4⟩ : ∃ g, g = w.heap.size + 1 + 1 := ⟨_, rfl⟩
  have hb0 := (Below.refl w.heap.size w).alloc (Nat.le_refl _) (.cells #[.int .i64 m, .int .i64 s, .int .i64 f] 207)
  have hs0 : (w.alloc (.cells #[.int .i64 m, .int .i64 s, .int .i64 f] 207)).heap.size = w.heap.size + 1 := by simp
  rw [← hg4, ← hg2]
  generalize w.alloc (.cells #[.int .i64 m, .int .i64 s, .int .i64 f] 207) = w1 at hb0 hs0 ⊢
  have hB2 : MB ((w1.alloc (mo 0 0 0)).alloc (mo m s f)) g2 0 0 0 := by rw [hg2, ← hs0]; exact (Bx.new w1 _ (mc 0 0 0)).alloc _
  have hB4 : MB ((w1.alloc (mo 0 0 0)).alloc (mo m s f)) g4 m s f := Bx.new2 w1 _ _ (mc m s f) g4 (by omega)
  have hle := (hb0.alloc hb0.size (mo 0 0 0)).alloc (by have := hb0.size; simp; omega) (mo m s f)
  generalize (w1.alloc (mo 0 0 0)).alloc (mo m s f) = w2 at hB2 hB4 hle ⊢
  have hgB : w.heap.size ≤ g2 := by omega
  have hg24 : g4 ≠ g2 := by omega
  clear hg2 hg4 hs0 hb0
  obtain ⟨B, hBB⟩ : ∃ B, B = w.heap.size := ⟨_, rfl⟩
  rw [← hBB] at hle hgB
  refine wp_region_inr (by kernel_rfl) (joinR B g2 m s f) (fun W => Below B w W ∧ MB W g4 m s f ∧ ∃ cs : List Value, cs.length = 3 ∧ Bx W g2 36 cs) (joinV B g2 g4 m s f) (fun _ => false) (by kernel_rfl) (fun W W' hR h => ⟨h.1.trans hR.1, (hR.2.1.2 g4 h.2.1.lt (fun e => hg24 (Option.some.inj e))).trans h.2.1, hR.2.2.1 h.2.2⟩) (joinV_keep B g2 g4 m s f) (⟨hle.drew, hB4, _, rfl, hB2⟩) ⟨?_, ?_, ?_, ?_, ?_, trivial⟩ ?_
  · intro a W hc hsz hold hdep
    have o4 : a.tmps.getD 4 undef = .pointer (some ⟨g4, 0, none⟩) := hold 4 (by kernel_rfl)
    have c0 := hc.2.1.cell (i := 0) rfl
    have c1 := hc.2.1.cell (i := 1) rfl
    have c2 := hc.2.1.cell (i := 2) rfl
    clear hsz hold hdep
    refine stepR_do rfl (wanted_none rfl) ?_
    refine stepR_val (v := msfv m s f) RegW.refl rfl fun K hK => ?_
    go_simp
    exact hK
  · intro a W hc hsz hold hdep
    have o4 : a.tmps.getD 4 undef = .pointer (some ⟨g4, 0, none⟩) := hold 4 (by kernel_rfl)
    have c0 := hc.2.1.cell (i := 0) rfl
    have c1 := hc.2.1.cell (i := 1) rfl
    have c2 := hc.2.1.cell (i := 2) rfl
    clear hsz hold hdep
    refine stepR_do rfl (wanted_none rfl) ?_
    refine stepR_val (v := msfv m s f) RegW.refl rfl fun K hK => ?_
    go_simp
    exact hK
  · intro a W hc hsz hold hdep
    have d1 : a.tmps.getD 13 undef = msfv m s f := hdep 1 (by kernel_rfl) rfl _ rfl
    have e1 : a.tmps[13]?.getD undef = msfv m s f := by rw [← Array.getD_eq_getD_getElem?]; exact d1
    clear hsz hold hdep
    refine stepR_do rfl (wanted_none rfl) ?_
    refine stepR_call (v := .bool (vB m s f)) (fun W' hb => RegW.call (fun _ _ _ hb h => h.call hb) (Nat.le_trans (Nat.le_of_eq hBB) hc.1.size) hb) (fun _ => rfl) fun K hK => ?_
    go_simp
    refine (avalid_any m s f _).mono ?_
    rintro e w' ⟨rfl, hb'⟩
    exact hK _ hb'
  · intro a W hc hsz hold hdep
    have o2 : a.tmps.getD 2 undef = .pointer (some ⟨g2, 0, none⟩) := hold 2 (by kernel_rfl)
    have d0 : a.tmps.getD 12 undef = msfv m s f := hdep 0 (by kernel_rfl) rfl _ rfl
    clear hsz hold hdep
    refine stepR_do rfl (wanted_none rfl) ?_
    obtain ⟨cs, hl, hB⟩ := hc.2.2
    obtain ⟨a0, a1, a2, rfl⟩ : ∃ a0 a1 a2, cs = [a0, a1, a2] := by
      match cs, hl with
      | [x, y, z], _ => exact ⟨x, y, z, rfl⟩
    have c0 := hB.cell (i := 0) rfl
    have c1 := hB.cell (i := 1) rfl
    have c2 := hB.cell (i := 2) rfl
    have hf := hB.free
    have hS : MB (setN W g2 0 (mc m s f)) g2 m s f := hB.setN (mc m s f) 0
    refine stepR_new (v := undef) (RegW.store hgB 0 (mc m s f) fun _ _ => hS) hS fun K hK => ?_
    clear hS hB
    go_simp
    exact hK
  · intro a W hc hsz hold hdep
    have d2 : a.tmps.getD 14 undef = .bool (vB m s f) := hdep 2 (by kernel_rfl) rfl _ rfl
    clear hsz hold hdep
    refine stepR_do rfl (wanted_none rfl) ?_
    refine stepR_val (v := .bool (vB m s f)) RegW.refl rfl fun K hK => ?_
    go_simp
    exact hK
  · intro a W hC hd hsz hold hval
    have d3 : a.tmps.getD 3 undef = .bool (vB m s f) := hval 4 _ rfl rfl
    have d2 : a.tmps.getD 2 undef = .pointer (some ⟨g2, 0, none⟩) := hold 2 (by kernel_rfl)
    clear hold
    obtain ⟨tm, df⟩ := a
    replace hd : df = [] := hd
    replace hsz : tm.size = 15 := hsz
    replace d3 : tm.getD 3 undef = .bool (vB m s f) := d3
    replace d2 : tm.getD 2 undef = .pointer (some ⟨g2, 0, none⟩) := d2
    subst hd
    have e : tm = #[tm.getD 0 undef, tm.getD 1 undef, tm.getD 2 undef, tm.getD 3 undef, tm.getD 4 undef, tm.getD 5 undef, tm.getD 6 undef, tm.getD 7 undef, tm.getD 8 undef, tm.getD 9 undef, tm.getD 10 undef, tm.getD 11 undef, tm.getD 12 undef, tm.getD 13 undef, tm.getD 14 undef] := arr_eq tm 15 hsz
    rw [d3, d2] at e
    clear d3 d2 hsz
    generalize tm.getD 0 undef = v0 at e
    generalize tm.getD 1 undef = v1 at e
    generalize tm.getD 4 undef = v4 at e
    generalize tm.getD 5 undef = v5 at e
    generalize tm.getD 6 undef = v6 at e
    generalize tm.getD 7 undef = v7 at e
    generalize tm.getD 8 undef = v8 at e
    generalize tm.getD 9 undef = v9 at e
    generalize tm.getD 10 undef = v10 at e
    generalize tm.getD 11 undef = v11 at e
    generalize tm.getD 12 undef = v12 at e
    generalize tm.getD 13 undef = v13 at e
    generalize tm.getD 14 undef = v14 at e
    subst e
    have hM : MB W g2 m s f := hval 3 _ rfl rfl
    have hle2 := hC.1
    rw [hBB] at hle2
    clear hval hC
    have c0 := hM.cell (i := 0) rfl
    have c1 := hM.cell (i := 1) rfl
    have c2 := hM.cell (i := 2) rfl
    clear hM
    go_wp2_with fail
    exact bodyPost_ret (v := .tuple #[msfv m s f, .bool (vB m s f)]) (by simp [results, Tryz.results119, go_sem, c0, c1, c2]) rfl ⟨rfl, hle2⟩
def c3 (i : Nat) (x y z : Int) : List Value := [.int .i64 (if 0 < i then x else 0), .int .i64 (if 1 < i then y else 0), .int .i64 (if 2 < i then z else 0)]
def okN (i : Nat) (x y z : Int) : Prop := (0 < i → (unbcd x).2 = 0) ∧ (1 < i → (unbcd y).2 = 0) ∧ (2 < i → (unbcd z).2 = 0)
theorem okD_not {x y z : Int} (h : (unbcd x).2 = 2 ∨ (unbcd y).2 = 2 ∨ (unbcd z).2 = 2) : ¬ okD x y z := fun e => by
  obtain ⟨e1, e2, e3, _⟩ := e
  omega
theorem zero_3i : ∀ w, (zeroValue 207).run Tryz.prog w = .ok (.agg #[.int .i64 0, .int .i64 0, .int .i64 0]) w := fun _ => by kernel_rfl
def DecA (x y z : Int) (w : World) (e : Ending) (w' : World) : Prop := e = .returned (.tuple #[msfv (dM x y z) (dS x y z) (dF x y z), .int .i64 (dE x y z)]) ∧ Below w.heap.size w w'
theorem DecA.yes {x y z : Int} {w w' : World} (h : okD x y z) (hb : Below w.heap.size w w') {v : Value} (hv : v = .tuple #[msfv (unbcd x).1 (unbcd y).1 (unbcd z).1, .int .i64 0]) : DecA x y z w (.returned v) w' := by
  obtain ⟨h1, h2, h3, h4⟩ := d_yes h
  unfold DecA
  rw [h1, h2, h3, h4, hv]; exact ⟨rfl, hb⟩
theorem DecA.no {x y z : Int} {w w' : World} (h : ¬ okD x y z) (hb : Below w.heap.size w w') {v : Value} (hv : v = .tuple #[msfv 0 0 0, .int .i64 10]) : DecA x y z w (.returned v) w' := by
  obtain ⟨h1, h2, h3, h4⟩ := d_no h
  unfold DecA
  rw [h1, h2, h3, h4, hv]; exact ⟨rfl, hb⟩
end Go.Proofs.YtflmjdjkfognjaaGreat.W10
