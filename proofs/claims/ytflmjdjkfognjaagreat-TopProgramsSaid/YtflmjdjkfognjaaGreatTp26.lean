/- Shaken out of XIf -/
import Derived.Test.YtflmjdjkfognjaaGreatTp25
namespace Go.Proofs.YtflmjdjkfognjaaGreat.T7
open Go Go.RowKit W10
set_option linter.unusedVariables false
/-- the address of a block as bytes -/
def adrL (lba : Int) : List UInt8 := adr (Q.mM (lba + 150)) (Q.mS (lba + 150)) (Q.mF (lba + 150))
theorem adrL_len (lba : Int) : (adrL lba).length = 3 := rfl
def bldH (lba : Int) (d : List UInt8) : List UInt8 := ((syL ++ adrL lba) ++ [1]) ++ d
/-- a raw sector without parity -/
def bld (lba : Int) (d : List UInt8) : List UInt8 := (bldH lba d ++ edcB (edc 0 (bldH lba d))) ++ List.replicate 284 0
theorem bldH_len (lba : Int) {d : List UInt8} (h : d.length = 2048) : (bldH lba d).length = 2064 := by simp [bldH, adrL_len, syL, h]
theorem edcB_len (c : Nat) : (edcB c).length = 4 := rfl
theorem bld_len (lba : Int) {d : List UInt8} (h : d.length = 2048) : (bld lba d).length = 2352 := by
  unfold bld
  rw [List.length_append, List.length_append, bldH_len lba h, edcB_len, List.length_replicate]
theorem okA_lba {lba : Int} (h0 : -150 ≤ lba) (h1 : lba ≤ 449849) : okA (Q.mM (lba + 150)) (Q.mS (lba + 150)) (Q.mF (lba + 150)) := by
  unfold okA Q.mM Q.mS Q.mF
  omega
set_option maxRecDepth 100000 in
set_option maxHeartbeats 4000000 in
theorem build_0 (lba : Int) (d : List UInt8) (w : World) (h0 : -150 ≤ lba) (h1 : lba ≤ 449849) (hd : d.length = 2048) :
    Calls Tryz.prog 76 #[secV lba d] w fun e w' => e = .returned (.tuple #[.string (str (bld lba d)), .int .i64 0]) ∧ Below w.heap.size w w' := by
  have HV := Lib.hid (fun W => svalid_0 lba d W h0 h1 hd)
  have HL := Lib.hid layouts_0
  have HM := Lib.hid (fun W => tomsf_ok lba W h0 h1)
  have HE := Lib.hid (fun W => aenc_any _ _ _ W (okA_lba h0 h1))
  have HS := Lib.hid sync_any
  have hm : (msfn (lba + 150)) = .agg #[.int .i64 (Q.mM (lba + 150)), .int .i64 (Q.mS (lba + 150)), .int .i64 (Q.mF (lba + 150))] := rfl
  have hm2 : msfv (Q.mM (lba + 150)) (Q.mS (lba + 150)) (Q.mF (lba + 150)) = .agg #[.int .i64 (Q.mM (lba + 150)), .int .i64 (Q.mS (lba + 150)), .int .i64 (Q.mF (lba + 150))] := rfl
  rw [hm] at HM
  rw [hm2] at HE
  change Hid (∀ W, Calls _ _ _ W (R2B (.string (str (adrL lba))) (.int .i64 0) W)) at HE
  clear hm hm2
  generalize hqm : Q.mM (lba + 150) = qm at *
  generalize hqs : Q.mS (lba + 150) = qs at *
  generalize hqf : Q.mF (lba + 150) = qf at *
  clear hqm hqs hqf
  unfold layV at HL
  unfold secV at HV ⊢
  have hsv : syV = [.int .u8 0, .int .u8 255, .int .u8 255, .int .u8 255, .int .u8 255, .int .u8 255, .int .u8 255, .int .u8 255, .int .u8 255, .int .u8 255, .int .u8 255, .int .u8 0] := by kernel_rfl
  have HSV := Lib.hid hsv
  rw [hsv] at HS
  clear hsv
  obtain ⟨w1, hw1⟩ : ∃ w1, w1 = w.alloc (.cells #[.int .i64 lba, .int .i64 0, .int .i64 0, .int .i64 0, .int .i64 0, .int .i64 0, .string (str d)] 103) := ⟨_, rfl⟩
  have hA := (Below.refl w.heap.size w).alloc (Nat.le_refl _) (.cells #[.int .i64 lba, .int .i64 0, .int .i64 0, .int .i64 0, .int .i64 0, .int .i64 0, .string (str d)] 103)
  obtain ⟨b, hb⟩ : ∃ b, b = w.heap.size := ⟨_, rfl⟩
  have hx : Bx w1 b 103 [.int .i64 lba, .int .i64 0, .int .i64 0, .int .i64 0, .int .i64 0, .int .i64 0, .string (str d)] := by rw [hw1, hb]; exact Bx.new w _ _
  rw [← hw1] at hA
  have HB := Lib.hid hb
  have HW1 : Hid (w.alloc (.cells #[.int .i64 lba, .int .i64 0, .int .i64 0, .int .i64 0, .int .i64 0, .int .i64 0, .string (str d)] 103) = w1) := Lib.hid hw1.symm
  have HX1 := Lib.hid hx
  have HA1 := Lib.hid hA
  have c0 := hx.cell (i := 0) rfl
  have c1 := hx.cell (i := 1) rfl
  have c2 := hx.cell (i := 2) rfl
  have c3 := hx.cell (i := 3) rfl
  have c4 := hx.cell (i := 4) rfl
  have c5 := hx.cell (i := 5) rfl
  have c6 := hx.cell (i := 6) rfl
  clear hw1 hA hb hx
  go_enter Tryz.func76, Tryz.ntmps76
  go_upto_region 1 with (fail)
  rw [HW1.out, ← HB.out]
  go_wp2_with fail
  refine (HV.out w1).mono ?_
  rintro e w2 ⟨rfl, hb2⟩
  have HX2 := Lib.hid (HX1.out.call hb2)
  have HA2 := Lib.hid (HA1.out.trans (hb2.mono HA1.out.size))
  clear hb2 c0 c1 c2 c3 c4 c5 c6
  have c1 := HX2.out.cell (i := 1) rfl
  go_wp2_with fail
  refine (HL.out w2).mono ?_
  rintro e w3 ⟨rfl, hb3⟩
  obtain ⟨lb, hlb⟩ : ∃ lb, lb = w3.heap.size := ⟨_, rfl⟩
  obtain ⟨w4, hw4⟩ : ∃ w4, w4 = w3.alloc (.cells #[.int .u8 1, .int .i64 16, .int .i64 2048, .int .i64 0] 187) := ⟨_, rfl⟩
  have hA4 := (Below.refl w3.heap.size w3).alloc (Nat.le_refl _) (.cells #[.int .u8 1, .int .i64 16, .int .i64 2048, .int .i64 0] 187)
  rw [← hw4] at hA4
  have hb4 := hb3.trans (hA4.mono hb3.size)
  have HL4 : Hid (Bx w4 lb 187 [.int .u8 1, .int .i64 16, .int .i64 2048, .int .i64 0]) := Lib.hid (by rw [hw4, hlb]; exact Bx.new w3 _ _)
  have HX4 := Lib.hid (HX2.out.call hb4)
  have HA4 := Lib.hid (HA2.out.trans (hb4.mono HA2.out.size))
  have HW4 : Hid (w3.alloc (.cells #[.int .u8 1, .int .i64 16, .int .i64 2048, .int .i64 0] 187) = w4) := Lib.hid hw4.symm
  have HLB := Lib.hid hlb
  clear hb3 hA4 hb4 hw4 hlb c1
  go_upto_region 4 with (fail)
  rw [HW4.out, ← HLB.out]
  have c0 := HX4.out.cell (i := 0) rfl
  go_wp2_with fail
  refine (HM.out w4).mono ?_
  rintro e w5 ⟨rfl, hb5⟩
  obtain ⟨mb, hmb⟩ : ∃ mb, mb = w5.heap.size := ⟨_, rfl⟩
  obtain ⟨w6, hw6⟩ : ∃ w6, w6 = w5.alloc (.cells #[.int .i64 qm, .int .i64 qs, .int .i64 qf] 36) := ⟨_, rfl⟩
  have hA6 := (Below.refl w5.heap.size w5).alloc (Nat.le_refl _) (.cells #[.int .i64 qm, .int .i64 qs, .int .i64 qf] 36)
  rw [← hw6] at hA6
  have hb6 := hb5.trans (hA6.mono hb5.size)
  have hm6 : Bx w6 mb 36 [.int .i64 qm, .int .i64 qs, .int .i64 qf] := by rw [hw6, hmb]; exact Bx.new w5 _ _
  have HX6 := Lib.hid (HX4.out.call hb6)
  have HL6 := Lib.hid (HL4.out.call hb6)
  have HA6 := Lib.hid (HA4.out.trans (hb6.mono HA4.out.size))
  have HW6 : Hid (w5.alloc (.cells #[.int .i64 qm, .int .i64 qs, .int .i64 qf] 36) = w6) := Lib.hid hw6.symm
  have HMB := Lib.hid hmb
  clear hb5 hA6 hb6 hw6 hmb c0
  go_upto_region 5 with (fail)
  rw [HW6.out, ← HMB.out]
  have c0 := hm6.cell (i := 0) rfl
  have c1 := hm6.cell (i := 1) rfl
  have c2 := hm6.cell (i := 2) rfl
  clear hm6
  go_wp2_with fail
  refine (HE.out w6).mono ?_
  rintro e w7 ⟨rfl, hb7⟩
  clear c0 c1 c2
  have HX7 := Lib.hid (HX6.out.call hb7)
  have HL7 := Lib.hid (HL6.out.call hb7)
  have HA7 := Lib.hid (HA6.out.trans (hb7.mono HA6.out.size))
  clear hb7
  go_wp2_with fail
  refine (HS.out w7).mono ?_
  rintro e w8 ⟨rfl, hb8⟩
  have HX8 := Lib.hid (HX7.out.call hb8)
  have HL8 := Lib.hid (HL7.out.call hb8)
  have HA8 := Lib.hid (HA7.out.trans (hb8.mono HA7.out.size))
  clear hb8
  go_upto_region 7 with (fail)
  obtain ⟨fb, hfb⟩ : ∃ fb, fb = w8.heap.size := ⟨_, rfl⟩
  obtain ⟨w9, hw9⟩ : ∃ w9, w9 = w8.alloc (.cells #[.int .u8 0, .int .u8 255, .int .u8 255, .int .u8 255, .int .u8 255, .int .u8 255, .int .u8 255, .int .u8 255, .int .u8 255, .int .u8 255, .int .u8 255, .int .u8 0] 190) := ⟨_, rfl⟩
  have hA9 := (Below.refl w8.heap.size w8).alloc (Nat.le_refl _) (.cells #[.int .u8 0, .int .u8 255, .int .u8 255, .int .u8 255, .int .u8 255, .int .u8 255, .int .u8 255, .int .u8 255, .int .u8 255, .int .u8 255, .int .u8 255, .int .u8 0] 190)
  rw [← hw9] at hA9
  have hf9 : Bx w9 fb 190 (bs syL) := by
    rw [show bs syL = syV from rfl, HSV.out, hw9, hfb]
    exact Bx.new w8 _ _
  have hrd : Rd w9 (.slice (some ⟨fb, 0, none⟩) 12 12) syL := ⟨by decide, some ⟨fb, 0, none⟩, 12, fb, 0, rfl, by decide, fun i hi => ⟨rfl, by rw [Nat.zero_add]; exact hf9.cell (bs_get hi)⟩⟩
  have hcv := run_str (P := Tryz.prog) Tryz.underlying123 Tryz.underlying5 Tryz.underlying9 hrd
  have HX9 := Lib.hid (HX8.out.call hA9)
  have HL9 := Lib.hid (HL8.out.call hA9)
  have HA9 := Lib.hid (HA8.out.trans (hA9.mono HA8.out.size))
  have HF9 := Lib.hid hf9
  rw [← hw9, ← hfb]
  clear hA9 hf9 hrd hw9 hfb
  obtain ⟨rb, hrb⟩ : ∃ rb, rb = w9.heap.size := ⟨_, rfl⟩
  obtain ⟨w10, hw10⟩ : ∃ w10, w10 = w9.alloc (.cells #[.string (str syL)] 9) := ⟨_, rfl⟩
  have hA10 := (Below.refl w9.heap.size w9).alloc (Nat.le_refl _) (.cells #[.string (str syL)] 9)
  rw [← hw10] at hA10
  have hr10 : Bx w10 rb 9 [.string (str syL)] := by rw [hw10, hrb]; exact Bx.new w9 _ _
  have HR10 := Lib.hid hr10
  have HX10 := Lib.hid (HX9.out.call hA10)
  have HL10 := Lib.hid (HL9.out.call hA10)
  have HA10 := Lib.hid (HA9.out.trans (hA10.mono HA9.out.size))
  have HW10 : Hid (w9.alloc (.cells #[.string (str syL)] 9) = w10) := Lib.hid hw10.symm
  have HRB := Lib.hid hrb
  have hbr : b < rb := by rw [hrb]; exact HX9.out.lt
  have hlr : lb < rb := by rw [hrb]; exact HL9.out.lt
  have hwr : w.heap.size ≤ rb := by rw [hrb]; exact HA9.out.size
  clear hA10 hr10 hw10 hrb
  go_upto_region 8 with (fail)
  rw [HW10.out, ← HRB.out]
  have HADD := Lib.hid (add_any (adrL lba) syL rb w10 HR10.out (by rw [adrL_len]; decide))
  go_wp2_with fail
  refine HADD.out.mono ?_
  rintro e w' ⟨rfl, rfl⟩
  have hr := HR10.out.set 0 (.string (str (syL ++ (adrL lba))))
  rw [List.set_cons_zero] at hr
  have HX11 := Lib.hid (HX10.out.far (p := ⟨rb, 0, none⟩) (by simp only; omega) (.string (str (syL ++ (adrL lba)))))
  have HL11 := Lib.hid (HL10.out.far (p := ⟨rb, 0, none⟩) (by simp only; omega) (.string (str (syL ++ (adrL lba)))))
  have HA11 := Lib.hid (HA10.out.setCell (p := ⟨rb, 0, none⟩) hwr (.string (str (syL ++ (adrL lba)))))
  generalize w10.setCell ⟨rb, 0, none⟩ (.string (str (syL ++ (adrL lba)))) = w11 at *
  have HR11 := Lib.hid hr
  clear hr HADD
  obtain ⟨w12, hw12⟩ : ∃ w12, w12 = w11.alloc (.cells #[.int .u8 1] 5) := ⟨_, rfl⟩
  have hA12 := (Below.refl w11.heap.size w11).alloc (Nat.le_refl _) (.cells #[.int .u8 1] 5)
  rw [← hw12] at hA12
  have hrd := Rd.lit w11 [1] 5 (by decide)
  have hcv2 := run_str (P := Tryz.prog) Tryz.underlying123 Tryz.underlying5 Tryz.underlying9 hrd
  change (convert 123 9 (.slice (some ⟨w11.heap.size, 0, none⟩) 1 1)).run Tryz.prog (w11.alloc (.cells #[.int .u8 1] 5)) = .ok (.string (str [1])) (w11.alloc (.cells #[.int .u8 1] 5)) at hcv2
  have HX12 := Lib.hid (HX11.out.call hA12)
  have HL12 := Lib.hid (HL11.out.call hA12)
  have HR12 := Lib.hid (HR11.out.call hA12)
  have HA12 := Lib.hid (HA11.out.trans (hA12.mono HA11.out.size))
  have l0 := HL11.out.cell (i := 0) rfl
  clear hA12 hrd
  have HADD := Lib.hid (add_any [1] (syL ++ adrL lba) rb w12 HR12.out (by simp only [List.length_append, adrL_len, List.length_cons, List.length_nil, show syL.length = 12 from rfl]; omega))
  rw [hw12] at HADD
  go_wp2_with fail
  refine HADD.out.mono ?_
  rintro e w' ⟨rfl, rfl⟩
  have hr := HR12.out.set 0 (.string (str ((syL ++ adrL lba) ++ [1])))
  rw [List.set_cons_zero] at hr
  have HX13 := Lib.hid (HX12.out.far (p := ⟨rb, 0, none⟩) (by simp only; omega) (.string (str ((syL ++ adrL lba) ++ [1]))))
  have HL13 := Lib.hid (HL12.out.far (p := ⟨rb, 0, none⟩) (by simp only; omega) (.string (str ((syL ++ adrL lba) ++ [1]))))
  have HA13 := Lib.hid (HA12.out.setCell (p := ⟨rb, 0, none⟩) hwr (.string (str ((syL ++ adrL lba) ++ [1]))))
  rw [← hw12]
  generalize w12.setCell ⟨rb, 0, none⟩ (.string (str ((syL ++ adrL lba) ++ [1]))) = w13 at *
  have HR13 := Lib.hid hr
  clear hr HADD
  clear hcv2 l0 hw12 hcv
  have c1 := HX13.out.cell (i := 1) rfl
  have c6 := HX13.out.cell (i := 6) rfl
  have HADD := Lib.hid (add_any d ((syL ++ adrL lba) ++ [1]) rb w13 HR13.out (by simp only [List.length_append, adrL_len, hd, List.length_cons, List.length_nil, show syL.length = 12 from rfl]; omega))
  go_wp2_with fail
  refine HADD.out.mono ?_
  rintro e w' ⟨rfl, rfl⟩
  have hr := HR13.out.set 0 (.string (str (((syL ++ adrL lba) ++ [1]) ++ d)))
  rw [List.set_cons_zero] at hr
  have HX14 := Lib.hid (HX13.out.far (p := ⟨rb, 0, none⟩) (by simp only; omega) (.string (str (((syL ++ adrL lba) ++ [1]) ++ d))))
  have HL14 := Lib.hid (HL13.out.far (p := ⟨rb, 0, none⟩) (by simp only; omega) (.string (str (((syL ++ adrL lba) ++ [1]) ++ d))))
  have HA14 := Lib.hid (HA13.out.setCell (p := ⟨rb, 0, none⟩) hwr (.string (str (((syL ++ adrL lba) ++ [1]) ++ d))))
  generalize w13.setCell ⟨rb, 0, none⟩ (.string (str (((syL ++ adrL lba) ++ [1]) ++ d))) = w14 at *
  have HR14 := Lib.hid hr
  clear hr HADD
  clear c1 c6
  change Hid (Bx w14 rb 9 [.string (str (bldH lba d))]) at HR14
  have hbl := bldH_len lba hd
  have HCO := Lib.hid (fun W => code_any (bldH lba d) (by omega) W)
  have r0 := HR14.out.cell (i := 0) rfl
  have l3 := HL14.out.cell (i := 3) rfl
  go_wp2_with fail
  refine (HCO.out w14).mono ?_
  rintro e w15 ⟨rfl, hb15⟩
  have HR15 := Lib.hid (HR14.out.call hb15)
  have HX15 := Lib.hid (HX14.out.call hb15)
  have HL15 := Lib.hid (HL14.out.call hb15)
  have HA15 := Lib.hid (HA14.out.trans (hb15.mono HA14.out.size))
  clear hb15 r0 l3
  have HADD := Lib.hid (add_any (edcB (edc 0 (bldH lba d))) (bldH lba d) rb w15 HR15.out (by rw [edcB_len, hbl]; decide))
  go_wp2_with fail
  refine HADD.out.mono ?_
  rintro e w' ⟨rfl, rfl⟩
  have hr := HR15.out.set 0 (.string (str (bldH lba d ++ edcB (edc 0 (bldH lba d)))))
  rw [List.set_cons_zero] at hr
  have HX16 := Lib.hid (HX15.out.far (p := ⟨rb, 0, none⟩) (by simp only; omega) (.string (str (bldH lba d ++ edcB (edc 0 (bldH lba d))))))
  have HL16 := Lib.hid (HL15.out.far (p := ⟨rb, 0, none⟩) (by simp only; omega) (.string (str (bldH lba d ++ edcB (edc 0 (bldH lba d))))))
  have HA16 := Lib.hid (HA15.out.setCell (p := ⟨rb, 0, none⟩) hwr (.string (str (bldH lba d ++ edcB (edc 0 (bldH lba d))))))
  generalize w15.setCell ⟨rb, 0, none⟩ (.string (str (bldH lba d ++ edcB (edc 0 (bldH lba d))))) = w16 at *
  have HR16 := Lib.hid hr
  clear hr HADD
  have r0 := HR16.out.cell (i := 0) rfl
  have hl4 : (str (bldH lba d ++ edcB (edc 0 (bldH lba d)))).size = 2068 := by rw [str_size, List.length_append, hbl, edcB_len]
  have hl5 : (str (bldH lba d ++ edcB (edc 0 (bldH lba d)))).data.size = 2068 := hl4
  have hl6 : (bldH lba d ++ edcB (edc 0 (bldH lba d))).length = 2068 := by rw [List.length_append, hbl, edcB_len]
  have HFIN : Hid (bld lba d = (bldH lba d ++ edcB (edc 0 (bldH lba d))) ++ List.replicate 284 0) := Lib.hid rfl
  obtain ⟨Z, hZ⟩ : ∃ Z : List UInt8, Z = List.replicate 284 0 := ⟨_, rfl⟩
  have HZ := Lib.hid hZ
  rw [← hZ] at HFIN
  clear hZ
  generalize bldH lba d ++ edcB (edc 0 (bldH lba d)) = L4 at *
  have HL6 := Lib.hid hl6
  go_upto_region 16 with (fail)
  go_wp2_with (first
    | (refine wpList_mkB rfl _ _ rfl (base := w16.heap.size) Tryz.underlying123 Tryz.infoU8s 284 rfl rfl (by omega) (by omega) (by omega) (Nat.le_refl _) ?_
       intro w17 hx17 hg17
       rw [← HZ.out] at hx17
       have hrd := Rd.ofOwn' hx17 (by omega)
       have hcv := run_str (P := Tryz.prog) Tryz.underlying123 Tryz.underlying5 Tryz.underlying9 hrd
       have hb17 := (Below.refl w16.heap.size w16).grown hg17 (Nat.le_refl _) (fun k hk => by cases hk)
       have HR17 := Lib.hid (HR16.out.call hb17)
       have HA17 := Lib.hid (HA16.out.trans (hb17.mono HA16.out.size))
       have HADD := Lib.hid (add_any (Z) L4 rb w17 HR17.out (by rw [HL6.out, HZ.out, List.length_replicate]; decide))
       clear hx17 hg17 hrd hb17)
    | fail)
  refine HADD.out.mono ?_
  rintro e w' ⟨rfl, rfl⟩
  have hr := HR17.out.set 0 (.string (str (L4 ++ Z)))
  rw [List.set_cons_zero] at hr
  have HA18 := Lib.hid (HA17.out.setCell (p := ⟨rb, 0, none⟩) hwr (.string (str (L4 ++ Z))))
  generalize w17.setCell ⟨rb, 0, none⟩ (.string (str (L4 ++ Z))) = w18 at *
  have r1 := hr.cell (i := 0) rfl
  clear hr HADD r0
  go_wp2_with fail
  go_ret2
  exact ⟨by rw [HFIN.out]; rfl, HA18.out⟩
end Go.Proofs.YtflmjdjkfognjaaGreat.T7
