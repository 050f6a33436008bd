/- Chapter 12: the reference walked: Damage. -/
import Derived.Test.YtpncjadhpnapnaaMq21
namespace Go.Proofs.Ytpncjadhpnapnaa.D12
open Go.RowKit Go.Maps C9
open D13 (RdI ixI is)
set_option linter.unusedVariables false

set_option maxRecDepth 100000 in
set_option maxHeartbeats 4000000 in
theorem rdam_bad {w : World} {vL vS vD : Value} {M : Med} {P : Nat → Prop} {SS : List RS} (h : RmF P w vL vS vD M SS) (hn : M.n ≤ 4096) (hs : M.scr.length ≤ 256) {vE vC : Value} {d : Dam} (hd : DamV w vE vC d) (hno : ¬ d.Ok M.n) :
    Calls Try.prog 28 #[rmv M vL vS vD, damv vE vC d] w (RmP (1, M) P w) := by
  obtain ⟨lba, E, C⟩ := d
  have hd0 := hd
  obtain ⟨hE, hC, hlba, hlen, hwf⟩ := hd
  simp only at hE hC hlba hlen hwf
  obtain ⟨hEl, ⟨aE, cE, bE, oE, rfl, hEc, hEr⟩, hEw⟩ := hE
  obtain ⟨aC, cC, rfl, hCc⟩ := RdD.form hC
  obtain ⟨bC, oC, hCr⟩ := RdD.at hC
  have HER := Lib.hid hEr
  have HCR := Lib.hid hCr
  have HEW := Lib.hid hEw
  have HCW := Lib.hid hwf
  have HD0 := Lib.hid hd0
  clear hEr hCr hEw hwf hC hd0
  have HF := Lib.hid h
  have hre := h.here
  obtain ⟨⟨aL, cL, rfl⟩, ⟨aS, cS, rfl⟩, aD, cD, rfl⟩ := hre.forms
  have HR := Lib.hid hre
  have hl1 := hre.l
  have hl2 := hre.e
  have hl3 := hre.x
  have hSn := hre.n
  obtain ⟨n, hnn⟩ : ∃ n, n = M.n := ⟨_, rfl⟩
  rw [← hnn] at hl1 hSn hno hn HR HF ⊢
  have HNN := Lib.hid hnn
  have HL1 := Lib.hid hl1
  have HL2 := Lib.hid hl2
  have HL3 := Lib.hid hl3
  have HSN := Lib.hid hSn
  have hz := zeroRM
  clear hl1 hl2 hl3 hSn hnn hre h
  obtain ⟨w1, hw1⟩ : ∃ w1, w1 = w.alloc (.cells #[.int .i64 M.kind, .int .i64 M.endu, .slice aL n cL, .slice aS M.scr.length cS, .slice aD n cD] 59) := ⟨_, rfl⟩
  obtain ⟨w2, hw2⟩ : ∃ w2, w2 = w1.alloc (.cells #[.int .i64 lba, .slice aE E.length cE, .slice aC C.length cC] 44) := ⟨_, rfl⟩
  obtain ⟨w3, hw3⟩ : ∃ w3, w3 = w2.alloc (.cells #[.int .i64 0, .int .i64 0, .slice none 0 0, .slice none 0 0, .slice none 0 0] 59) := ⟨_, rfl⟩
  have hA1 := (Below.refl w.heap.size w).alloc (Nat.le_refl _) (.cells #[.int .i64 M.kind, .int .i64 M.endu, .slice aL n cL, .slice aS M.scr.length cS, .slice aD n cD] 59)
  rw [← hw1] at hA1
  have hA2 := (Below.refl w1.heap.size w1).alloc (Nat.le_refl _) (.cells #[.int .i64 lba, .slice aE E.length cE, .slice aC C.length cC] 44)
  rw [← hw2] at hA2
  have hA3 := (Below.refl w2.heap.size w2).alloc (Nat.le_refl _) (.cells #[.int .i64 0, .int .i64 0, .slice none 0 0, .slice none 0 0, .slice none 0 0] 59)
  rw [← hw3] at hA3
  have hB1 : Bx w1 w.heap.size 59 [.int .i64 M.kind, .int .i64 M.endu, .slice aL n cL, .slice aS M.scr.length cS, .slice aD n cD] := by rw [hw1]; exact Bx.new w _ _
  have hB2 : Bx w2 w1.heap.size 44 [.int .i64 lba, .slice aE E.length cE, .slice aC C.length cC] := by rw [hw2]; exact Bx.new w1 _ _
  have hB3 : Bx w3 w2.heap.size 59 [.int .i64 0, .int .i64 0, .slice none 0 0, .slice none 0 0, .slice none 0 0] := by rw [hw3]; exact Bx.new w2 _ _
  obtain ⟨b, hb⟩ : ∃ b, b = w.heap.size := ⟨_, rfl⟩
  have hs1 : w1.heap.size = b + 1 := by rw [hw1, hb]; simp
  have hs2 : w2.heap.size = b + 1 + 1 := by rw [hw2]; simp [hs1]
  have hs3 : w3.heap.size = b + 1 + 1 + 1 := by rw [hw3]; simp [hs2]
  rw [← hb] at hB1
  rw [hs1] at hB2
  rw [hs2] at hB3
  have H1 := Lib.hid ((hB1.call hA2).call hA3)
  have H2 := Lib.hid (hB2.call hA3)
  have H3 := Lib.hid hB3
  have HA := Lib.hid ((hA1.trans (hA2.mono hA1.size)).trans (hA3.mono (hA1.trans (hA2.mono hA1.size)).size))
  have HB := Lib.hid hb
  have HS := Lib.hid hs3
  have HW : Hid ((((w.alloc (.cells #[.int .i64 M.kind, .int .i64 M.endu, .slice aL n cL, .slice aS M.scr.length cS, .slice aD n cD] 59)).alloc (.cells #[.int .i64 lba, .slice aE E.length cE, .slice aC C.length cC] 44)).alloc (.cells #[.int .i64 0, .int .i64 0, .slice none 0 0, .slice none 0 0, .slice none 0 0] 59)) = w3) := Lib.hid (by rw [hw3, hw2, hw1])
  clear hw1 hA1 hB1 hw2 hA2 hB2 hw3 hA3 hB3 hs1 hs2 hb
  have HOK := Lib.hid (Dam.okB_no hno)
  clear hno
  have HVAL : Hid (Calls Try.prog 52 #[.int .i64 (n : Nat), .agg #[.int .i64 lba, .slice aE E.length cE, .slice aC C.length cC]] w3 fun e w' => e = .returned (.bool false) ∧ Below w3.heap.size w3 w') := Lib.hid (by
    have hq := rvalid12 (HD0.out.below HA.out) n hn
    rw [HOK.out] at hq
    exact hq)
  have k0 := H1.out.cell (i := 0) rfl
  have k1 := H1.out.cell (i := 1) rfl
  have k2 := H1.out.cell (i := 2) rfl
  have k3 := H1.out.cell (i := 3) rfl
  have k4 := H1.out.cell (i := 4) rfl
  have d0 := H2.out.cell (i := 0) rfl
  have d1 := H2.out.cell (i := 1) rfl
  have d2 := H2.out.cell (i := 2) rfl
  unfold rmv damv
  go_enter Try.func28, Try.ntmps28
  go_upto_region 1 with (fail)
  rw [HW.out, ← HB.out]
  go_wp2_with fail
  refine HVAL.out.mono ?_
  rintro e w4 ⟨rfl, hb4⟩
  have H14 := Lib.hid (H1.out.call hb4)
  have H24 := Lib.hid (H2.out.call hb4)
  have H34 := Lib.hid (H3.out.call hb4)
  have HA4 := Lib.hid (HA.out.trans (hb4.mono HA.out.size))
  clear hb4 k0 k1 k2 k3 k4 d0 d1 d2
  have k0 := H14.out.cell (i := 0) rfl
  have k1 := H14.out.cell (i := 1) rfl
  have k2 := H14.out.cell (i := 2) rfl
  have k3 := H14.out.cell (i := 3) rfl
  have k4 := H14.out.cell (i := 4) rfl
  have z0 := H34.out.cell (i := 0) rfl
  have z1 := H34.out.cell (i := 1) rfl
  have z2 := H34.out.cell (i := 2) rfl
  have z3 := H34.out.cell (i := 3) rfl
  have z4 := H34.out.cell (i := 4) rfl
  have zf := H34.out.free
  have hZ := (((((H34.out.set 0 (.int .i64 M.kind)).set 1 (.int .i64 M.endu)).set 2 (.slice aL n cL)).set 3 (.slice aS M.scr.length cS)).set 4 (.slice aD n cD))
  have HZ := Lib.hid hZ
  have HZb := Lib.hid (below5 HA4.out (g := b + 1 + 1) (by have := HB.out; omega) 0 1 2 3 4 (.int .i64 M.kind) (.int .i64 M.endu) (.slice aL n cL) (.slice aS M.scr.length cS) (.slice aD n cD))
  have q0 := hZ.cell (i := 0) rfl
  have q1 := hZ.cell (i := 1) rfl
  have q2 := hZ.cell (i := 2) rfl
  have q3 := hZ.cell (i := 3) rfl
  have q4 := hZ.cell (i := 4) rfl
  have HQ0 := Lib.hid q0
  have HQ1 := Lib.hid q1
  have HQ2 := Lib.hid q2
  have HQ3 := Lib.hid q3
  have HQ4 := Lib.hid q4
  clear q0 q1 q2 q3 q4 hZ
  go_wp2_with fail
  refine bodyPost_ret (v := .tuple #[rmv M (.slice aL n cL) (.slice aS M.scr.length cS) (.slice aD n cD), .int .i64 1]) (by simp [rmv, results, Try.results28, go_sem, HQ0.out, HQ1.out, HQ2.out, HQ3.out, HQ4.out]) rfl ?_
  exact ⟨_, _, _, SS, rfl, HF.out.res HZb.out, HZb.out⟩
theorem Try.infoB12b : (Try.prog.info? 4).map (fun i => (i.zero, i.size, i.bytes)) = some (some (.bool false), 1, 1) := by kernel_rfl
theorem Try.sizeB12 : (Try.prog.info? 4).map (·.size) = some 1 := by kernel_rfl
theorem Bx.rdBo12 {W : World} {g t : Nat} {f : Nat → Bool} (h : Bx W g t (bb (mkE f))) : RdBo W (.slice (some ⟨g, 0, none⟩) 2352 2352) (mkE f) := by
  have := Bx.rdBo h
  rwa [mkE_len] at this
theorem Bx.rdB12 {W : World} {g t : Nat} {f : Nat → UInt8} (h : Bx W g t (bs (mkC f))) : Rd W (.slice (some ⟨g, 0, none⟩) 2352 2352) (mkC f) := by
  have := Bx.rdB h (by rw [mkC_len]; omega)
  rwa [mkC_len] at this
theorem agree_bx {P : Nat → Prop} {w w' W : World} {g t : Nat} {cs : List Value} (hag : Agree (fun k => k < w.heap.size → P k) w' W) (h : Bx w' g t cs) (hg : w.heap.size ≤ g) : Bx W g t cs :=
  (hag.eq g h.lt fun h3 => absurd h3 (by omega)).trans h
set_option maxRecDepth 100000 in
set_option maxHeartbeats 4000000 in
theorem rdam_N {w : World} {vL vS vD : Value} {M : Med} {P : Nat → Prop} {SS : List RS} (h : RmF P w vL vS vD M SS) (hn : M.n ≤ 4096) (hs : M.scr.length ≤ 256) {vE vC : Value} {d : Dam} (hd : DamV w vE vC d) {i : Nat} (hli : d.lba = (i : Int)) (hi : i < M.n) (hok : d.Ok M.n) (hEe : d.er = []) (hCe : d.ch = []) :
    Calls Try.prog 28 #[rmv M vL vS vD, damv vE vC d] w (RmP (0, M.put i ⟨(M.sec i).st, (M.sec i).cnt, (M.sec i).raw, (M.sec i).er, (M.sec i).ch⟩) P w) := by
  obtain ⟨lba, E, C⟩ := d
  simp only at hli hEe hCe
  subst hli
  subst hEe
  subst hCe
  have hd0 := hd
  obtain ⟨hE, hC, hlba, hlen, hwf⟩ := hd
  simp only at hE hC hlba hlen hwf
  obtain ⟨hEl, ⟨aE, cE, bE, oE, rfl, hEc, hEr⟩, hEw⟩ := hE
  obtain ⟨aC, cC, rfl, hCc⟩ := RdD.form hC
  obtain ⟨bC, oC, hCr⟩ := RdD.at hC
  simp only [List.length_nil] at hd0
  have HD0 := Lib.hid hd0
  clear hEr hEw hCr hwf hC hd0
  have HF := Lib.hid h
  have hre := h.here
  obtain ⟨⟨aL, cL, rfl⟩, ⟨aS, cS, rfl⟩, aD, cD, rfl⟩ := hre.forms
  have HR := Lib.hid hre
  have hl1 := hre.l
  have hl2 := hre.e
  have hl3 := hre.x
  have hSn := hre.n
  obtain ⟨n, hnn⟩ : ∃ n, n = M.n := ⟨_, rfl⟩
  rw [← hnn] at hl1 hSn hok hi hn HR HF ⊢
  have HNN := Lib.hid hnn
  have HL1 := Lib.hid hl1
  have HL2 := Lib.hid hl2
  have HL3 := Lib.hid hl3
  have HSN := Lib.hid hSn
  have hz := zeroRM
  clear hl1 hl2 hl3 hSn hnn hre h
  obtain ⟨w1, hw1⟩ : ∃ w1, w1 = w.alloc (.cells #[.int .i64 M.kind, .int .i64 M.endu, .slice aL n cL, .slice aS M.scr.length cS, .slice aD n cD] 59) := ⟨_, rfl⟩
  obtain ⟨w2, hw2⟩ : ∃ w2, w2 = w1.alloc (.cells #[.int .i64 i, .slice aE 0 cE, .slice aC 0 cC] 44) := ⟨_, rfl⟩
  obtain ⟨w3, hw3⟩ : ∃ w3, w3 = w2.alloc (.cells #[.int .i64 0, .int .i64 0, .slice none 0 0, .slice none 0 0, .slice none 0 0] 59) := ⟨_, rfl⟩
  have hA1 := (Below.refl w.heap.size w).alloc (Nat.le_refl _) (.cells #[.int .i64 M.kind, .int .i64 M.endu, .slice aL n cL, .slice aS M.scr.length cS, .slice aD n cD] 59)
  rw [← hw1] at hA1
  have hA2 := (Below.refl w1.heap.size w1).alloc (Nat.le_refl _) (.cells #[.int .i64 i, .slice aE 0 cE, .slice aC 0 cC] 44)
  rw [← hw2] at hA2
  have hA3 := (Below.refl w2.heap.size w2).alloc (Nat.le_refl _) (.cells #[.int .i64 0, .int .i64 0, .slice none 0 0, .slice none 0 0, .slice none 0 0] 59)
  rw [← hw3] at hA3
  have hB1 : Bx w1 w.heap.size 59 [.int .i64 M.kind, .int .i64 M.endu, .slice aL n cL, .slice aS M.scr.length cS, .slice aD n cD] := by rw [hw1]; exact Bx.new w _ _
  have hB2 : Bx w2 w1.heap.size 44 [.int .i64 i, .slice aE 0 cE, .slice aC 0 cC] := by rw [hw2]; exact Bx.new w1 _ _
  have hB3 : Bx w3 w2.heap.size 59 [.int .i64 0, .int .i64 0, .slice none 0 0, .slice none 0 0, .slice none 0 0] := by rw [hw3]; exact Bx.new w2 _ _
  obtain ⟨b, hb⟩ : ∃ b, b = w.heap.size := ⟨_, rfl⟩
  have hs1 : w1.heap.size = b + 1 := by rw [hw1, hb]; simp
  have hs2 : w2.heap.size = b + 1 + 1 := by rw [hw2]; simp [hs1]
  have hs3 : w3.heap.size = b + 1 + 1 + 1 := by rw [hw3]; simp [hs2]
  rw [← hb] at hB1
  rw [hs1] at hB2
  rw [hs2] at hB3
  have H1 := Lib.hid ((hB1.call hA2).call hA3)
  have H2 := Lib.hid (hB2.call hA3)
  have H3 := Lib.hid hB3
  have HA := Lib.hid ((hA1.trans (hA2.mono hA1.size)).trans (hA3.mono (hA1.trans (hA2.mono hA1.size)).size))
  have HB := Lib.hid hb
  have HS := Lib.hid hs3
  have HW : Hid ((((w.alloc (.cells #[.int .i64 M.kind, .int .i64 M.endu, .slice aL n cL, .slice aS M.scr.length cS, .slice aD n cD] 59)).alloc (.cells #[.int .i64 i, .slice aE 0 cE, .slice aC 0 cC] 44)).alloc (.cells #[.int .i64 0, .int .i64 0, .slice none 0 0, .slice none 0 0, .slice none 0 0] 59)) = w3) := Lib.hid (by rw [hw3, hw2, hw1])
  clear hw1 hA1 hB1 hw2 hA2 hB2 hw3 hA3 hB3 hs1 hs2 hb
  have HOK := Lib.hid (Dam.okB_yes hok)
  have HVE := Lib.hid hok.2.1.1
  have HVC := Lib.hid hok.2.2
  clear hok
  have HVAL : Hid (Calls Try.prog 52 #[.int .i64 (n : Nat), .agg #[.int .i64 i, .slice aE 0 cE, .slice aC 0 cC]] w3 fun e w' => e = .returned (.bool true) ∧ Below w3.heap.size w3 w') := Lib.hid (by
    have hq := rvalid12 (HD0.out.below HA.out) n hn
    rw [HOK.out] at hq
    exact hq)
  have k0 := H1.out.cell (i := 0) rfl
  have k1 := H1.out.cell (i := 1) rfl
  have k2 := H1.out.cell (i := 2) rfl
  have k3 := H1.out.cell (i := 3) rfl
  have k4 := H1.out.cell (i := 4) rfl
  have d0 := H2.out.cell (i := 0) rfl
  have d1 := H2.out.cell (i := 1) rfl
  have d2 := H2.out.cell (i := 2) rfl
  unfold rmv damv
  go_enter Try.func28, Try.ntmps28
  go_upto_region 1 with (fail)
  rw [HW.out, ← HB.out]
  go_wp2_with fail
  refine HVAL.out.mono ?_
  rintro e w4 ⟨rfl, hb4⟩
  have H14 := Lib.hid (H1.out.call hb4)
  have H24 := Lib.hid (H2.out.call hb4)
  have H34 := Lib.hid (H3.out.call hb4)
  have HA4 := Lib.hid (HA.out.trans (hb4.mono HA.out.size))
  clear hb4 k0 k1 k2 k3 k4 d0 d1 d2
  have k0 := H14.out.cell (i := 0) rfl
  have k1 := H14.out.cell (i := 1) rfl
  have k2 := H14.out.cell (i := 2) rfl
  have k3 := H14.out.cell (i := 3) rfl
  have k4 := H14.out.cell (i := 4) rfl
  have d0 := H24.out.cell (i := 0) rfl
  have d1 := H24.out.cell (i := 1) rfl
  have d2 := H24.out.cell (i := 2) rfl
  have hsl : i < SS.length := by rw [HSN.out]; exact hi
  obtain ⟨bl, off, hcell⟩ := RdD.at (RdD.keep HL1.out HA4.out)
  obtain ⟨ha, hrg⟩ := hcell i hsl
  have hix := fun w' => run_idxS Try.underlying56 Try.sizeRS (cap := cL) ha hi (i : Int) rfl w'
  have HSM := Lib.hid (Med.sec_map HL2.out i)
  have HY := Lib.hid (HL3.out i hsl)
  have HSY := HSM.out
  generalize hye : atD rz SS i = y at *
  have HYE := Lib.hid hye
  clear hye
  have x0 := hrg 0 _ rfl
  have x1 := hrg 1 _ rfl
  have x2 := hrg 2 _ rfl
  have x3 := hrg 3 (.slice y.ae y.ne y.ce) rfl
  have x4 := hrg 4 (.slice y.ac y.nc y.cc) rfl
  simp only [Nat.add_zero] at x0
  have HSYh := Lib.hid HSY
  have hzs : ∀ W, (zeroValue 108).run Try.prog W = .ok (.agg #[.int .i64 0, .int .i64 0, .string ⟨#[]⟩, .slice none 0 0, .slice none 0 0]) W := fun _ => by kernel_rfl
  clear ha hrg hcell HSM HSY
  go_upto_region 4 with (fail)
  obtain ⟨q, hq⟩ : ∃ q, q = w4.heap.size := ⟨_, rfl⟩
  obtain ⟨w5, hw5⟩ : ∃ w5, w5 = w4.alloc (.cells #[.int .i64 y.s.st, .int .i64 y.s.cnt, .string (str y.s.raw), .slice y.ae y.ne y.ce, .slice y.ac y.nc y.cc] 108) := ⟨_, rfl⟩
  have hA5 := (Below.refl w4.heap.size w4).alloc (Nat.le_refl _) (.cells #[.int .i64 y.s.st, .int .i64 y.s.cnt, .string (str y.s.raw), .slice y.ae y.ne y.ce, .slice y.ac y.nc y.cc] 108)
  rw [← hw5] at hA5
  have hB5 : Bx w5 q 108 [.int .i64 y.s.st, .int .i64 y.s.cnt, .string (str y.s.raw), .slice y.ae y.ne y.ce, .slice y.ac y.nc y.cc] := by rw [hw5, hq]; exact Bx.new w4 _ _
  rw [← hq, ← hw5]
  have H15 := Lib.hid (H14.out.call hA5)
  have H25 := Lib.hid (H24.out.call hA5)
  have H35 := Lib.hid (H34.out.call hA5)
  have H45 := Lib.hid hB5
  have HA5 := Lib.hid (HA4.out.trans (hA5.mono HA4.out.size))
  have hqb : b + 1 + 1 < q := by rw [hq]; exact H34.out.lt
  clear hw5 hA5 hB5 hq k0 k1 k2 k3 k4 d0 d1 d2 x0 x1 x2 x3 x4 hix
  have d1 := H25.out.cell (i := 1) rfl
  go_upto_region 12 with (fail)
  clear d1
  have d2 := H25.out.cell (i := 2) rfl
  have k0 := H15.out.cell (i := 0) rfl
  have k1 := H15.out.cell (i := 1) rfl
  have k2 := H15.out.cell (i := 2) rfl
  have k3 := H15.out.cell (i := 3) rfl
  have k4 := H15.out.cell (i := 4) rfl
  have d0 := H25.out.cell (i := 0) rfl
  have y0 := H45.out.cell (i := 0) rfl
  have y1 := H45.out.cell (i := 1) rfl
  have y2 := H45.out.cell (i := 2) rfl
  have y3 := H45.out.cell (i := 3) rfl
  have y4 := H45.out.cell (i := 4) rfl
  have HSET : Hid (Calls Try.prog 49 #[rmv M (.slice aL n cL) (.slice aS M.scr.length cS) (.slice aD n cD), .int .i64 (i : Nat), .agg #[.int .i64 y.s.st, .int .i64 y.s.cnt, .string (str y.s.raw), .slice y.ae y.ne y.ce, .slice y.ac y.nc y.cc]] w5 (SetP M SS i ⟨⟨y.s.st, y.s.cnt, y.s.raw, y.s.er, y.s.ch⟩, y.ae, y.ne, y.ce, y.ac, y.nc, y.cc⟩ (.slice aS M.scr.length cS) (.slice aD n cD) w5)) := Lib.hid (rset12 (HR.out.keep HA5.out) (by rw [← HNN.out]; exact hn) (by rw [← HNN.out]; exact hi) ⟨⟨y.s.st, y.s.cnt, y.s.raw, y.s.er, y.s.ch⟩, y.ae, y.ne, y.ce, y.ac, y.nc, y.cc⟩)
  unfold rmv at HSET
  go_wp2_with fail
  refine HSET.out.mono ?_
  rintro e w6 ⟨a5, c5, rfl, ho5, hb5⟩
  have hlt4 : q < w5.heap.size := H45.out.lt
  have hnn := HNN.out
  unfold rmv
  rw [← hnn]
  rw [← hnn] at ho5
  have HZo := Lib.hid (ownD_far (ownD_far (ownD_far (ownD_far (ownD_far ho5 (p := ⟨b + 1 + 1, 0, none⟩) (by simp only; omega) (.int .i64 (M.put i ⟨y.s.st, y.s.cnt, y.s.raw, y.s.er, y.s.ch⟩).kind)) (p := ⟨b + 1 + 1, 1, none⟩) (by simp only; omega) (.int .i64 (M.put i ⟨y.s.st, y.s.cnt, y.s.raw, y.s.er, y.s.ch⟩).endu)) (p := ⟨b + 1 + 1, 2, none⟩) (by simp only; omega) (.slice a5 n c5)) (p := ⟨b + 1 + 1, 3, none⟩) (by simp only; omega) (.slice aS M.scr.length cS)) (p := ⟨b + 1 + 1, 4, none⟩) (by simp only; omega) (.slice aD n cD))
  have H36 := Lib.hid (H35.out.call hb5)
  have HA6 := Lib.hid (HA5.out.trans (hb5.mono HA5.out.size))
  clear ho5 hb5 hnn k0 k1 k2 k3 k4 y0 y1 y2 y3 y4 d0
  have z0 := H36.out.cell (i := 0) rfl
  have z1 := H36.out.cell (i := 1) rfl
  have z2 := H36.out.cell (i := 2) rfl
  have z3 := H36.out.cell (i := 3) rfl
  have z4 := H36.out.cell (i := 4) rfl
  have zf := H36.out.free
  have hZ := (((((H36.out.set 0 (.int .i64 (M.put i ⟨y.s.st, y.s.cnt, y.s.raw, y.s.er, y.s.ch⟩).kind)).set 1 (.int .i64 (M.put i ⟨y.s.st, y.s.cnt, y.s.raw, y.s.er, y.s.ch⟩).endu)).set 2 (.slice a5 n c5)).set 3 (.slice aS M.scr.length cS)).set 4 (.slice aD n cD))
  have HZ := Lib.hid hZ
  have HZb := Lib.hid (below5 HA6.out (g := b + 1 + 1) (by have := HB.out; omega) 0 1 2 3 4 (.int .i64 (M.put i ⟨y.s.st, y.s.cnt, y.s.raw, y.s.er, y.s.ch⟩).kind) (.int .i64 (M.put i ⟨y.s.st, y.s.cnt, y.s.raw, y.s.er, y.s.ch⟩).endu) (.slice a5 n c5) (.slice aS M.scr.length cS) (.slice aD n cD))
  have q0 := hZ.cell (i := 0) rfl
  have q1 := hZ.cell (i := 1) rfl
  have q2 := hZ.cell (i := 2) rfl
  have q3 := hZ.cell (i := 3) rfl
  have q4 := hZ.cell (i := 4) rfl
  have HQ0 := Lib.hid q0
  have HQ1 := Lib.hid q1
  have HQ2 := Lib.hid q2
  have HQ3 := Lib.hid q3
  have HQ4 := Lib.hid q4
  clear q0 q1 q2 q3 q4 hZ
  go_wp2_with fail
  refine bodyPost_ret (v := .tuple #[rmv (M.put i ⟨y.s.st, y.s.cnt, y.s.raw, y.s.er, y.s.ch⟩) (.slice a5 n c5) (.slice aS M.scr.length cS) (.slice aD n cD), .int .i64 0]) (by simp [rmv, results, Try.results28, go_sem, HQ0.out, HQ1.out, HQ2.out, HQ3.out, HQ4.out]) rfl ?_
  rw [HSYh.out]
  refine ⟨_, _, _, SS.set i ⟨⟨y.s.st, y.s.cnt, y.s.raw, y.s.er, y.s.ch⟩, y.ae, y.ne, y.ce, y.ac, y.nc, y.cc⟩, rfl, RmF.set HF.out (by rw [← HNN.out]; exact hi) HZb.out (base := w5.heap.size) (by have := HB.out; omega) (fun W hW hag => ?_) (by rw [← HNN.out]; exact HZo.out), HZb.out⟩
  have hy3 : RsW W y := by have := hW.x i (by rw [HSN.out]; exact hi); rwa [HYE.out] at this
  exact ⟨(by obtain ⟨l1, e1, e2⟩ := hy3.e; exact ⟨l1, e1, e2⟩), (by obtain ⟨l1, e1, e2⟩ := hy3.c; exact ⟨l1, e1, e2⟩)⟩
set_option maxRecDepth 100000 in
set_option maxHeartbeats 4000000 in
theorem rdam_E {w : World} {vL vS vD : Value} {M : Med} {P : Nat → Prop} {SS : List RS} (h : RmF P w vL vS vD M SS) (hn : M.n ≤ 4096) (hs : M.scr.length ≤ 256) {vE vC : Value} {d : Dam} (hd : DamV w vE vC d) {i : Nat} (hli : d.lba = (i : Int)) (hi : i < M.n) (hok : d.Ok M.n) (hEe : d.er ≠ []) (hCe : d.ch = []) :
    Calls Try.prog 28 #[rmv M vL vS vD, damv vE vC d] w (RmP (0, M.put i ⟨(M.sec i).st, (M.sec i).cnt, (M.sec i).raw, erF (M.sec i).er d.er, (M.sec i).ch⟩) P w) := by
  obtain ⟨lba, E, C⟩ := d
  simp only at hli hEe hCe
  subst hli
  subst hCe
  have hd0 := hd
  obtain ⟨hE, hC, hlba, hlen, hwf⟩ := hd
  simp only at hE hC hlba hlen hwf
  obtain ⟨hEl, ⟨aE, cE, bE, oE, rfl, hEc, hEr⟩, hEw⟩ := hE
  obtain ⟨aC, cC, rfl, hCc⟩ := RdD.form hC
  obtain ⟨bC, oC, hCr⟩ := RdD.at hC
  simp only [List.length_nil] at hd0
  have HER := Lib.hid hEr
  have HEW := Lib.hid hEw
  have HD0 := Lib.hid hd0
  clear hEr hEw hCr hwf hC hd0
  have HF := Lib.hid h
  have hre := h.here
  obtain ⟨⟨aL, cL, rfl⟩, ⟨aS, cS, rfl⟩, aD, cD, rfl⟩ := hre.forms
  have HR := Lib.hid hre
  have hl1 := hre.l
  have hl2 := hre.e
  have hl3 := hre.x
  have hSn := hre.n
  obtain ⟨n, hnn⟩ : ∃ n, n = M.n := ⟨_, rfl⟩
  rw [← hnn] at hl1 hSn hok hi hn HR HF ⊢
  have HNN := Lib.hid hnn
  have HL1 := Lib.hid hl1
  have HL2 := Lib.hid hl2
  have HL3 := Lib.hid hl3
  have HSN := Lib.hid hSn
  have hz := zeroRM
  clear hl1 hl2 hl3 hSn hnn hre h
  obtain ⟨w1, hw1⟩ : ∃ w1, w1 = w.alloc (.cells #[.int .i64 M.kind, .int .i64 M.endu, .slice aL n cL, .slice aS M.scr.length cS, .slice aD n cD] 59) := ⟨_, rfl⟩
  obtain ⟨w2, hw2⟩ : ∃ w2, w2 = w1.alloc (.cells #[.int .i64 i, .slice aE E.length cE, .slice aC 0 cC] 44) := ⟨_, rfl⟩
  obtain ⟨w3, hw3⟩ : ∃ w3, w3 = w2.alloc (.cells #[.int .i64 0, .int .i64 0, .slice none 0 0, .slice none 0 0, .slice none 0 0] 59) := ⟨_, rfl⟩
  have hA1 := (Below.refl w.heap.size w).alloc (Nat.le_refl _) (.cells #[.int .i64 M.kind, .int .i64 M.endu, .slice aL n cL, .slice aS M.scr.length cS, .slice aD n cD] 59)
  rw [← hw1] at hA1
  have hA2 := (Below.refl w1.heap.size w1).alloc (Nat.le_refl _) (.cells #[.int .i64 i, .slice aE E.length cE, .slice aC 0 cC] 44)
  rw [← hw2] at hA2
  have hA3 := (Below.refl w2.heap.size w2).alloc (Nat.le_refl _) (.cells #[.int .i64 0, .int .i64 0, .slice none 0 0, .slice none 0 0, .slice none 0 0] 59)
  rw [← hw3] at hA3
  have hB1 : Bx w1 w.heap.size 59 [.int .i64 M.kind, .int .i64 M.endu, .slice aL n cL, .slice aS M.scr.length cS, .slice aD n cD] := by rw [hw1]; exact Bx.new w _ _
  have hB2 : Bx w2 w1.heap.size 44 [.int .i64 i, .slice aE E.length cE, .slice aC 0 cC] := by rw [hw2]; exact Bx.new w1 _ _
  have hB3 : Bx w3 w2.heap.size 59 [.int .i64 0, .int .i64 0, .slice none 0 0, .slice none 0 0, .slice none 0 0] := by rw [hw3]; exact Bx.new w2 _ _
  obtain ⟨b, hb⟩ : ∃ b, b = w.heap.size := ⟨_, rfl⟩
  have hs1 : w1.heap.size = b + 1 := by rw [hw1, hb]; simp
  have hs2 : w2.heap.size = b + 1 + 1 := by rw [hw2]; simp [hs1]
  have hs3 : w3.heap.size = b + 1 + 1 + 1 := by rw [hw3]; simp [hs2]
  rw [← hb] at hB1
  rw [hs1] at hB2
  rw [hs2] at hB3
  have H1 := Lib.hid ((hB1.call hA2).call hA3)
  have H2 := Lib.hid (hB2.call hA3)
  have H3 := Lib.hid hB3
  have HA := Lib.hid ((hA1.trans (hA2.mono hA1.size)).trans (hA3.mono (hA1.trans (hA2.mono hA1.size)).size))
  have HB := Lib.hid hb
  have HS := Lib.hid hs3
  have HW : Hid ((((w.alloc (.cells #[.int .i64 M.kind, .int .i64 M.endu, .slice aL n cL, .slice aS M.scr.length cS, .slice aD n cD] 59)).alloc (.cells #[.int .i64 i, .slice aE E.length cE, .slice aC 0 cC] 44)).alloc (.cells #[.int .i64 0, .int .i64 0, .slice none 0 0, .slice none 0 0, .slice none 0 0] 59)) = w3) := Lib.hid (by rw [hw3, hw2, hw1])
  clear hw1 hA1 hB1 hw2 hA2 hB2 hw3 hA3 hB3 hs1 hs2 hb
  have HOK := Lib.hid (Dam.okB_yes hok)
  have HVE := Lib.hid hok.2.1.1
  have HVC := Lib.hid hok.2.2
  clear hok
  have hEp0 : 0 < E.length := List.length_pos_iff.2 hEe
  have hEp1 : decide (0 < E.length) = true := decide_eq_true hEp0
  have hEp : decide (0 < (E.length : Int)) = true := decide_eq_true (by have := List.length_pos_iff.2 hEe; omega)
  clear hEe
  have HVAL : Hid (Calls Try.prog 52 #[.int .i64 (n : Nat), .agg #[.int .i64 i, .slice aE E.length cE, .slice aC 0 cC]] w3 fun e w' => e = .returned (.bool true) ∧ Below w3.heap.size w3 w') := Lib.hid (by
    have hq := rvalid12 (HD0.out.below HA.out) n hn
    rw [HOK.out] at hq
    exact hq)
  have k0 := H1.out.cell (i := 0) rfl
  have k1 := H1.out.cell (i := 1) rfl
  have k2 := H1.out.cell (i := 2) rfl
  have k3 := H1.out.cell (i := 3) rfl
  have k4 := H1.out.cell (i := 4) rfl
  have d0 := H2.out.cell (i := 0) rfl
  have d1 := H2.out.cell (i := 1) rfl
  have d2 := H2.out.cell (i := 2) rfl
  unfold rmv damv
  go_enter Try.func28, Try.ntmps28
  go_upto_region 1 with (fail)
  rw [HW.out, ← HB.out]
  go_wp2_with fail
  refine HVAL.out.mono ?_
  rintro e w4 ⟨rfl, hb4⟩
  have H14 := Lib.hid (H1.out.call hb4)
  have H24 := Lib.hid (H2.out.call hb4)
  have H34 := Lib.hid (H3.out.call hb4)
  have HA4 := Lib.hid (HA.out.trans (hb4.mono HA.out.size))
  clear hb4 k0 k1 k2 k3 k4 d0 d1 d2
  have k0 := H14.out.cell (i := 0) rfl
  have k1 := H14.out.cell (i := 1) rfl
  have k2 := H14.out.cell (i := 2) rfl
  have k3 := H14.out.cell (i := 3) rfl
  have k4 := H14.out.cell (i := 4) rfl
  have d0 := H24.out.cell (i := 0) rfl
  have d1 := H24.out.cell (i := 1) rfl
  have d2 := H24.out.cell (i := 2) rfl
  have hsl : i < SS.length := by rw [HSN.out]; exact hi
  obtain ⟨bl, off, hcell⟩ := RdD.at (RdD.keep HL1.out HA4.out)
  obtain ⟨ha, hrg⟩ := hcell i hsl
  have hix := fun w' => run_idxS Try.underlying56 Try.sizeRS (cap := cL) ha hi (i : Int) rfl w'
  have HSM := Lib.hid (Med.sec_map HL2.out i)
  have HY := Lib.hid (HL3.out i hsl)
  have HSY := HSM.out
  generalize hye : atD rz SS i = y at *
  have HYE := Lib.hid hye
  clear hye
  have x0 := hrg 0 _ rfl
  have x1 := hrg 1 _ rfl
  have x2 := hrg 2 _ rfl
  have x3 := hrg 3 (.slice y.ae y.ne y.ce) rfl
  have x4 := hrg 4 (.slice y.ac y.nc y.cc) rfl
  simp only [Nat.add_zero] at x0
  have HSYh := Lib.hid HSY
  have hzs : ∀ W, (zeroValue 108).run Try.prog W = .ok (.agg #[.int .i64 0, .int .i64 0, .string ⟨#[]⟩, .slice none 0 0, .slice none 0 0]) W := fun _ => by kernel_rfl
  clear ha hrg hcell HSM HSY
  go_upto_region 4 with (fail)
  obtain ⟨q, hq⟩ : ∃ q, q = w4.heap.size := ⟨_, rfl⟩
  obtain ⟨w5, hw5⟩ : ∃ w5, w5 = w4.alloc (.cells #[.int .i64 y.s.st, .int .i64 y.s.cnt, .string (str y.s.raw), .slice y.ae y.ne y.ce, .slice y.ac y.nc y.cc] 108) := ⟨_, rfl⟩
  have hA5 := (Below.refl w4.heap.size w4).alloc (Nat.le_refl _) (.cells #[.int .i64 y.s.st, .int .i64 y.s.cnt, .string (str y.s.raw), .slice y.ae y.ne y.ce, .slice y.ac y.nc y.cc] 108)
  rw [← hw5] at hA5
  have hB5 : Bx w5 q 108 [.int .i64 y.s.st, .int .i64 y.s.cnt, .string (str y.s.raw), .slice y.ae y.ne y.ce, .slice y.ac y.nc y.cc] := by rw [hw5, hq]; exact Bx.new w4 _ _
  rw [← hq, ← hw5]
  have H15 := Lib.hid (H14.out.call hA5)
  have H25 := Lib.hid (H24.out.call hA5)
  have H35 := Lib.hid (H34.out.call hA5)
  have H45 := Lib.hid hB5
  have HA5 := Lib.hid (HA4.out.trans (hA5.mono HA4.out.size))
  have hqb : b + 1 + 1 < q := by rw [hq]; exact H34.out.lt
  clear hw5 hA5 hB5 hq k0 k1 k2 k3 k4 d0 d1 d2 x0 x1 x2 x3 x4 hix
  have d1 := H25.out.cell (i := 1) rfl
  clear d1
  have d1 := H25.out.cell (i := 1) rfl
  obtain ⟨gE, hgE⟩ : ∃ gE, gE = w5.heap.size := ⟨_, rfl⟩
  have HGgE := Lib.hid hgE
  have hqgE : q < gE := by rw [hgE]; exact H45.out.lt
  clear hgE
  obtain ⟨le, hle1, hle2⟩ := (HY.out.e)
  have HLE1 := Lib.hid hle1
  have HLE2 := Lib.hid hle2
  clear hle1 hle2
  go_upto_region 6 with (first
    | (refine wpList_mkBool rfl _ _ rfl Try.underlying91 Try.infoB12b 2352 rfl rfl rfl rfl (by omega) ?_
       intro w6 hx6 hb6
       rw [← HGgE.out] at hx6 ⊢
       have HX6 := Lib.hid hx6
       have HB6 := Lib.hid hb6
       clear hx6 hb6)
    | fail)
  have H16 := Lib.hid (H15.out.call HB6.out)
  have H26 := Lib.hid (H25.out.call HB6.out)
  have H36 := Lib.hid (H35.out.call HB6.out)
  have H46 := Lib.hid (H45.out.call HB6.out)
  have HA6 := Lib.hid (HA5.out.trans (HB6.out.mono HA5.out.size))
  have y3 := H46.out.cell (i := 3) rfl
  go_upto_region 7 with (first
    | (refine wpList_cpE rfl _ _ rfl Try.underlying91 Try.sizeB12 y.ae y.ne y.ce gE rfl rfl HX6.out (RdD.keep HLE1.out HA6.out) HLE2.out (by rw [HGgE.out]; exact Nat.le_refl _) HB6.out ?_
       intro w7 hx7 hb7
       have HX7 := Lib.hid hx7
       have HB7 := Lib.hid hb7
       clear hx7 hb7)
    | fail)
  clear y3
  go_wp2_with fail
  go_loopw [8] (fun vk wr => ∃ k : Nat, k ≤ E.length ∧ vk = .int .i64 k ∧ Bx wr gE 4 (bb (mkE (erF y.s.er (E.take k)))) ∧ Below w5.heap.size w5 wr) (fun vk _ => E.length - (RowKit.intOf vk).toNat)
  case atStart => exact ⟨0, by omega, rfl, by rw [List.take_zero, erF_nil]; exact HX7.out, HB7.out⟩
  case round =>
    obtain ⟨k, hk, rfl, hX, hb⟩ := hrel
    have HXr := Lib.hid hX
    have HBr := Lib.hid hb
    have d1 := (H25.out.call hb).cell (i := 1) rfl
    by_cases hlt : k < E.length
    · obtain ⟨ha, hcell0⟩ := HER.out k hlt
      have hcell := ((HA5.out.trans (hb.mono HA5.out.size)).cell (p := ⟨bE, oE + k, none⟩) (World.block_lt_of_cell? w _ hcell0)).trans hcell0
      have hix := fun w' => run_idxS Try.underlying30 Try.sizeInt9 (cap := cE) ha hlt (k : Int) rfl w'
      simp only [Nat.mul_one] at hix
      have hin := HVE.out _ (D13.ixI_mem hlt)
      obtain ⟨a, hax⟩ : ∃ a : Nat, ixI E k = (a : Int) := ⟨(ixI E k).toNat, by omega⟩
      have hal : a < 2352 := by omega
      have HSN2 := Lib.hid (mkE_snoc y.s.er hlt hax hal)
      rw [hax] at hcell
      have hixg := fun w' => run_idxS Try.underlying91 Try.sizeB12 (a := some ⟨gE, 0, none⟩) (n := 2352) (cap := 2352) (k := a) (b := gE) (off := 0) rfl hal (a : Int) rfl w'
      simp only [Nat.mul_one, Nat.zero_add] at hixg
      have hgc : wr.cell? ⟨gE, a, none⟩ = some (.bool (erF y.s.er (E.take k) a)) := hX.cell (bb_get (mkE_get _ hal))
      have hgf := hX.free a
      clear hin hax ha hcell0 hX hb
      go_wp2_with fail
      go_roundw
      case rel => exact ⟨k + 1, by omega, by go_num, by have := HXr.out.set a (.bool true); rw [HSN2.out] at this; exact this, HBr.out.setCell (p := ⟨gE, a, none⟩) (by rw [HGgE.out]; exact Nat.le_refl _) _⟩
      case measure => simp [RowKit.intOf]; omega
    · obtain rfl : k = E.length := by omega
      rw [List.take_length] at hX
      have HE14 := Lib.hid hX
      have H114 := Lib.hid (H15.out.call hb)
      have H214 := Lib.hid (H25.out.call hb)
      have H314 := Lib.hid (H35.out.call hb)
      have H414 := Lib.hid (H45.out.call hb)
      have HA14 := Lib.hid (HA5.out.trans (hb.mono HA5.out.size))
      have y3 := H414.out.cell (i := 3) rfl
      have yf := H414.out.free
      clear hX hb
      go_upto_region 12 with (fail)
      have hY1 := H114.out.far (p := ⟨q, 3, none⟩) (by simp only; omega) (.slice (some ⟨gE, 0, none⟩) 2352 2352)
      have hY2 := H214.out.far (p := ⟨q, 3, none⟩) (by simp only; omega) (.slice (some ⟨gE, 0, none⟩) 2352 2352)
      have hY3 := H314.out.far (p := ⟨q, 3, none⟩) (by simp only; omega) (.slice (some ⟨gE, 0, none⟩) 2352 2352)
      have hY4 := H414.out.set 3 (.slice (some ⟨gE, 0, none⟩) 2352 2352)
      have hYE := HE14.out.far (p := ⟨q, 3, none⟩) (by simp only; omega) (.slice (some ⟨gE, 0, none⟩) 2352 2352)
      have hYA := HA14.out.setCell (p := ⟨q, 3, none⟩) (by have := HB.out; simp only; omega) (.slice (some ⟨gE, 0, none⟩) 2352 2352)
      rw [List.set_cons_succ, List.set_cons_succ, List.set_cons_succ, List.set_cons_zero] at hY4
      clear y3 yf d1
      generalize wr.setCell ⟨q, 3, none⟩ (.slice (some ⟨gE, 0, none⟩) 2352 2352) = w15 at *
      have H115 := Lib.hid hY1
      have H215 := Lib.hid hY2
      have H315 := Lib.hid hY3
      have H415 := Lib.hid hY4
      have HE15 := Lib.hid hYE
      have HA15 := Lib.hid hYA
      clear hY1 hY2 hY3 hY4 hYE hYA
      have d2 := H215.out.cell (i := 2) rfl
      have k0 := H115.out.cell (i := 0) rfl
      have k1 := H115.out.cell (i := 1) rfl
      have k2 := H115.out.cell (i := 2) rfl
      have k3 := H115.out.cell (i := 3) rfl
      have k4 := H115.out.cell (i := 4) rfl
      have d0 := H215.out.cell (i := 0) rfl
      have y0 := H415.out.cell (i := 0) rfl
      have y1 := H415.out.cell (i := 1) rfl
      have y2 := H415.out.cell (i := 2) rfl
      have y3 := H415.out.cell (i := 3) rfl
      have y4 := H415.out.cell (i := 4) rfl
      have HSET : Hid (Calls Try.prog 49 #[rmv M (.slice aL n cL) (.slice aS M.scr.length cS) (.slice aD n cD), .int .i64 (i : Nat), .agg #[.int .i64 y.s.st, .int .i64 y.s.cnt, .string (str y.s.raw), .slice (some ⟨gE, 0, none⟩) 2352 2352, .slice y.ac y.nc y.cc]] w15 (SetP M SS i ⟨⟨y.s.st, y.s.cnt, y.s.raw, erF y.s.er E, y.s.ch⟩, some ⟨gE, 0, none⟩, 2352, 2352, y.ac, y.nc, y.cc⟩ (.slice aS M.scr.length cS) (.slice aD n cD) w15)) := Lib.hid (rset12 (HR.out.keep HA15.out) (by rw [← HNN.out]; exact hn) (by rw [← HNN.out]; exact hi) ⟨⟨y.s.st, y.s.cnt, y.s.raw, erF y.s.er E, y.s.ch⟩, some ⟨gE, 0, none⟩, 2352, 2352, y.ac, y.nc, y.cc⟩)
      unfold rmv at HSET
      go_wp2_with fail
      refine HSET.out.mono ?_
      rintro e w16 ⟨a5, c5, rfl, ho5, hb5⟩
      have hlt4 : q < w15.heap.size := H415.out.lt
      have hnn := HNN.out
      unfold rmv
      rw [← hnn]
      rw [← hnn] at ho5
      have HZo := Lib.hid (ownD_far (ownD_far (ownD_far (ownD_far (ownD_far ho5 (p := ⟨b + 1 + 1, 0, none⟩) (by simp only; omega) (.int .i64 (M.put i ⟨y.s.st, y.s.cnt, y.s.raw, erF y.s.er E, y.s.ch⟩).kind)) (p := ⟨b + 1 + 1, 1, none⟩) (by simp only; omega) (.int .i64 (M.put i ⟨y.s.st, y.s.cnt, y.s.raw, erF y.s.er E, y.s.ch⟩).endu)) (p := ⟨b + 1 + 1, 2, none⟩) (by simp only; omega) (.slice a5 n c5)) (p := ⟨b + 1 + 1, 3, none⟩) (by simp only; omega) (.slice aS M.scr.length cS)) (p := ⟨b + 1 + 1, 4, none⟩) (by simp only; omega) (.slice aD n cD))
      have H316 := Lib.hid (H315.out.call hb5)
      have HA16 := Lib.hid (HA15.out.trans (hb5.mono HA15.out.size))
      have HRE := Lib.hid ((((((HE15.out.call hb5).far (p := ⟨b + 1 + 1, 0, none⟩) (by simp only; omega) (.int .i64 (M.put i ⟨y.s.st, y.s.cnt, y.s.raw, erF y.s.er E, y.s.ch⟩).kind)).far (p := ⟨b + 1 + 1, 1, none⟩) (by simp only; omega) (.int .i64 (M.put i ⟨y.s.st, y.s.cnt, y.s.raw, erF y.s.er E, y.s.ch⟩).endu)).far (p := ⟨b + 1 + 1, 2, none⟩) (by simp only; omega) (.slice a5 n c5)).far (p := ⟨b + 1 + 1, 3, none⟩) (by simp only; omega) (.slice aS M.scr.length cS)).far (p := ⟨b + 1 + 1, 4, none⟩) (by simp only; omega) (.slice aD n cD))
      clear ho5 hb5 hnn k0 k1 k2 k3 k4 y0 y1 y2 y3 y4 d0
      have z0 := H316.out.cell (i := 0) rfl
      have z1 := H316.out.cell (i := 1) rfl
      have z2 := H316.out.cell (i := 2) rfl
      have z3 := H316.out.cell (i := 3) rfl
      have z4 := H316.out.cell (i := 4) rfl
      have zf := H316.out.free
      have hZ := (((((H316.out.set 0 (.int .i64 (M.put i ⟨y.s.st, y.s.cnt, y.s.raw, erF y.s.er E, y.s.ch⟩).kind)).set 1 (.int .i64 (M.put i ⟨y.s.st, y.s.cnt, y.s.raw, erF y.s.er E, y.s.ch⟩).endu)).set 2 (.slice a5 n c5)).set 3 (.slice aS M.scr.length cS)).set 4 (.slice aD n cD))
      have HZ := Lib.hid hZ
      have HZb := Lib.hid (below5 HA16.out (g := b + 1 + 1) (by have := HB.out; omega) 0 1 2 3 4 (.int .i64 (M.put i ⟨y.s.st, y.s.cnt, y.s.raw, erF y.s.er E, y.s.ch⟩).kind) (.int .i64 (M.put i ⟨y.s.st, y.s.cnt, y.s.raw, erF y.s.er E, y.s.ch⟩).endu) (.slice a5 n c5) (.slice aS M.scr.length cS) (.slice aD n cD))
      have q0 := hZ.cell (i := 0) rfl
      have q1 := hZ.cell (i := 1) rfl
      have q2 := hZ.cell (i := 2) rfl
      have q3 := hZ.cell (i := 3) rfl
      have q4 := hZ.cell (i := 4) rfl
      have HQ0 := Lib.hid q0
      have HQ1 := Lib.hid q1
      have HQ2 := Lib.hid q2
      have HQ3 := Lib.hid q3
      have HQ4 := Lib.hid q4
      clear q0 q1 q2 q3 q4 hZ
      go_wp2_with fail
      refine bodyPost_ret (v := .tuple #[rmv (M.put i ⟨y.s.st, y.s.cnt, y.s.raw, erF y.s.er E, y.s.ch⟩) (.slice a5 n c5) (.slice aS M.scr.length cS) (.slice aD n cD), .int .i64 0]) (by simp [rmv, results, Try.results28, go_sem, HQ0.out, HQ1.out, HQ2.out, HQ3.out, HQ4.out]) rfl ?_
      rw [HSYh.out]
      refine ⟨_, _, _, SS.set i ⟨⟨y.s.st, y.s.cnt, y.s.raw, erF y.s.er E, y.s.ch⟩, some ⟨gE, 0, none⟩, 2352, 2352, y.ac, y.nc, y.cc⟩, rfl, RmF.set HF.out (by rw [← HNN.out]; exact hi) HZb.out (base := w15.heap.size) (by have := HB.out; omega) (fun W hW hag => ?_) (by rw [← HNN.out]; exact HZo.out), HZb.out⟩
      have hy3 : RsW W y := by have := hW.x i (by rw [HSN.out]; exact hi); rwa [HYE.out] at this
      exact ⟨⟨mkE (erF y.s.er E), Bx.rdBo12 (agree_bx hag HRE.out (by have := HB.out; omega)), .inr rfl⟩, (by obtain ⟨l1, e1, e2⟩ := hy3.c; exact ⟨l1, e1, e2⟩)⟩
set_option maxRecDepth 100000 in
set_option maxHeartbeats 4000000 in
theorem rdam_C {w : World} {vL vS vD : Value} {M : Med} {P : Nat → Prop} {SS : List RS} (h : RmF P w vL vS vD M SS) (hn : M.n ≤ 4096) (hs : M.scr.length ≤ 256) {vE vC : Value} {d : Dam} (hd : DamV w vE vC d) {i : Nat} (hli : d.lba = (i : Int)) (hi : i < M.n) (hok : d.Ok M.n) (hEe : d.er = []) (hCe : d.ch ≠ []) :
    Calls Try.prog 28 #[rmv M vL vS vD, damv vE vC d] w (RmP (0, M.put i ⟨(M.sec i).st, (M.sec i).cnt, (M.sec i).raw, (M.sec i).er, chF (M.sec i).ch d.ch⟩) P w) := by
  obtain ⟨lba, E, C⟩ := d
  simp only at hli hEe hCe
  subst hli
  subst hEe
  have hd0 := hd
  obtain ⟨hE, hC, hlba, hlen, hwf⟩ := hd
  simp only at hE hC hlba hlen hwf
  obtain ⟨hEl, ⟨aE, cE, bE, oE, rfl, hEc, hEr⟩, hEw⟩ := hE
  obtain ⟨aC, cC, rfl, hCc⟩ := RdD.form hC
  obtain ⟨bC, oC, hCr⟩ := RdD.at hC
  simp only [List.length_nil] at hd0
  have HCR := Lib.hid hCr
  have HCW := Lib.hid hwf
  have HD0 := Lib.hid hd0
  clear hEr hEw hCr hwf hC hd0
  have HF := Lib.hid h
  have hre := h.here
  obtain ⟨⟨aL, cL, rfl⟩, ⟨aS, cS, rfl⟩, aD, cD, rfl⟩ := hre.forms
  have HR := Lib.hid hre
  have hl1 := hre.l
  have hl2 := hre.e
  have hl3 := hre.x
  have hSn := hre.n
  obtain ⟨n, hnn⟩ : ∃ n, n = M.n := ⟨_, rfl⟩
  rw [← hnn] at hl1 hSn hok hi hn HR HF ⊢
  have HNN := Lib.hid hnn
  have HL1 := Lib.hid hl1
  have HL2 := Lib.hid hl2
  have HL3 := Lib.hid hl3
  have HSN := Lib.hid hSn
  have hz := zeroRM
  clear hl1 hl2 hl3 hSn hnn hre h
  obtain ⟨w1, hw1⟩ : ∃ w1, w1 = w.alloc (.cells #[.int .i64 M.kind, .int .i64 M.endu, .slice aL n cL, .slice aS M.scr.length cS, .slice aD n cD] 59) := ⟨_, rfl⟩
  obtain ⟨w2, hw2⟩ : ∃ w2, w2 = w1.alloc (.cells #[.int .i64 i, .slice aE 0 cE, .slice aC C.length cC] 44) := ⟨_, rfl⟩
  obtain ⟨w3, hw3⟩ : ∃ w3, w3 = w2.alloc (.cells #[.int .i64 0, .int .i64 0, .slice none 0 0, .slice none 0 0, .slice none 0 0] 59) := ⟨_, rfl⟩
  have hA1 := (Below.refl w.heap.size w).alloc (Nat.le_refl _) (.cells #[.int .i64 M.kind, .int .i64 M.endu, .slice aL n cL, .slice aS M.scr.length cS, .slice aD n cD] 59)
  rw [← hw1] at hA1
  have hA2 := (Below.refl w1.heap.size w1).alloc (Nat.le_refl _) (.cells #[.int .i64 i, .slice aE 0 cE, .slice aC C.length cC] 44)
  rw [← hw2] at hA2
  have hA3 := (Below.refl w2.heap.size w2).alloc (Nat.le_refl _) (.cells #[.int .i64 0, .int .i64 0, .slice none 0 0, .slice none 0 0, .slice none 0 0] 59)
  rw [← hw3] at hA3
  have hB1 : Bx w1 w.heap.size 59 [.int .i64 M.kind, .int .i64 M.endu, .slice aL n cL, .slice aS M.scr.length cS, .slice aD n cD] := by rw [hw1]; exact Bx.new w _ _
  have hB2 : Bx w2 w1.heap.size 44 [.int .i64 i, .slice aE 0 cE, .slice aC C.length cC] := by rw [hw2]; exact Bx.new w1 _ _
  have hB3 : Bx w3 w2.heap.size 59 [.int .i64 0, .int .i64 0, .slice none 0 0, .slice none 0 0, .slice none 0 0] := by rw [hw3]; exact Bx.new w2 _ _
  obtain ⟨b, hb⟩ : ∃ b, b = w.heap.size := ⟨_, rfl⟩
  have hs1 : w1.heap.size = b + 1 := by rw [hw1, hb]; simp
  have hs2 : w2.heap.size = b + 1 + 1 := by rw [hw2]; simp [hs1]
  have hs3 : w3.heap.size = b + 1 + 1 + 1 := by rw [hw3]; simp [hs2]
  rw [← hb] at hB1
  rw [hs1] at hB2
  rw [hs2] at hB3
  have H1 := Lib.hid ((hB1.call hA2).call hA3)
  have H2 := Lib.hid (hB2.call hA3)
  have H3 := Lib.hid hB3
  have HA := Lib.hid ((hA1.trans (hA2.mono hA1.size)).trans (hA3.mono (hA1.trans (hA2.mono hA1.size)).size))
  have HB := Lib.hid hb
  have HS := Lib.hid hs3
  have HW : Hid ((((w.alloc (.cells #[.int .i64 M.kind, .int .i64 M.endu, .slice aL n cL, .slice aS M.scr.length cS, .slice aD n cD] 59)).alloc (.cells #[.int .i64 i, .slice aE 0 cE, .slice aC C.length cC] 44)).alloc (.cells #[.int .i64 0, .int .i64 0, .slice none 0 0, .slice none 0 0, .slice none 0 0] 59)) = w3) := Lib.hid (by rw [hw3, hw2, hw1])
  clear hw1 hA1 hB1 hw2 hA2 hB2 hw3 hA3 hB3 hs1 hs2 hb
  have HOK := Lib.hid (Dam.okB_yes hok)
  have HVE := Lib.hid hok.2.1.1
  have HVC := Lib.hid hok.2.2
  clear hok
  have hCp0 : 0 < C.length := List.length_pos_iff.2 hCe
  have hCp1 : decide (0 < C.length) = true := decide_eq_true hCp0
  have hCp : decide (0 < (C.length : Int)) = true := decide_eq_true (by have := List.length_pos_iff.2 hCe; omega)
  clear hCe
  have HVAL : Hid (Calls Try.prog 52 #[.int .i64 (n : Nat), .agg #[.int .i64 i, .slice aE 0 cE, .slice aC C.length cC]] w3 fun e w' => e = .returned (.bool true) ∧ Below w3.heap.size w3 w') := Lib.hid (by
    have hq := rvalid12 (HD0.out.below HA.out) n hn
    rw [HOK.out] at hq
    exact hq)
  have k0 := H1.out.cell (i := 0) rfl
  have k1 := H1.out.cell (i := 1) rfl
  have k2 := H1.out.cell (i := 2) rfl
  have k3 := H1.out.cell (i := 3) rfl
  have k4 := H1.out.cell (i := 4) rfl
  have d0 := H2.out.cell (i := 0) rfl
  have d1 := H2.out.cell (i := 1) rfl
  have d2 := H2.out.cell (i := 2) rfl
  unfold rmv damv
  go_enter Try.func28, Try.ntmps28
  go_upto_region 1 with (fail)
  rw [HW.out, ← HB.out]
  go_wp2_with fail
  refine HVAL.out.mono ?_
  rintro e w4 ⟨rfl, hb4⟩
  have H14 := Lib.hid (H1.out.call hb4)
  have H24 := Lib.hid (H2.out.call hb4)
  have H34 := Lib.hid (H3.out.call hb4)
  have HA4 := Lib.hid (HA.out.trans (hb4.mono HA.out.size))
  clear hb4 k0 k1 k2 k3 k4 d0 d1 d2
  have k0 := H14.out.cell (i := 0) rfl
  have k1 := H14.out.cell (i := 1) rfl
  have k2 := H14.out.cell (i := 2) rfl
  have k3 := H14.out.cell (i := 3) rfl
  have k4 := H14.out.cell (i := 4) rfl
  have d0 := H24.out.cell (i := 0) rfl
  have d1 := H24.out.cell (i := 1) rfl
  have d2 := H24.out.cell (i := 2) rfl
  have hsl : i < SS.length := by rw [HSN.out]; exact hi
  obtain ⟨bl, off, hcell⟩ := RdD.at (RdD.keep HL1.out HA4.out)
  obtain ⟨ha, hrg⟩ := hcell i hsl
  have hix := fun w' => run_idxS Try.underlying56 Try.sizeRS (cap := cL) ha hi (i : Int) rfl w'
  have HSM := Lib.hid (Med.sec_map HL2.out i)
  have HY := Lib.hid (HL3.out i hsl)
  have HSY := HSM.out
  generalize hye : atD rz SS i = y at *
  have HYE := Lib.hid hye
  clear hye
  have x0 := hrg 0 _ rfl
  have x1 := hrg 1 _ rfl
  have x2 := hrg 2 _ rfl
  have x3 := hrg 3 (.slice y.ae y.ne y.ce) rfl
  have x4 := hrg 4 (.slice y.ac y.nc y.cc) rfl
  simp only [Nat.add_zero] at x0
  have HSYh := Lib.hid HSY
  have hzs : ∀ W, (zeroValue 108).run Try.prog W = .ok (.agg #[.int .i64 0, .int .i64 0, .string ⟨#[]⟩, .slice none 0 0, .slice none 0 0]) W := fun _ => by kernel_rfl
  clear ha hrg hcell HSM HSY
  go_upto_region 4 with (fail)
  obtain ⟨q, hq⟩ : ∃ q, q = w4.heap.size := ⟨_, rfl⟩
  obtain ⟨w5, hw5⟩ : ∃ w5, w5 = w4.alloc (.cells #[.int .i64 y.s.st, .int .i64 y.s.cnt, .string (str y.s.raw), .slice y.ae y.ne y.ce, .slice y.ac y.nc y.cc] 108) := ⟨_, rfl⟩
  have hA5 := (Below.refl w4.heap.size w4).alloc (Nat.le_refl _) (.cells #[.int .i64 y.s.st, .int .i64 y.s.cnt, .string (str y.s.raw), .slice y.ae y.ne y.ce, .slice y.ac y.nc y.cc] 108)
  rw [← hw5] at hA5
  have hB5 : Bx w5 q 108 [.int .i64 y.s.st, .int .i64 y.s.cnt, .string (str y.s.raw), .slice y.ae y.ne y.ce, .slice y.ac y.nc y.cc] := by rw [hw5, hq]; exact Bx.new w4 _ _
  rw [← hq, ← hw5]
  have H15 := Lib.hid (H14.out.call hA5)
  have H25 := Lib.hid (H24.out.call hA5)
  have H35 := Lib.hid (H34.out.call hA5)
  have H45 := Lib.hid hB5
  have HA5 := Lib.hid (HA4.out.trans (hA5.mono HA4.out.size))
  have hqb : b + 1 + 1 < q := by rw [hq]; exact H34.out.lt
  clear hw5 hA5 hB5 hq k0 k1 k2 k3 k4 d0 d1 d2 x0 x1 x2 x3 x4 hix
  have d1 := H25.out.cell (i := 1) rfl
  go_upto_region 12 with (fail)
  clear d1
  have d2 := H25.out.cell (i := 2) rfl
  obtain ⟨gC, hgC⟩ : ∃ gC, gC = w5.heap.size := ⟨_, rfl⟩
  have HGgC := Lib.hid hgC
  have hqgC : q < gC := by rw [hgC]; exact H45.out.lt
  clear hgC
  obtain ⟨lc, hlc1, hlc2⟩ := (HY.out.c)
  have HLC1 := Lib.hid hlc1
  have HLC2 := Lib.hid hlc2
  clear hlc1 hlc2
  go_upto_region 14 with (first
    | (refine wpList_mkB rfl _ _ rfl (base := w5.heap.size) Try.underlying52 Try.infoB12 2352 rfl rfl rfl rfl (by omega) (Nat.le_refl _) ?_
       intro w6 hx6 hb6
       rw [← HGgC.out] at hx6 ⊢
       have HX6 := Lib.hid (Bx.ofOwn hx6)
       have HB6 := Lib.hid ((Below.refl w5.heap.size w5).grown hb6 (Nat.le_refl _) (fun k hk => by cases hk))
       clear hx6 hb6)
    | fail)
  have H16 := Lib.hid (H15.out.call HB6.out)
  have H26 := Lib.hid (H25.out.call HB6.out)
  have H36 := Lib.hid (H35.out.call HB6.out)
  have H46 := Lib.hid (H45.out.call HB6.out)
  have HA6 := Lib.hid (HA5.out.trans (HB6.out.mono HA5.out.size))
  have y4 := H46.out.cell (i := 4) rfl
  go_upto_region 15 with (first
    | (refine wpList_cpC rfl _ _ rfl Try.underlying52 Try.sizeU8 y.ac y.nc y.cc gC rfl rfl HX6.out (HLC1.out.keep HA6.out) HLC2.out (by rw [HGgC.out]; exact Nat.le_refl _) HB6.out ?_
       intro w7 hx7 hb7
       have HX7 := Lib.hid hx7
       have HB7 := Lib.hid hb7
       clear hx7 hb7)
    | fail)
  clear y4
  go_wp2_with fail
  go_loopw [10] (fun vk wr => ∃ k : Nat, k ≤ C.length ∧ vk = .int .i64 k ∧ Bx wr gC 5 (bs (mkC (chF y.s.ch (C.take k)))) ∧ Below w5.heap.size w5 wr) (fun vk _ => C.length - (RowKit.intOf vk).toNat)
  case atStart => exact ⟨0, by omega, rfl, by rw [List.take_zero]; exact HX7.out, HB7.out⟩
  case round =>
    obtain ⟨k, hk, rfl, hX, hb⟩ := hrel
    have HXr := Lib.hid hX
    have HBr := Lib.hid hb
    have d2 := (H25.out.call hb).cell (i := 2) rfl
    by_cases hlt : k < C.length
    · obtain ⟨ha, hrange⟩ := HCR.out k hlt
      have hw9 := HCW.out k hlt
      have hin := HVC.out _ (show chA C k ∈ C from atD_mem hlt)
      change w.rangeAt bC (oC + k * 2) (chc (chA C k)) at hrange
      obtain ⟨a, hax⟩ : ∃ a : Nat, (chA C k).1 = (a : Int) := ⟨(chA C k).1.toNat, by unfold chOk1 at hin; omega⟩
      have hal : a < 2352 := by unfold chOk1 at hin; omega
      have HSN2 := Lib.hid (mkC_snoc y.s.ch hlt hax hal)
      have hcx := hin.2
      generalize chA C k = x at *
      obtain ⟨co, cx⟩ := x
      simp only at hax hcx hw9 HSN2
      subst hax
      have hrg : wr.rangeAt bC (oC + k * 2) (chc ⟨(a : Int), cx⟩) := fun j u hu => ((HA5.out.trans (hb.mono HA5.out.size)).cell (p := ⟨bC, oC + k * 2 + j, none⟩) (World.block_lt_of_cell? w _ (hrange j u hu))).trans (hrange j u hu)
      obtain ⟨hc0, hc1⟩ := rdc hrg
      simp only at hc0 hc1
      have hix := fun w' => run_idxS Try.underlying42 Try.sizeCh12 (cap := cC) ha hlt (k : Int) rfl w'
      have hixg := fun w' => run_idxS Try.underlying52 Try.sizeU8 (a := some ⟨gC, 0, none⟩) (n := 2352) (cap := 2352) (k := a) (b := gC) (off := 0) rfl hal (a : Int) rfl w'
      simp only [Nat.mul_one, Nat.zero_add] at hixg
      have hgc : wr.cell? ⟨gC, a, none⟩ = some (B (chF y.s.ch (C.take k) a)) := by have := hX.cell (i := a) (bs_get (by rw [mkC_len]; exact hal)); rwa [mkC_ix _ hal] at this
      have hgf := hX.free a
      obtain ⟨o9, ho9⟩ : ∃ o9, o9 = chF y.s.ch (C.take k) a := ⟨_, rfl⟩
      rw [← ho9] at hgc HSN2
      have hcb : IntKind.u8.wrap cx = cx := IntWalk.u8_in _ (by omega)
      have HXV : Hid (Value.int .u8 (bits .xor .u8 (o9.toNat : Int) cx) = B (o9 ^^^ b8 cx)) := Lib.hid (by
        have hV : ((b8 cx).toNat : Int) = cx := by unfold b8; rw [UInt8.toNat_ofNat']; omega
        have := xorB o9 (b8 cx)
        rw [hV] at this
        exact congrArg (Value.int .u8) this)
      clear hin ha hrange hrg hX hb ho9
      go_wp2_with fail
      go_still_tail 25, (by kernel_rfl)
      repeat still_step
      change wpList _ _ _ _ _ wr.drew
      have hO2 := HXr.out.set a (B (o9 ^^^ b8 cx))
      rw [HSN2.out] at hO2
      have HO2 := Lib.hid hO2
      have HB3 := Lib.hid (HBr.out.setCell (p := ⟨gC, a, none⟩) (by rw [HGgC.out]; exact Nat.le_refl _) (B (o9 ^^^ b8 cx)))
      clear hO2
      go_wp2_with fail
      go_roundw
      case rel => exact ⟨k + 1, by omega, by go_num, by rw [HXV.out]; exact HO2.out.call ((Below.refl _ _).drew), by rw [HXV.out]; exact HB3.out.drew⟩
      case measure => simp [RowKit.intOf]; omega
    · obtain rfl : k = C.length := by omega
      rw [List.take_length] at hX
      have HC14 := Lib.hid hX
      have H114 := Lib.hid (H15.out.call hb)
      have H214 := Lib.hid (H25.out.call hb)
      have H314 := Lib.hid (H35.out.call hb)
      have H414 := Lib.hid (H45.out.call hb)
      have HA14 := Lib.hid (HA5.out.trans (hb.mono HA5.out.size))
      have y4 := H414.out.cell (i := 4) rfl
      have yf := H414.out.free
      clear hX hb
      go_upto_region 20 with (fail)
      have hY1 := H114.out.far (p := ⟨q, 4, none⟩) (by simp only; omega) (.slice (some ⟨gC, 0, none⟩) 2352 2352)
      have hY2 := H214.out.far (p := ⟨q, 4, none⟩) (by simp only; omega) (.slice (some ⟨gC, 0, none⟩) 2352 2352)
      have hY3 := H314.out.far (p := ⟨q, 4, none⟩) (by simp only; omega) (.slice (some ⟨gC, 0, none⟩) 2352 2352)
      have hY4 := H414.out.set 4 (.slice (some ⟨gC, 0, none⟩) 2352 2352)
      have hYC := HC14.out.far (p := ⟨q, 4, none⟩) (by simp only; omega) (.slice (some ⟨gC, 0, none⟩) 2352 2352)
      have hYA := HA14.out.setCell (p := ⟨q, 4, none⟩) (by have := HB.out; simp only; omega) (.slice (some ⟨gC, 0, none⟩) 2352 2352)
      rw [List.set_cons_succ, List.set_cons_succ, List.set_cons_succ, List.set_cons_succ, List.set_cons_zero] at hY4
      clear y4 yf d2
      generalize wr.setCell ⟨q, 4, none⟩ (.slice (some ⟨gC, 0, none⟩) 2352 2352) = w15 at *
      have H115 := Lib.hid hY1
      have H215 := Lib.hid hY2
      have H315 := Lib.hid hY3
      have H415 := Lib.hid hY4
      have HC15 := Lib.hid hYC
      have HA15 := Lib.hid hYA
      clear hY1 hY2 hY3 hY4 hYC hYA
      have k0 := H115.out.cell (i := 0) rfl
      have k1 := H115.out.cell (i := 1) rfl
      have k2 := H115.out.cell (i := 2) rfl
      have k3 := H115.out.cell (i := 3) rfl
      have k4 := H115.out.cell (i := 4) rfl
      have d0 := H215.out.cell (i := 0) rfl
      have y0 := H415.out.cell (i := 0) rfl
      have y1 := H415.out.cell (i := 1) rfl
      have y2 := H415.out.cell (i := 2) rfl
      have y3 := H415.out.cell (i := 3) rfl
      have y4 := H415.out.cell (i := 4) rfl
      have HSET : Hid (Calls Try.prog 49 #[rmv M (.slice aL n cL) (.slice aS M.scr.length cS) (.slice aD n cD), .int .i64 (i : Nat), .agg #[.int .i64 y.s.st, .int .i64 y.s.cnt, .string (str y.s.raw), .slice y.ae y.ne y.ce, .slice (some ⟨gC, 0, none⟩) 2352 2352]] w15 (SetP M SS i ⟨⟨y.s.st, y.s.cnt, y.s.raw, y.s.er, chF y.s.ch C⟩, y.ae, y.ne, y.ce, some ⟨gC, 0, none⟩, 2352, 2352⟩ (.slice aS M.scr.length cS) (.slice aD n cD) w15)) := Lib.hid (rset12 (HR.out.keep HA15.out) (by rw [← HNN.out]; exact hn) (by rw [← HNN.out]; exact hi) ⟨⟨y.s.st, y.s.cnt, y.s.raw, y.s.er, chF y.s.ch C⟩, y.ae, y.ne, y.ce, some ⟨gC, 0, none⟩, 2352, 2352⟩)
      unfold rmv at HSET
      go_wp2_with fail
      refine HSET.out.mono ?_
      rintro e w16 ⟨a5, c5, rfl, ho5, hb5⟩
      have hlt4 : q < w15.heap.size := H415.out.lt
      have hnn := HNN.out
      unfold rmv
      rw [← hnn]
      rw [← hnn] at ho5
      have HZo := Lib.hid (ownD_far (ownD_far (ownD_far (ownD_far (ownD_far ho5 (p := ⟨b + 1 + 1, 0, none⟩) (by simp only; omega) (.int .i64 (M.put i ⟨y.s.st, y.s.cnt, y.s.raw, y.s.er, chF y.s.ch C⟩).kind)) (p := ⟨b + 1 + 1, 1, none⟩) (by simp only; omega) (.int .i64 (M.put i ⟨y.s.st, y.s.cnt, y.s.raw, y.s.er, chF y.s.ch C⟩).endu)) (p := ⟨b + 1 + 1, 2, none⟩) (by simp only; omega) (.slice a5 n c5)) (p := ⟨b + 1 + 1, 3, none⟩) (by simp only; omega) (.slice aS M.scr.length cS)) (p := ⟨b + 1 + 1, 4, none⟩) (by simp only; omega) (.slice aD n cD))
      have H316 := Lib.hid (H315.out.call hb5)
      have HA16 := Lib.hid (HA15.out.trans (hb5.mono HA15.out.size))
      have HRC := Lib.hid ((((((HC15.out.call hb5).far (p := ⟨b + 1 + 1, 0, none⟩) (by simp only; omega) (.int .i64 (M.put i ⟨y.s.st, y.s.cnt, y.s.raw, y.s.er, chF y.s.ch C⟩).kind)).far (p := ⟨b + 1 + 1, 1, none⟩) (by simp only; omega) (.int .i64 (M.put i ⟨y.s.st, y.s.cnt, y.s.raw, y.s.er, chF y.s.ch C⟩).endu)).far (p := ⟨b + 1 + 1, 2, none⟩) (by simp only; omega) (.slice a5 n c5)).far (p := ⟨b + 1 + 1, 3, none⟩) (by simp only; omega) (.slice aS M.scr.length cS)).far (p := ⟨b + 1 + 1, 4, none⟩) (by simp only; omega) (.slice aD n cD))
      clear ho5 hb5 hnn k0 k1 k2 k3 k4 y0 y1 y2 y3 y4 d0
      have z0 := H316.out.cell (i := 0) rfl
      have z1 := H316.out.cell (i := 1) rfl
      have z2 := H316.out.cell (i := 2) rfl
      have z3 := H316.out.cell (i := 3) rfl
      have z4 := H316.out.cell (i := 4) rfl
      have zf := H316.out.free
      have hZ := (((((H316.out.set 0 (.int .i64 (M.put i ⟨y.s.st, y.s.cnt, y.s.raw, y.s.er, chF y.s.ch C⟩).kind)).set 1 (.int .i64 (M.put i ⟨y.s.st, y.s.cnt, y.s.raw, y.s.er, chF y.s.ch C⟩).endu)).set 2 (.slice a5 n c5)).set 3 (.slice aS M.scr.length cS)).set 4 (.slice aD n cD))
      have HZ := Lib.hid hZ
      have HZb := Lib.hid (below5 HA16.out (g := b + 1 + 1) (by have := HB.out; omega) 0 1 2 3 4 (.int .i64 (M.put i ⟨y.s.st, y.s.cnt, y.s.raw, y.s.er, chF y.s.ch C⟩).kind) (.int .i64 (M.put i ⟨y.s.st, y.s.cnt, y.s.raw, y.s.er, chF y.s.ch C⟩).endu) (.slice a5 n c5) (.slice aS M.scr.length cS) (.slice aD n cD))
      have q0 := hZ.cell (i := 0) rfl
      have q1 := hZ.cell (i := 1) rfl
      have q2 := hZ.cell (i := 2) rfl
      have q3 := hZ.cell (i := 3) rfl
      have q4 := hZ.cell (i := 4) rfl
      have HQ0 := Lib.hid q0
      have HQ1 := Lib.hid q1
      have HQ2 := Lib.hid q2
      have HQ3 := Lib.hid q3
      have HQ4 := Lib.hid q4
      clear q0 q1 q2 q3 q4 hZ
      go_wp2_with fail
      refine bodyPost_ret (v := .tuple #[rmv (M.put i ⟨y.s.st, y.s.cnt, y.s.raw, y.s.er, chF y.s.ch C⟩) (.slice a5 n c5) (.slice aS M.scr.length cS) (.slice aD n cD), .int .i64 0]) (by simp [rmv, results, Try.results28, go_sem, HQ0.out, HQ1.out, HQ2.out, HQ3.out, HQ4.out]) rfl ?_
      rw [HSYh.out]
      refine ⟨_, _, _, SS.set i ⟨⟨y.s.st, y.s.cnt, y.s.raw, y.s.er, chF y.s.ch C⟩, y.ae, y.ne, y.ce, some ⟨gC, 0, none⟩, 2352, 2352⟩, rfl, RmF.set HF.out (by rw [← HNN.out]; exact hi) HZb.out (base := w15.heap.size) (by have := HB.out; omega) (fun W hW hag => ?_) (by rw [← HNN.out]; exact HZo.out), HZb.out⟩
      have hy3 : RsW W y := by have := hW.x i (by rw [HSN.out]; exact hi); rwa [HYE.out] at this
      exact ⟨(by obtain ⟨l1, e1, e2⟩ := hy3.e; exact ⟨l1, e1, e2⟩), ⟨mkC (chF y.s.ch C), Bx.rdB12 (agree_bx hag HRC.out (by have := HB.out; omega)), .inr rfl⟩⟩
set_option maxRecDepth 100000 in
set_option maxHeartbeats 4000000 in
theorem rdam_EC {w : World} {vL vS vD : Value} {M : Med} {P : Nat → Prop} {SS : List RS} (h : RmF P w vL vS vD M SS) (hn : M.n ≤ 4096) (hs : M.scr.length ≤ 256) {vE vC : Value} {d : Dam} (hd : DamV w vE vC d) {i : Nat} (hli : d.lba = (i : Int)) (hi : i < M.n) (hok : d.Ok M.n) (hEe : d.er ≠ []) (hCe : d.ch ≠ []) :
    Calls Try.prog 28 #[rmv M vL vS vD, damv vE vC d] w (RmP (0, M.put i ⟨(M.sec i).st, (M.sec i).cnt, (M.sec i).raw, erF (M.sec i).er d.er, chF (M.sec i).ch d.ch⟩) P w) := by
  obtain ⟨lba, E, C⟩ := d
  simp only at hli hEe hCe
  subst hli
  have hd0 := hd
  obtain ⟨hE, hC, hlba, hlen, hwf⟩ := hd
  simp only at hE hC hlba hlen hwf
  obtain ⟨hEl, ⟨aE, cE, bE, oE, rfl, hEc, hEr⟩, hEw⟩ := hE
  obtain ⟨aC, cC, rfl, hCc⟩ := RdD.form hC
  obtain ⟨bC, oC, hCr⟩ := RdD.at hC
  have HER := Lib.hid hEr
  have HCR := Lib.hid hCr
  have HEW := Lib.hid hEw
  have HCW := Lib.hid hwf
  have HD0 := Lib.hid hd0
  clear hEr hEw hCr hwf hC hd0
  have HF := Lib.hid h
  have hre := h.here
  obtain ⟨⟨aL, cL, rfl⟩, ⟨aS, cS, rfl⟩, aD, cD, rfl⟩ := hre.forms
  have HR := Lib.hid hre
  have hl1 := hre.l
  have hl2 := hre.e
  have hl3 := hre.x
  have hSn := hre.n
  obtain ⟨n, hnn⟩ : ∃ n, n = M.n := ⟨_, rfl⟩
  rw [← hnn] at hl1 hSn hok hi hn HR HF ⊢
  have HNN := Lib.hid hnn
  have HL1 := Lib.hid hl1
  have HL2 := Lib.hid hl2
  have HL3 := Lib.hid hl3
  have HSN := Lib.hid hSn
  have hz := zeroRM
  clear hl1 hl2 hl3 hSn hnn hre h
  obtain ⟨w1, hw1⟩ : ∃ w1, w1 = w.alloc (.cells #[.int .i64 M.kind, .int .i64 M.endu, .slice aL n cL, .slice aS M.scr.length cS, .slice aD n cD] 59) := ⟨_, rfl⟩
  obtain ⟨w2, hw2⟩ : ∃ w2, w2 = w1.alloc (.cells #[.int .i64 i, .slice aE E.length cE, .slice aC C.length cC] 44) := ⟨_, rfl⟩
  obtain ⟨w3, hw3⟩ : ∃ w3, w3 = w2.alloc (.cells #[.int .i64 0, .int .i64 0, .slice none 0 0, .slice none 0 0, .slice none 0 0] 59) := ⟨_, rfl⟩
  have hA1 := (Below.refl w.heap.size w).alloc (Nat.le_refl _) (.cells #[.int .i64 M.kind, .int .i64 M.endu, .slice aL n cL, .slice aS M.scr.length cS, .slice aD n cD] 59)
  rw [← hw1] at hA1
  have hA2 := (Below.refl w1.heap.size w1).alloc (Nat.le_refl _) (.cells #[.int .i64 i, .slice aE E.length cE, .slice aC C.length cC] 44)
  rw [← hw2] at hA2
  have hA3 := (Below.refl w2.heap.size w2).alloc (Nat.le_refl _) (.cells #[.int .i64 0, .int .i64 0, .slice none 0 0, .slice none 0 0, .slice none 0 0] 59)
  rw [← hw3] at hA3
  have hB1 : Bx w1 w.heap.size 59 [.int .i64 M.kind, .int .i64 M.endu, .slice aL n cL, .slice aS M.scr.length cS, .slice aD n cD] := by rw [hw1]; exact Bx.new w _ _
  have hB2 : Bx w2 w1.heap.size 44 [.int .i64 i, .slice aE E.length cE, .slice aC C.length cC] := by rw [hw2]; exact Bx.new w1 _ _
  have hB3 : Bx w3 w2.heap.size 59 [.int .i64 0, .int .i64 0, .slice none 0 0, .slice none 0 0, .slice none 0 0] := by rw [hw3]; exact Bx.new w2 _ _
  obtain ⟨b, hb⟩ : ∃ b, b = w.heap.size := ⟨_, rfl⟩
  have hs1 : w1.heap.size = b + 1 := by rw [hw1, hb]; simp
  have hs2 : w2.heap.size = b + 1 + 1 := by rw [hw2]; simp [hs1]
  have hs3 : w3.heap.size = b + 1 + 1 + 1 := by rw [hw3]; simp [hs2]
  rw [← hb] at hB1
  rw [hs1] at hB2
  rw [hs2] at hB3
  have H1 := Lib.hid ((hB1.call hA2).call hA3)
  have H2 := Lib.hid (hB2.call hA3)
  have H3 := Lib.hid hB3
  have HA := Lib.hid ((hA1.trans (hA2.mono hA1.size)).trans (hA3.mono (hA1.trans (hA2.mono hA1.size)).size))
  have HB := Lib.hid hb
  have HS := Lib.hid hs3
  have HW : Hid ((((w.alloc (.cells #[.int .i64 M.kind, .int .i64 M.endu, .slice aL n cL, .slice aS M.scr.length cS, .slice aD n cD] 59)).alloc (.cells #[.int .i64 i, .slice aE E.length cE, .slice aC C.length cC] 44)).alloc (.cells #[.int .i64 0, .int .i64 0, .slice none 0 0, .slice none 0 0, .slice none 0 0] 59)) = w3) := Lib.hid (by rw [hw3, hw2, hw1])
  clear hw1 hA1 hB1 hw2 hA2 hB2 hw3 hA3 hB3 hs1 hs2 hb
  have HOK := Lib.hid (Dam.okB_yes hok)
  have HVE := Lib.hid hok.2.1.1
  have HVC := Lib.hid hok.2.2
  clear hok
  have hEp0 : 0 < E.length := List.length_pos_iff.2 hEe
  have hEp1 : decide (0 < E.length) = true := decide_eq_true hEp0
  have hEp : decide (0 < (E.length : Int)) = true := decide_eq_true (by have := List.length_pos_iff.2 hEe; omega)
  have hCp0 : 0 < C.length := List.length_pos_iff.2 hCe
  have hCp1 : decide (0 < C.length) = true := decide_eq_true hCp0
  have hCp : decide (0 < (C.length : Int)) = true := decide_eq_true (by have := List.length_pos_iff.2 hCe; omega)
  clear hEe hCe
  have HVAL : Hid (Calls Try.prog 52 #[.int .i64 (n : Nat), .agg #[.int .i64 i, .slice aE E.length cE, .slice aC C.length cC]] w3 fun e w' => e = .returned (.bool true) ∧ Below w3.heap.size w3 w') := Lib.hid (by
    have hq := rvalid12 (HD0.out.below HA.out) n hn
    rw [HOK.out] at hq
    exact hq)
  have k0 := H1.out.cell (i := 0) rfl
  have k1 := H1.out.cell (i := 1) rfl
  have k2 := H1.out.cell (i := 2) rfl
  have k3 := H1.out.cell (i := 3) rfl
  have k4 := H1.out.cell (i := 4) rfl
  have d0 := H2.out.cell (i := 0) rfl
  have d1 := H2.out.cell (i := 1) rfl
  have d2 := H2.out.cell (i := 2) rfl
  unfold rmv damv
  go_enter Try.func28, Try.ntmps28
  go_upto_region 1 with (fail)
  rw [HW.out, ← HB.out]
  go_wp2_with fail
  refine HVAL.out.mono ?_
  rintro e w4 ⟨rfl, hb4⟩
  have H14 := Lib.hid (H1.out.call hb4)
  have H24 := Lib.hid (H2.out.call hb4)
  have H34 := Lib.hid (H3.out.call hb4)
  have HA4 := Lib.hid (HA.out.trans (hb4.mono HA.out.size))
  clear hb4 k0 k1 k2 k3 k4 d0 d1 d2
  have k0 := H14.out.cell (i := 0) rfl
  have k1 := H14.out.cell (i := 1) rfl
  have k2 := H14.out.cell (i := 2) rfl
  have k3 := H14.out.cell (i := 3) rfl
  have k4 := H14.out.cell (i := 4) rfl
  have d0 := H24.out.cell (i := 0) rfl
  have d1 := H24.out.cell (i := 1) rfl
  have d2 := H24.out.cell (i := 2) rfl
  have hsl : i < SS.length := by rw [HSN.out]; exact hi
  obtain ⟨bl, off, hcell⟩ := RdD.at (RdD.keep HL1.out HA4.out)
  obtain ⟨ha, hrg⟩ := hcell i hsl
  have hix := fun w' => run_idxS Try.underlying56 Try.sizeRS (cap := cL) ha hi (i : Int) rfl w'
  have HSM := Lib.hid (Med.sec_map HL2.out i)
  have HY := Lib.hid (HL3.out i hsl)
  have HSY := HSM.out
  generalize hye : atD rz SS i = y at *
  have HYE := Lib.hid hye
  clear hye
  have x0 := hrg 0 _ rfl
  have x1 := hrg 1 _ rfl
  have x2 := hrg 2 _ rfl
  have x3 := hrg 3 (.slice y.ae y.ne y.ce) rfl
  have x4 := hrg 4 (.slice y.ac y.nc y.cc) rfl
  simp only [Nat.add_zero] at x0
  have HSYh := Lib.hid HSY
  have hzs : ∀ W, (zeroValue 108).run Try.prog W = .ok (.agg #[.int .i64 0, .int .i64 0, .string ⟨#[]⟩, .slice none 0 0, .slice none 0 0]) W := fun _ => by kernel_rfl
  clear ha hrg hcell HSM HSY
  go_upto_region 4 with (fail)
  obtain ⟨q, hq⟩ : ∃ q, q = w4.heap.size := ⟨_, rfl⟩
  obtain ⟨w5, hw5⟩ : ∃ w5, w5 = w4.alloc (.cells #[.int .i64 y.s.st, .int .i64 y.s.cnt, .string (str y.s.raw), .slice y.ae y.ne y.ce, .slice y.ac y.nc y.cc] 108) := ⟨_, rfl⟩
  have hA5 := (Below.refl w4.heap.size w4).alloc (Nat.le_refl _) (.cells #[.int .i64 y.s.st, .int .i64 y.s.cnt, .string (str y.s.raw), .slice y.ae y.ne y.ce, .slice y.ac y.nc y.cc] 108)
  rw [← hw5] at hA5
  have hB5 : Bx w5 q 108 [.int .i64 y.s.st, .int .i64 y.s.cnt, .string (str y.s.raw), .slice y.ae y.ne y.ce, .slice y.ac y.nc y.cc] := by rw [hw5, hq]; exact Bx.new w4 _ _
  rw [← hq, ← hw5]
  have H15 := Lib.hid (H14.out.call hA5)
  have H25 := Lib.hid (H24.out.call hA5)
  have H35 := Lib.hid (H34.out.call hA5)
  have H45 := Lib.hid hB5
  have HA5 := Lib.hid (HA4.out.trans (hA5.mono HA4.out.size))
  have hqb : b + 1 + 1 < q := by rw [hq]; exact H34.out.lt
  clear hw5 hA5 hB5 hq k0 k1 k2 k3 k4 d0 d1 d2 x0 x1 x2 x3 x4 hix
  have d1 := H25.out.cell (i := 1) rfl
  clear d1
  have d1 := H25.out.cell (i := 1) rfl
  obtain ⟨gE, hgE⟩ : ∃ gE, gE = w5.heap.size := ⟨_, rfl⟩
  have HGgE := Lib.hid hgE
  have hqgE : q < gE := by rw [hgE]; exact H45.out.lt
  clear hgE
  obtain ⟨le, hle1, hle2⟩ := (HY.out.e)
  have HLE1 := Lib.hid hle1
  have HLE2 := Lib.hid hle2
  clear hle1 hle2
  go_upto_region 6 with (first
    | (refine wpList_mkBool rfl _ _ rfl Try.underlying91 Try.infoB12b 2352 rfl rfl rfl rfl (by omega) ?_
       intro w6 hx6 hb6
       rw [← HGgE.out] at hx6 ⊢
       have HX6 := Lib.hid hx6
       have HB6 := Lib.hid hb6
       clear hx6 hb6)
    | fail)
  have H16 := Lib.hid (H15.out.call HB6.out)
  have H26 := Lib.hid (H25.out.call HB6.out)
  have H36 := Lib.hid (H35.out.call HB6.out)
  have H46 := Lib.hid (H45.out.call HB6.out)
  have HA6 := Lib.hid (HA5.out.trans (HB6.out.mono HA5.out.size))
  have y3 := H46.out.cell (i := 3) rfl
  go_upto_region 7 with (first
    | (refine wpList_cpE rfl _ _ rfl Try.underlying91 Try.sizeB12 y.ae y.ne y.ce gE rfl rfl HX6.out (RdD.keep HLE1.out HA6.out) HLE2.out (by rw [HGgE.out]; exact Nat.le_refl _) HB6.out ?_
       intro w7 hx7 hb7
       have HX7 := Lib.hid hx7
       have HB7 := Lib.hid hb7
       clear hx7 hb7)
    | fail)
  clear y3
  go_wp2_with fail
  go_loopw [8] (fun vk wr => ∃ k : Nat, k ≤ E.length ∧ vk = .int .i64 k ∧ Bx wr gE 4 (bb (mkE (erF y.s.er (E.take k)))) ∧ Below w5.heap.size w5 wr) (fun vk _ => E.length - (RowKit.intOf vk).toNat)
  case atStart => exact ⟨0, by omega, rfl, by rw [List.take_zero, erF_nil]; exact HX7.out, HB7.out⟩
  case round =>
    obtain ⟨k, hk, rfl, hX, hb⟩ := hrel
    have HXr := Lib.hid hX
    have HBr := Lib.hid hb
    have d1 := (H25.out.call hb).cell (i := 1) rfl
    by_cases hlt : k < E.length
    · obtain ⟨ha, hcell0⟩ := HER.out k hlt
      have hcell := ((HA5.out.trans (hb.mono HA5.out.size)).cell (p := ⟨bE, oE + k, none⟩) (World.block_lt_of_cell? w _ hcell0)).trans hcell0
      have hix := fun w' => run_idxS Try.underlying30 Try.sizeInt9 (cap := cE) ha hlt (k : Int) rfl w'
      simp only [Nat.mul_one] at hix
      have hin := HVE.out _ (D13.ixI_mem hlt)
      obtain ⟨a, hax⟩ : ∃ a : Nat, ixI E k = (a : Int) := ⟨(ixI E k).toNat, by omega⟩
      have hal : a < 2352 := by omega
      have HSN2 := Lib.hid (mkE_snoc y.s.er hlt hax hal)
      rw [hax] at hcell
      have hixg := fun w' => run_idxS Try.underlying91 Try.sizeB12 (a := some ⟨gE, 0, none⟩) (n := 2352) (cap := 2352) (k := a) (b := gE) (off := 0) rfl hal (a : Int) rfl w'
      simp only [Nat.mul_one, Nat.zero_add] at hixg
      have hgc : wr.cell? ⟨gE, a, none⟩ = some (.bool (erF y.s.er (E.take k) a)) := hX.cell (bb_get (mkE_get _ hal))
      have hgf := hX.free a
      clear hin hax ha hcell0 hX hb
      go_wp2_with fail
      go_roundw
      case rel => exact ⟨k + 1, by omega, by go_num, by have := HXr.out.set a (.bool true); rw [HSN2.out] at this; exact this, HBr.out.setCell (p := ⟨gE, a, none⟩) (by rw [HGgE.out]; exact Nat.le_refl _) _⟩
      case measure => simp [RowKit.intOf]; omega
    · obtain rfl : k = E.length := by omega
      rw [List.take_length] at hX
      have HE14 := Lib.hid hX
      have H114 := Lib.hid (H15.out.call hb)
      have H214 := Lib.hid (H25.out.call hb)
      have H314 := Lib.hid (H35.out.call hb)
      have H414 := Lib.hid (H45.out.call hb)
      have HA14 := Lib.hid (HA5.out.trans (hb.mono HA5.out.size))
      have y3 := H414.out.cell (i := 3) rfl
      have yf := H414.out.free
      clear hX hb
      go_upto_region 12 with (fail)
      have hY1 := H114.out.far (p := ⟨q, 3, none⟩) (by simp only; omega) (.slice (some ⟨gE, 0, none⟩) 2352 2352)
      have hY2 := H214.out.far (p := ⟨q, 3, none⟩) (by simp only; omega) (.slice (some ⟨gE, 0, none⟩) 2352 2352)
      have hY3 := H314.out.far (p := ⟨q, 3, none⟩) (by simp only; omega) (.slice (some ⟨gE, 0, none⟩) 2352 2352)
      have hY4 := H414.out.set 3 (.slice (some ⟨gE, 0, none⟩) 2352 2352)
      have hYE := HE14.out.far (p := ⟨q, 3, none⟩) (by simp only; omega) (.slice (some ⟨gE, 0, none⟩) 2352 2352)
      have hYA := HA14.out.setCell (p := ⟨q, 3, none⟩) (by have := HB.out; simp only; omega) (.slice (some ⟨gE, 0, none⟩) 2352 2352)
      rw [List.set_cons_succ, List.set_cons_succ, List.set_cons_succ, List.set_cons_zero] at hY4
      clear y3 yf d1
      generalize wr.setCell ⟨q, 3, none⟩ (.slice (some ⟨gE, 0, none⟩) 2352 2352) = w15 at *
      have H115 := Lib.hid hY1
      have H215 := Lib.hid hY2
      have H315 := Lib.hid hY3
      have H415 := Lib.hid hY4
      have HE15 := Lib.hid hYE
      have HA15 := Lib.hid hYA
      clear hY1 hY2 hY3 hY4 hYE hYA
      have d2 := H215.out.cell (i := 2) rfl
      obtain ⟨gC, hgC⟩ : ∃ gC, gC = w15.heap.size := ⟨_, rfl⟩
      have HGgC := Lib.hid hgC
      have hqgC : q < gC := by rw [hgC]; exact H415.out.lt
      clear hgC
      obtain ⟨lc, hlc1, hlc2⟩ := (HY.out.c)
      have HLC1 := Lib.hid hlc1
      have HLC2 := Lib.hid hlc2
      clear hlc1 hlc2
      go_upto_region 14 with (first
        | (refine wpList_mkB rfl _ _ rfl (base := w15.heap.size) Try.underlying52 Try.infoB12 2352 rfl rfl rfl rfl (by omega) (Nat.le_refl _) ?_
           intro w16 hx16 hb16
           rw [← HGgC.out] at hx16 ⊢
           have HX16 := Lib.hid (Bx.ofOwn hx16)
           have HB16 := Lib.hid ((Below.refl w15.heap.size w15).grown hb16 (Nat.le_refl _) (fun k hk => by cases hk))
           clear hx16 hb16)
        | fail)
      have H116 := Lib.hid (H115.out.call HB16.out)
      have H216 := Lib.hid (H215.out.call HB16.out)
      have H316 := Lib.hid (H315.out.call HB16.out)
      have H416 := Lib.hid (H415.out.call HB16.out)
      have HE16 := Lib.hid (HE15.out.call HB16.out)
      have HA16 := Lib.hid (HA15.out.trans (HB16.out.mono HA15.out.size))
      have y4 := H416.out.cell (i := 4) rfl
      go_upto_region 15 with (first
        | (refine wpList_cpC rfl _ _ rfl Try.underlying52 Try.sizeU8 y.ac y.nc y.cc gC rfl rfl HX16.out (HLC1.out.keep HA16.out) HLC2.out (by rw [HGgC.out]; exact Nat.le_refl _) HB16.out ?_
           intro w17 hx17 hb17
           have HX17 := Lib.hid hx17
           have HB17 := Lib.hid hb17
           clear hx17 hb17)
        | fail)
      clear y4
      go_wp2_with fail
      go_loopw [10] (fun vk wr => ∃ k : Nat, k ≤ C.length ∧ vk = .int .i64 k ∧ Bx wr gC 5 (bs (mkC (chF y.s.ch (C.take k)))) ∧ Below w15.heap.size w15 wr) (fun vk _ => C.length - (RowKit.intOf vk).toNat)
      case atStart => exact ⟨0, by omega, rfl, by rw [List.take_zero]; exact HX17.out, HB17.out⟩
      case round =>
        obtain ⟨k, hk, rfl, hX, hb⟩ := hrel
        have HXr := Lib.hid hX
        have HBr := Lib.hid hb
        have d2 := (H215.out.call hb).cell (i := 2) rfl
        by_cases hlt : k < C.length
        · obtain ⟨ha, hrange⟩ := HCR.out k hlt
          have hw9 := HCW.out k hlt
          have hin := HVC.out _ (show chA C k ∈ C from atD_mem hlt)
          change w.rangeAt bC (oC + k * 2) (chc (chA C k)) at hrange
          obtain ⟨a, hax⟩ : ∃ a : Nat, (chA C k).1 = (a : Int) := ⟨(chA C k).1.toNat, by unfold chOk1 at hin; omega⟩
          have hal : a < 2352 := by unfold chOk1 at hin; omega
          have HSN2 := Lib.hid (mkC_snoc y.s.ch hlt hax hal)
          have hcx := hin.2
          generalize chA C k = x at *
          obtain ⟨co, cx⟩ := x
          simp only at hax hcx hw9 HSN2
          subst hax
          have hrg : wr.rangeAt bC (oC + k * 2) (chc ⟨(a : Int), cx⟩) := fun j u hu => ((HA15.out.trans (hb.mono HA15.out.size)).cell (p := ⟨bC, oC + k * 2 + j, none⟩) (World.block_lt_of_cell? w _ (hrange j u hu))).trans (hrange j u hu)
          obtain ⟨hc0, hc1⟩ := rdc hrg
          simp only at hc0 hc1
          have hix := fun w' => run_idxS Try.underlying42 Try.sizeCh12 (cap := cC) ha hlt (k : Int) rfl w'
          have hixg := fun w' => run_idxS Try.underlying52 Try.sizeU8 (a := some ⟨gC, 0, none⟩) (n := 2352) (cap := 2352) (k := a) (b := gC) (off := 0) rfl hal (a : Int) rfl w'
          simp only [Nat.mul_one, Nat.zero_add] at hixg
          have hgc : wr.cell? ⟨gC, a, none⟩ = some (B (chF y.s.ch (C.take k) a)) := by have := hX.cell (i := a) (bs_get (by rw [mkC_len]; exact hal)); rwa [mkC_ix _ hal] at this
          have hgf := hX.free a
          obtain ⟨o9, ho9⟩ : ∃ o9, o9 = chF y.s.ch (C.take k) a := ⟨_, rfl⟩
          rw [← ho9] at hgc HSN2
          have hcb : IntKind.u8.wrap cx = cx := IntWalk.u8_in _ (by omega)
          have HXV : Hid (Value.int .u8 (bits .xor .u8 (o9.toNat : Int) cx) = B (o9 ^^^ b8 cx)) := Lib.hid (by
            have hV : ((b8 cx).toNat : Int) = cx := by unfold b8; rw [UInt8.toNat_ofNat']; omega
            have := xorB o9 (b8 cx)
            rw [hV] at this
            exact congrArg (Value.int .u8) this)
          clear hin ha hrange hrg hX hb ho9
          go_wp2_with fail
          go_still_tail 25, (by kernel_rfl)
          repeat still_step
          change wpList _ _ _ _ _ wr.drew
          have hO2 := HXr.out.set a (B (o9 ^^^ b8 cx))
          rw [HSN2.out] at hO2
          have HO2 := Lib.hid hO2
          have HB3 := Lib.hid (HBr.out.setCell (p := ⟨gC, a, none⟩) (by rw [HGgC.out]; exact Nat.le_refl _) (B (o9 ^^^ b8 cx)))
          clear hO2
          go_wp2_with fail
          go_roundw
          case rel => exact ⟨k + 1, by omega, by go_num, by rw [HXV.out]; exact HO2.out.call ((Below.refl _ _).drew), by rw [HXV.out]; exact HB3.out.drew⟩
          case measure => simp [RowKit.intOf]; omega
        · obtain rfl : k = C.length := by omega
          rw [List.take_length] at hX
          have HC24 := Lib.hid hX
          have H124 := Lib.hid (H115.out.call hb)
          have H224 := Lib.hid (H215.out.call hb)
          have H324 := Lib.hid (H315.out.call hb)
          have H424 := Lib.hid (H415.out.call hb)
          have HE24 := Lib.hid (HE15.out.call hb)
          have HA24 := Lib.hid (HA15.out.trans (hb.mono HA15.out.size))
          have y4 := H424.out.cell (i := 4) rfl
          have yf := H424.out.free
          clear hX hb
          go_upto_region 20 with (fail)
          have hY1 := H124.out.far (p := ⟨q, 4, none⟩) (by simp only; omega) (.slice (some ⟨gC, 0, none⟩) 2352 2352)
          have hY2 := H224.out.far (p := ⟨q, 4, none⟩) (by simp only; omega) (.slice (some ⟨gC, 0, none⟩) 2352 2352)
          have hY3 := H324.out.far (p := ⟨q, 4, none⟩) (by simp only; omega) (.slice (some ⟨gC, 0, none⟩) 2352 2352)
          have hY4 := H424.out.set 4 (.slice (some ⟨gC, 0, none⟩) 2352 2352)
          have hYE := HE24.out.far (p := ⟨q, 4, none⟩) (by simp only; omega) (.slice (some ⟨gC, 0, none⟩) 2352 2352)
          have hYC := HC24.out.far (p := ⟨q, 4, none⟩) (by simp only; omega) (.slice (some ⟨gC, 0, none⟩) 2352 2352)
          have hYA := HA24.out.setCell (p := ⟨q, 4, none⟩) (by have := HB.out; simp only; omega) (.slice (some ⟨gC, 0, none⟩) 2352 2352)
          rw [List.set_cons_succ, List.set_cons_succ, List.set_cons_succ, List.set_cons_succ, List.set_cons_zero] at hY4
          clear y4 yf d2
          generalize wr.setCell ⟨q, 4, none⟩ (.slice (some ⟨gC, 0, none⟩) 2352 2352) = w25 at *
          have H125 := Lib.hid hY1
          have H225 := Lib.hid hY2
          have H325 := Lib.hid hY3
          have H425 := Lib.hid hY4
          have HE25 := Lib.hid hYE
          have HC25 := Lib.hid hYC
          have HA25 := Lib.hid hYA
          clear hY1 hY2 hY3 hY4 hYE hYC hYA
          have k0 := H125.out.cell (i := 0) rfl
          have k1 := H125.out.cell (i := 1) rfl
          have k2 := H125.out.cell (i := 2) rfl
          have k3 := H125.out.cell (i := 3) rfl
          have k4 := H125.out.cell (i := 4) rfl
          have d0 := H225.out.cell (i := 0) rfl
          have y0 := H425.out.cell (i := 0) rfl
          have y1 := H425.out.cell (i := 1) rfl
          have y2 := H425.out.cell (i := 2) rfl
          have y3 := H425.out.cell (i := 3) rfl
          have y4 := H425.out.cell (i := 4) rfl
          have HSET : Hid (Calls Try.prog 49 #[rmv M (.slice aL n cL) (.slice aS M.scr.length cS) (.slice aD n cD), .int .i64 (i : Nat), .agg #[.int .i64 y.s.st, .int .i64 y.s.cnt, .string (str y.s.raw), .slice (some ⟨gE, 0, none⟩) 2352 2352, .slice (some ⟨gC, 0, none⟩) 2352 2352]] w25 (SetP M SS i ⟨⟨y.s.st, y.s.cnt, y.s.raw, erF y.s.er E, chF y.s.ch C⟩, some ⟨gE, 0, none⟩, 2352, 2352, some ⟨gC, 0, none⟩, 2352, 2352⟩ (.slice aS M.scr.length cS) (.slice aD n cD) w25)) := Lib.hid (rset12 (HR.out.keep HA25.out) (by rw [← HNN.out]; exact hn) (by rw [← HNN.out]; exact hi) ⟨⟨y.s.st, y.s.cnt, y.s.raw, erF y.s.er E, chF y.s.ch C⟩, some ⟨gE, 0, none⟩, 2352, 2352, some ⟨gC, 0, none⟩, 2352, 2352⟩)
          unfold rmv at HSET
          go_wp2_with fail
          refine HSET.out.mono ?_
          rintro e w26 ⟨a5, c5, rfl, ho5, hb5⟩
          have hlt4 : q < w25.heap.size := H425.out.lt
          have hnn := HNN.out
          unfold rmv
          rw [← hnn]
          rw [← hnn] at ho5
          have HZo := Lib.hid (ownD_far (ownD_far (ownD_far (ownD_far (ownD_far ho5 (p := ⟨b + 1 + 1, 0, none⟩) (by simp only; omega) (.int .i64 (M.put i ⟨y.s.st, y.s.cnt, y.s.raw, erF y.s.er E, chF y.s.ch C⟩).kind)) (p := ⟨b + 1 + 1, 1, none⟩) (by simp only; omega) (.int .i64 (M.put i ⟨y.s.st, y.s.cnt, y.s.raw, erF y.s.er E, chF y.s.ch C⟩).endu)) (p := ⟨b + 1 + 1, 2, none⟩) (by simp only; omega) (.slice a5 n c5)) (p := ⟨b + 1 + 1, 3, none⟩) (by simp only; omega) (.slice aS M.scr.length cS)) (p := ⟨b + 1 + 1, 4, none⟩) (by simp only; omega) (.slice aD n cD))
          have H326 := Lib.hid (H325.out.call hb5)
          have HA26 := Lib.hid (HA25.out.trans (hb5.mono HA25.out.size))
          have HRE := Lib.hid ((((((HE25.out.call hb5).far (p := ⟨b + 1 + 1, 0, none⟩) (by simp only; omega) (.int .i64 (M.put i ⟨y.s.st, y.s.cnt, y.s.raw, erF y.s.er E, chF y.s.ch C⟩).kind)).far (p := ⟨b + 1 + 1, 1, none⟩) (by simp only; omega) (.int .i64 (M.put i ⟨y.s.st, y.s.cnt, y.s.raw, erF y.s.er E, chF y.s.ch C⟩).endu)).far (p := ⟨b + 1 + 1, 2, none⟩) (by simp only; omega) (.slice a5 n c5)).far (p := ⟨b + 1 + 1, 3, none⟩) (by simp only; omega) (.slice aS M.scr.length cS)).far (p := ⟨b + 1 + 1, 4, none⟩) (by simp only; omega) (.slice aD n cD))
          have HRC := Lib.hid ((((((HC25.out.call hb5).far (p := ⟨b + 1 + 1, 0, none⟩) (by simp only; omega) (.int .i64 (M.put i ⟨y.s.st, y.s.cnt, y.s.raw, erF y.s.er E, chF y.s.ch C⟩).kind)).far (p := ⟨b + 1 + 1, 1, none⟩) (by simp only; omega) (.int .i64 (M.put i ⟨y.s.st, y.s.cnt, y.s.raw, erF y.s.er E, chF y.s.ch C⟩).endu)).far (p := ⟨b + 1 + 1, 2, none⟩) (by simp only; omega) (.slice a5 n c5)).far (p := ⟨b + 1 + 1, 3, none⟩) (by simp only; omega) (.slice aS M.scr.length cS)).far (p := ⟨b + 1 + 1, 4, none⟩) (by simp only; omega) (.slice aD n cD))
          clear ho5 hb5 hnn k0 k1 k2 k3 k4 y0 y1 y2 y3 y4 d0
          have z0 := H326.out.cell (i := 0) rfl
          have z1 := H326.out.cell (i := 1) rfl
          have z2 := H326.out.cell (i := 2) rfl
          have z3 := H326.out.cell (i := 3) rfl
          have z4 := H326.out.cell (i := 4) rfl
          have zf := H326.out.free
          have hZ := (((((H326.out.set 0 (.int .i64 (M.put i ⟨y.s.st, y.s.cnt, y.s.raw, erF y.s.er E, chF y.s.ch C⟩).kind)).set 1 (.int .i64 (M.put i ⟨y.s.st, y.s.cnt, y.s.raw, erF y.s.er E, chF y.s.ch C⟩).endu)).set 2 (.slice a5 n c5)).set 3 (.slice aS M.scr.length cS)).set 4 (.slice aD n cD))
          have HZ := Lib.hid hZ
          have HZb := Lib.hid (below5 HA26.out (g := b + 1 + 1) (by have := HB.out; omega) 0 1 2 3 4 (.int .i64 (M.put i ⟨y.s.st, y.s.cnt, y.s.raw, erF y.s.er E, chF y.s.ch C⟩).kind) (.int .i64 (M.put i ⟨y.s.st, y.s.cnt, y.s.raw, erF y.s.er E, chF y.s.ch C⟩).endu) (.slice a5 n c5) (.slice aS M.scr.length cS) (.slice aD n cD))
          have q0 := hZ.cell (i := 0) rfl
          have q1 := hZ.cell (i := 1) rfl
          have q2 := hZ.cell (i := 2) rfl
          have q3 := hZ.cell (i := 3) rfl
          have q4 := hZ.cell (i := 4) rfl
          have HQ0 := Lib.hid q0
          have HQ1 := Lib.hid q1
          have HQ2 := Lib.hid q2
          have HQ3 := Lib.hid q3
          have HQ4 := Lib.hid q4
          clear q0 q1 q2 q3 q4 hZ
          go_wp2_with fail
          refine bodyPost_ret (v := .tuple #[rmv (M.put i ⟨y.s.st, y.s.cnt, y.s.raw, erF y.s.er E, chF y.s.ch C⟩) (.slice a5 n c5) (.slice aS M.scr.length cS) (.slice aD n cD), .int .i64 0]) (by simp [rmv, results, Try.results28, go_sem, HQ0.out, HQ1.out, HQ2.out, HQ3.out, HQ4.out]) rfl ?_
          rw [HSYh.out]
          refine ⟨_, _, _, SS.set i ⟨⟨y.s.st, y.s.cnt, y.s.raw, erF y.s.er E, chF y.s.ch C⟩, some ⟨gE, 0, none⟩, 2352, 2352, some ⟨gC, 0, none⟩, 2352, 2352⟩, rfl, RmF.set HF.out (by rw [← HNN.out]; exact hi) HZb.out (base := w25.heap.size) (by have := HB.out; omega) (fun W hW hag => ?_) (by rw [← HNN.out]; exact HZo.out), HZb.out⟩
          have hy3 : RsW W y := by have := hW.x i (by rw [HSN.out]; exact hi); rwa [HYE.out] at this
          exact ⟨⟨mkE (erF y.s.er E), Bx.rdBo12 (agree_bx hag HRE.out (by have := HB.out; omega)), .inr rfl⟩, ⟨mkC (chF y.s.ch C), Bx.rdB12 (agree_bx hag HRC.out (by have := HB.out; omega)), .inr rfl⟩⟩
theorem rdamage12 {w : World} {vL vS vD : Value} {M : Med} {P : Nat → Prop} {SS : List RS} {N : Nat} (h : RmF P w vL vS vD M SS) (ho : M.Ok N) {vE vC : Value} {d : Dam} (hd : DamV w vE vC d) :
    Calls Try.prog 28 #[rmv M vL vS vD, damv vE vC d] w (RmP (M.damage d) P w) := by
  have hn := ho.n.2
  have hs := ho.scr
  by_cases hok : d.Ok M.n
  · unfold Med.damage
    rw [if_pos hok]
    have hl := hok.1
    have hli : d.lba = (d.lba.toNat : Int) := by omega
    have hi : d.lba.toNat < M.n := by omega
    generalize d.lba.toNat = i at *
    by_cases hE : d.er = []
    · by_cases hC : d.ch = []
      · have hq := rdam_N h hn hs hd hli hi hok hE hC
        rw [hE, hC, erF_nil]
        exact hq
      · have hq := rdam_C h hn hs hd hli hi hok hE hC
        rw [hE, erF_nil]
        exact hq
    · by_cases hC : d.ch = []
      · have hq := rdam_E h hn hs hd hli hi hok hE hC
        rw [hC]
        exact hq
      · exact rdam_EC h hn hs hd hli hi hok hE hC
  · unfold Med.damage
    rw [if_neg hok]
    exact rdam_bad h hn hs hd hok
end Go.Proofs.Ytpncjadhpnapnaa.D12
