/- Chapter 12: the reference walked: recorded, Record, Tear, Erase. -/
import Derived.Test.YtpncjadhpnapnaaMq15
namespace Go.Proofs.Ytpncjadhpnapnaa.D12
open Go.RowKit Go.Maps C9
open D13 (RdI ixI is)
set_option linter.unusedVariables false

set_option maxRecDepth 100000 in
set_option maxHeartbeats 4000000 in
theorem rrec_pressed {w : World} {vL vS vD : Value} {M : Med} {P : Nat → Prop} {SS : List RS} (h : RmF P w vL vS vD M SS) (hn : M.n ≤ 4096) (hs : M.scr.length ≤ 256) {i : Nat} (hi : i < M.n) (st : Nat) (l : List UInt8) (hk : M.kind = 0) :
    Calls Try.prog 48 #[rmv M vL vS vD, .int .i64 (i : Nat), .int .i64 (st : Nat), .string (str l)] w (RmP (15, M) P w) := by
  have HF := Lib.hid h
  have hre := h.here
  obtain ⟨⟨aL, cL, rfl⟩, ⟨aS, cS, rfl⟩, aD, cD, rfl⟩ := hre.forms
  have HR := Lib.hid hre
  have hl1 := hre.l
  have hl2 := hre.e
  have hl3 := hre.x
  have hSn := hre.n
  have HSM := Lib.hid (Med.sec_map hl2 i)
  obtain ⟨n, hnn⟩ : ∃ n, n = M.n := ⟨_, rfl⟩
  rw [← hnn] at hl1 hSn hi hn HR HF ⊢
  have HNN := Lib.hid hnn
  have HL1 := Lib.hid hl1
  have HL2 := Lib.hid hl2
  have HL3 := Lib.hid hl3
  have HSN := Lib.hid hSn
  have hz := zeroRM
  clear hl1 hl2 hl3 hSn hnn hre h
  obtain ⟨w1, hw1⟩ : ∃ w1, w1 = w.alloc (.cells #[.int .i64 M.kind, .int .i64 M.endu, .slice aL n cL, .slice aS M.scr.length cS, .slice aD n cD] 59) := ⟨_, rfl⟩
  obtain ⟨w2, hw2⟩ : ∃ w2, w2 = w1.alloc (.cells #[.int .i64 0, .int .i64 0, .slice none 0 0, .slice none 0 0, .slice none 0 0] 59) := ⟨_, rfl⟩
  have hA1 := (Below.refl w.heap.size w).alloc (Nat.le_refl _) (.cells #[.int .i64 M.kind, .int .i64 M.endu, .slice aL n cL, .slice aS M.scr.length cS, .slice aD n cD] 59)
  rw [← hw1] at hA1
  have hA2 := (Below.refl w1.heap.size w1).alloc (Nat.le_refl _) (.cells #[.int .i64 0, .int .i64 0, .slice none 0 0, .slice none 0 0, .slice none 0 0] 59)
  rw [← hw2] at hA2
  have hB1 : Bx w1 w.heap.size 59 [.int .i64 M.kind, .int .i64 M.endu, .slice aL n cL, .slice aS M.scr.length cS, .slice aD n cD] := by rw [hw1]; exact Bx.new w _ _
  have hB2 : Bx w2 w1.heap.size 59 [.int .i64 0, .int .i64 0, .slice none 0 0, .slice none 0 0, .slice none 0 0] := by rw [hw2]; exact Bx.new w1 _ _
  obtain ⟨b, hb⟩ : ∃ b, b = w.heap.size := ⟨_, rfl⟩
  have hs1 : w1.heap.size = b + 1 := by rw [hw1, hb]; simp
  have hs2 : w2.heap.size = b + 1 + 1 := by rw [hw2]; simp [hs1]
  rw [← hb] at hB1
  rw [hs1] at hB2
  have H1 := Lib.hid (hB1.call hA2)
  have H2 := Lib.hid hB2
  have HA := Lib.hid (hA1.trans (hA2.mono hA1.size))
  have HB := Lib.hid hb
  have HS := Lib.hid hs2
  have HW : Hid (((w.alloc (.cells #[.int .i64 M.kind, .int .i64 M.endu, .slice aL n cL, .slice aS M.scr.length cS, .slice aD n cD] 59)).alloc (.cells #[.int .i64 0, .int .i64 0, .slice none 0 0, .slice none 0 0, .slice none 0 0] 59)) = w2) := Lib.hid (by rw [hw2, hw1])
  clear hw1 hA1 hB1 hw2 hA2 hB2 hs1 hb
  have hk0 : ((M.kind : Int) == 0) = true := by rw [hk]; rfl
  clear hk
  have k0 := H1.out.cell (i := 0) rfl
  have k1 := H1.out.cell (i := 1) rfl
  have k2 := H1.out.cell (i := 2) rfl
  have k3 := H1.out.cell (i := 3) rfl
  have k4 := H1.out.cell (i := 4) rfl
  have z0 := H2.out.cell (i := 0) rfl
  have z1 := H2.out.cell (i := 1) rfl
  have z2 := H2.out.cell (i := 2) rfl
  have z3 := H2.out.cell (i := 3) rfl
  have z4 := H2.out.cell (i := 4) rfl
  have zf := H2.out.free
  unfold rmv
  go_enter Try.func48, Try.ntmps48
  go_upto_region 1 with (fail)
  rw [HW.out, ← HB.out]
  have hZ := (((((H2.out.set 0 (.int .i64 M.kind)).set 1 (.int .i64 M.endu)).set 2 (.slice aL n cL)).set 3 (.slice aS M.scr.length cS)).set 4 (.slice aD n cD))
  have HZ := Lib.hid hZ
  have HZb := Lib.hid (below5 HA.out (g := b + 1) (by have := HB.out; omega) 0 1 2 3 4 (.int .i64 M.kind) (.int .i64 M.endu) (.slice aL n cL) (.slice aS M.scr.length cS) (.slice aD n cD))
  have q0 := hZ.cell (i := 0) rfl
  have q1 := hZ.cell (i := 1) rfl
  have q2 := hZ.cell (i := 2) rfl
  have q3 := hZ.cell (i := 3) rfl
  have q4 := hZ.cell (i := 4) rfl
  have HQ0 := Lib.hid q0
  have HQ1 := Lib.hid q1
  have HQ2 := Lib.hid q2
  have HQ3 := Lib.hid q3
  have HQ4 := Lib.hid q4
  clear q0 q1 q2 q3 q4 hZ
  go_wp2_with fail
  refine bodyPost_ret (v := .tuple #[rmv M (.slice aL n cL) (.slice aS M.scr.length cS) (.slice aD n cD), .int .i64 15]) (by simp [rmv, results, Try.results48, go_sem, HQ0.out, HQ1.out, HQ2.out, HQ3.out, HQ4.out]) rfl ?_
  exact ⟨_, _, _, SS, rfl, HF.out.res HZb.out, HZb.out⟩
set_option maxRecDepth 100000 in
set_option maxHeartbeats 4000000 in
theorem rrec_once {w : World} {vL vS vD : Value} {M : Med} {P : Nat → Prop} {SS : List RS} (h : RmF P w vL vS vD M SS) (hn : M.n ≤ 4096) (hs : M.scr.length ≤ 256) {i : Nat} (hi : i < M.n) (st : Nat) (l : List UInt8) (hk : M.kind = 1) (hst : (M.sec i).st ≠ 0) :
    Calls Try.prog 48 #[rmv M vL vS vD, .int .i64 (i : Nat), .int .i64 (st : Nat), .string (str l)] w (RmP (8, M) P w) := by
  have HF := Lib.hid h
  have hre := h.here
  obtain ⟨⟨aL, cL, rfl⟩, ⟨aS, cS, rfl⟩, aD, cD, rfl⟩ := hre.forms
  have HR := Lib.hid hre
  have hl1 := hre.l
  have hl2 := hre.e
  have hl3 := hre.x
  have hSn := hre.n
  have HSM := Lib.hid (Med.sec_map hl2 i)
  obtain ⟨n, hnn⟩ : ∃ n, n = M.n := ⟨_, rfl⟩
  rw [← hnn] at hl1 hSn hi hn HR HF ⊢
  have HNN := Lib.hid hnn
  have HL1 := Lib.hid hl1
  have HL2 := Lib.hid hl2
  have HL3 := Lib.hid hl3
  have HSN := Lib.hid hSn
  have hz := zeroRM
  clear hl1 hl2 hl3 hSn hnn hre h
  obtain ⟨w1, hw1⟩ : ∃ w1, w1 = w.alloc (.cells #[.int .i64 M.kind, .int .i64 M.endu, .slice aL n cL, .slice aS M.scr.length cS, .slice aD n cD] 59) := ⟨_, rfl⟩
  obtain ⟨w2, hw2⟩ : ∃ w2, w2 = w1.alloc (.cells #[.int .i64 0, .int .i64 0, .slice none 0 0, .slice none 0 0, .slice none 0 0] 59) := ⟨_, rfl⟩
  have hA1 := (Below.refl w.heap.size w).alloc (Nat.le_refl _) (.cells #[.int .i64 M.kind, .int .i64 M.endu, .slice aL n cL, .slice aS M.scr.length cS, .slice aD n cD] 59)
  rw [← hw1] at hA1
  have hA2 := (Below.refl w1.heap.size w1).alloc (Nat.le_refl _) (.cells #[.int .i64 0, .int .i64 0, .slice none 0 0, .slice none 0 0, .slice none 0 0] 59)
  rw [← hw2] at hA2
  have hB1 : Bx w1 w.heap.size 59 [.int .i64 M.kind, .int .i64 M.endu, .slice aL n cL, .slice aS M.scr.length cS, .slice aD n cD] := by rw [hw1]; exact Bx.new w _ _
  have hB2 : Bx w2 w1.heap.size 59 [.int .i64 0, .int .i64 0, .slice none 0 0, .slice none 0 0, .slice none 0 0] := by rw [hw2]; exact Bx.new w1 _ _
  obtain ⟨b, hb⟩ : ∃ b, b = w.heap.size := ⟨_, rfl⟩
  have hs1 : w1.heap.size = b + 1 := by rw [hw1, hb]; simp
  have hs2 : w2.heap.size = b + 1 + 1 := by rw [hw2]; simp [hs1]
  rw [← hb] at hB1
  rw [hs1] at hB2
  have H1 := Lib.hid (hB1.call hA2)
  have H2 := Lib.hid hB2
  have HA := Lib.hid (hA1.trans (hA2.mono hA1.size))
  have HB := Lib.hid hb
  have HS := Lib.hid hs2
  have HW : Hid (((w.alloc (.cells #[.int .i64 M.kind, .int .i64 M.endu, .slice aL n cL, .slice aS M.scr.length cS, .slice aD n cD] 59)).alloc (.cells #[.int .i64 0, .int .i64 0, .slice none 0 0, .slice none 0 0, .slice none 0 0] 59)) = w2) := Lib.hid (by rw [hw2, hw1])
  clear hw1 hA1 hB1 hw2 hA2 hB2 hs1 hb
  have hsl : i < SS.length := by rw [HSN.out]; exact hi
  obtain ⟨bl, off, hcell⟩ := RdD.at (RdD.keep HL1.out HA.out)
  obtain ⟨ha, hrg⟩ := hcell i hsl
  have hix := fun w' => run_idxS Try.underlying56 Try.sizeRS (cap := cL) ha hi (i : Int) rfl w'
  have HY3 := Lib.hid (HL3.out i hsl)
  have HSY := HSM.out
  generalize hye : atD rz SS i = y at *
  have HYE := Lib.hid hye
  clear hye
  have x0 := hrg 0 _ rfl
  have x1 := hrg 1 _ rfl
  have x2 := hrg 2 _ rfl
  have x3 := hrg 3 (.slice y.ae y.ne y.ce) rfl
  have x4 := hrg 4 (.slice y.ac y.nc y.cc) rfl
  simp only [Nat.add_zero] at x0
  rw [HSY] at hst
  have hzs : ∀ W, (zeroValue 108).run Try.prog W = .ok (.agg #[.int .i64 0, .int .i64 0, .string ⟨#[]⟩, .slice none 0 0, .slice none 0 0]) W := fun _ => by kernel_rfl
  have HHA := Lib.hid ha
  clear ha hrg hcell HSM
  have hk0 : ((M.kind : Int) == 0) = false := by rw [hk]; rfl
  have hk1 : ((M.kind : Int) == 1) = true := by rw [hk]; rfl
  have hs0 : ((y.s.st : Int) == 0) = false := by rw [beq_eq_false_iff_ne]; omega
  clear hk hst
  have k0 := H1.out.cell (i := 0) rfl
  have k1 := H1.out.cell (i := 1) rfl
  have k2 := H1.out.cell (i := 2) rfl
  have k3 := H1.out.cell (i := 3) rfl
  have k4 := H1.out.cell (i := 4) rfl
  have z0 := H2.out.cell (i := 0) rfl
  have z1 := H2.out.cell (i := 1) rfl
  have z2 := H2.out.cell (i := 2) rfl
  have z3 := H2.out.cell (i := 3) rfl
  have z4 := H2.out.cell (i := 4) rfl
  have zf := H2.out.free
  unfold rmv
  go_enter Try.func48, Try.ntmps48
  go_upto_region 1 with (fail)
  rw [HW.out, ← HB.out]
  go_upto_region 4 with (fail)
  obtain ⟨w3, hw3⟩ : ∃ w3, w3 = w2.alloc (.cells #[.int .i64 y.s.st, .int .i64 y.s.cnt, .string (str y.s.raw), .slice y.ae y.ne y.ce, .slice y.ac y.nc y.cc] 108) := ⟨_, rfl⟩
  have hA3 := (Below.refl w2.heap.size w2).alloc (Nat.le_refl _) (.cells #[.int .i64 y.s.st, .int .i64 y.s.cnt, .string (str y.s.raw), .slice y.ae y.ne y.ce, .slice y.ac y.nc y.cc] 108)
  rw [← hw3] at hA3
  have hB3 : Bx w3 w2.heap.size 108 [.int .i64 y.s.st, .int .i64 y.s.cnt, .string (str y.s.raw), .slice y.ae y.ne y.ce, .slice y.ac y.nc y.cc] := by rw [hw3]; exact Bx.new w2 _ _
  rw [HS.out] at hB3
  have hs3 : w3.heap.size = b + 1 + 1 + 1 := by rw [hw3]; simp [HS.out]
  rw [← hw3]
  have H13 := Lib.hid (H1.out.call hA3)
  have H23 := Lib.hid (H2.out.call hA3)
  have H33 := Lib.hid hB3
  have HA3 := Lib.hid (HA.out.trans (hA3.mono HA.out.size))
  have HS3 := Lib.hid hs3
  clear hw3 hA3 hB3 k0 k1 k2 k3 k4 z0 z1 z2 z3 z4 zf hs2 x0 x1 x2 x3 x4
  have k0 := H13.out.cell (i := 0) rfl
  have k1 := H13.out.cell (i := 1) rfl
  have k2 := H13.out.cell (i := 2) rfl
  have k3 := H13.out.cell (i := 3) rfl
  have k4 := H13.out.cell (i := 4) rfl
  have z0 := H23.out.cell (i := 0) rfl
  have z1 := H23.out.cell (i := 1) rfl
  have z2 := H23.out.cell (i := 2) rfl
  have z3 := H23.out.cell (i := 3) rfl
  have z4 := H23.out.cell (i := 4) rfl
  have y0 := H33.out.cell (i := 0) rfl
  have y1 := H33.out.cell (i := 1) rfl
  have y2 := H33.out.cell (i := 2) rfl
  have y3 := H33.out.cell (i := 3) rfl
  have y4 := H33.out.cell (i := 4) rfl
  have zf := H23.out.free
  have yf := H33.out.free
  have hZ := (((((H23.out.set 0 (.int .i64 M.kind)).set 1 (.int .i64 M.endu)).set 2 (.slice aL n cL)).set 3 (.slice aS M.scr.length cS)).set 4 (.slice aD n cD))
  have HZ := Lib.hid hZ
  have HZb := Lib.hid (below5 HA3.out (g := b + 1) (by have := HB.out; omega) 0 1 2 3 4 (.int .i64 M.kind) (.int .i64 M.endu) (.slice aL n cL) (.slice aS M.scr.length cS) (.slice aD n cD))
  have q0 := hZ.cell (i := 0) rfl
  have q1 := hZ.cell (i := 1) rfl
  have q2 := hZ.cell (i := 2) rfl
  have q3 := hZ.cell (i := 3) rfl
  have q4 := hZ.cell (i := 4) rfl
  have HQ0 := Lib.hid q0
  have HQ1 := Lib.hid q1
  have HQ2 := Lib.hid q2
  have HQ3 := Lib.hid q3
  have HQ4 := Lib.hid q4
  clear q0 q1 q2 q3 q4 hZ
  go_wp2_with fail
  refine bodyPost_ret (v := .tuple #[rmv M (.slice aL n cL) (.slice aS M.scr.length cS) (.slice aD n cD), .int .i64 8]) (by simp [rmv, results, Try.results48, go_sem, HQ0.out, HQ1.out, HQ2.out, HQ3.out, HQ4.out]) rfl ?_
  exact ⟨_, _, _, SS, rfl, HF.out.res HZb.out, HZb.out⟩
set_option maxRecDepth 100000 in
set_option maxHeartbeats 4000000 in
theorem rrec_worn {w : World} {vL vS vD : Value} {M : Med} {P : Nat → Prop} {SS : List RS} (h : RmF P w vL vS vD M SS) (hn : M.n ≤ 4096) (hs : M.scr.length ≤ 256) {i : Nat} (hi : i < M.n) (st : Nat) (l : List UInt8) (hcn : (M.sec i).cnt ≤ 100000000) (hkp : M.kind ≠ 0) (hkst : M.kind = 1 → (M.sec i).st = 0) (hc : (M.sec i).cnt + 1 > M.endu) :
    Calls Try.prog 48 #[rmv M vL vS vD, .int .i64 (i : Nat), .int .i64 (st : Nat), .string (str l)] w (RmP (16, M.put i ⟨3, (M.sec i).cnt + 1, [], (M.sec i).er, fun _ => 0⟩) P w) := by
  have HF := Lib.hid h
  have hre := h.here
  obtain ⟨⟨aL, cL, rfl⟩, ⟨aS, cS, rfl⟩, aD, cD, rfl⟩ := hre.forms
  have HR := Lib.hid hre
  have hl1 := hre.l
  have hl2 := hre.e
  have hl3 := hre.x
  have hSn := hre.n
  have HSM := Lib.hid (Med.sec_map hl2 i)
  obtain ⟨n, hnn⟩ : ∃ n, n = M.n := ⟨_, rfl⟩
  rw [← hnn] at hl1 hSn hi hn HR HF ⊢
  have HNN := Lib.hid hnn
  have HL1 := Lib.hid hl1
  have HL2 := Lib.hid hl2
  have HL3 := Lib.hid hl3
  have HSN := Lib.hid hSn
  have hz := zeroRM
  clear hl1 hl2 hl3 hSn hnn hre h
  obtain ⟨w1, hw1⟩ : ∃ w1, w1 = w.alloc (.cells #[.int .i64 M.kind, .int .i64 M.endu, .slice aL n cL, .slice aS M.scr.length cS, .slice aD n cD] 59) := ⟨_, rfl⟩
  obtain ⟨w2, hw2⟩ : ∃ w2, w2 = w1.alloc (.cells #[.int .i64 0, .int .i64 0, .slice none 0 0, .slice none 0 0, .slice none 0 0] 59) := ⟨_, rfl⟩
  have hA1 := (Below.refl w.heap.size w).alloc (Nat.le_refl _) (.cells #[.int .i64 M.kind, .int .i64 M.endu, .slice aL n cL, .slice aS M.scr.length cS, .slice aD n cD] 59)
  rw [← hw1] at hA1
  have hA2 := (Below.refl w1.heap.size w1).alloc (Nat.le_refl _) (.cells #[.int .i64 0, .int .i64 0, .slice none 0 0, .slice none 0 0, .slice none 0 0] 59)
  rw [← hw2] at hA2
  have hB1 : Bx w1 w.heap.size 59 [.int .i64 M.kind, .int .i64 M.endu, .slice aL n cL, .slice aS M.scr.length cS, .slice aD n cD] := by rw [hw1]; exact Bx.new w _ _
  have hB2 : Bx w2 w1.heap.size 59 [.int .i64 0, .int .i64 0, .slice none 0 0, .slice none 0 0, .slice none 0 0] := by rw [hw2]; exact Bx.new w1 _ _
  obtain ⟨b, hb⟩ : ∃ b, b = w.heap.size := ⟨_, rfl⟩
  have hs1 : w1.heap.size = b + 1 := by rw [hw1, hb]; simp
  have hs2 : w2.heap.size = b + 1 + 1 := by rw [hw2]; simp [hs1]
  rw [← hb] at hB1
  rw [hs1] at hB2
  have H1 := Lib.hid (hB1.call hA2)
  have H2 := Lib.hid hB2
  have HA := Lib.hid (hA1.trans (hA2.mono hA1.size))
  have HB := Lib.hid hb
  have HS := Lib.hid hs2
  have HW : Hid (((w.alloc (.cells #[.int .i64 M.kind, .int .i64 M.endu, .slice aL n cL, .slice aS M.scr.length cS, .slice aD n cD] 59)).alloc (.cells #[.int .i64 0, .int .i64 0, .slice none 0 0, .slice none 0 0, .slice none 0 0] 59)) = w2) := Lib.hid (by rw [hw2, hw1])
  clear hw1 hA1 hB1 hw2 hA2 hB2 hs1 hb
  have hsl : i < SS.length := by rw [HSN.out]; exact hi
  obtain ⟨bl, off, hcell⟩ := RdD.at (RdD.keep HL1.out HA.out)
  obtain ⟨ha, hrg⟩ := hcell i hsl
  have hix := fun w' => run_idxS Try.underlying56 Try.sizeRS (cap := cL) ha hi (i : Int) rfl w'
  have HY3 := Lib.hid (HL3.out i hsl)
  have HSY := HSM.out
  generalize hye : atD rz SS i = y at *
  have HYE := Lib.hid hye
  clear hye
  have x0 := hrg 0 _ rfl
  have x1 := hrg 1 _ rfl
  have x2 := hrg 2 _ rfl
  have x3 := hrg 3 (.slice y.ae y.ne y.ce) rfl
  have x4 := hrg 4 (.slice y.ac y.nc y.cc) rfl
  simp only [Nat.add_zero] at x0
  rw [HSY] at hc hkst hcn
  rw [HSY]
  have hzs : ∀ W, (zeroValue 108).run Try.prog W = .ok (.agg #[.int .i64 0, .int .i64 0, .string ⟨#[]⟩, .slice none 0 0, .slice none 0 0]) W := fun _ => by kernel_rfl
  have HHA := Lib.hid ha
  clear ha hrg hcell HSM
  have hk0 : ((M.kind : Int) == 0) = false := by rw [beq_eq_false_iff_ne]; omega
  have hkst2 : ((M.kind : Int) == 1) = false ∨ ((M.kind : Int) == 1) = true ∧ ((y.s.st : Int) != 0) = false := by
    by_cases h1 : M.kind = 1
    · exact .inr ⟨by rw [h1]; rfl, by have := hkst h1; rw [this]; rfl⟩
    · exact .inl (by rw [beq_eq_false_iff_ne]; omega)
  have hw1 : IntKind.i64.wrap ((y.s.cnt : Int) + 1) = (y.s.cnt : Int) + 1 := IntWalk.i64_in _ (by omega)
  clear hkst
  have hg : decide ((M.endu : Int) < (y.s.cnt : Int) + 1) = true := by rw [decide_eq_true_eq]; omega
  have k0 := H1.out.cell (i := 0) rfl
  have k1 := H1.out.cell (i := 1) rfl
  have k2 := H1.out.cell (i := 2) rfl
  have k3 := H1.out.cell (i := 3) rfl
  have k4 := H1.out.cell (i := 4) rfl
  have z0 := H2.out.cell (i := 0) rfl
  have z1 := H2.out.cell (i := 1) rfl
  have z2 := H2.out.cell (i := 2) rfl
  have z3 := H2.out.cell (i := 3) rfl
  have z4 := H2.out.cell (i := 4) rfl
  have zf := H2.out.free
  rcases hkst2 with hk1 | ⟨hk1, hs0⟩
  all_goals
    unfold rmv
    go_enter Try.func48, Try.ntmps48
    go_upto_region 1 with (fail)
    rw [HW.out, ← HB.out]
    go_upto_region 4 with (fail)
    obtain ⟨w3, hw3⟩ : ∃ w3, w3 = w2.alloc (.cells #[.int .i64 y.s.st, .int .i64 y.s.cnt, .string (str y.s.raw), .slice y.ae y.ne y.ce, .slice y.ac y.nc y.cc] 108) := ⟨_, rfl⟩
    have hA3 := (Below.refl w2.heap.size w2).alloc (Nat.le_refl _) (.cells #[.int .i64 y.s.st, .int .i64 y.s.cnt, .string (str y.s.raw), .slice y.ae y.ne y.ce, .slice y.ac y.nc y.cc] 108)
    rw [← hw3] at hA3
    have hB3 : Bx w3 w2.heap.size 108 [.int .i64 y.s.st, .int .i64 y.s.cnt, .string (str y.s.raw), .slice y.ae y.ne y.ce, .slice y.ac y.nc y.cc] := by rw [hw3]; exact Bx.new w2 _ _
    rw [HS.out] at hB3
    have hs3 : w3.heap.size = b + 1 + 1 + 1 := by rw [hw3]; simp [HS.out]
    rw [← hw3]
    have H13 := Lib.hid (H1.out.call hA3)
    have H23 := Lib.hid (H2.out.call hA3)
    have H33 := Lib.hid hB3
    have HA3 := Lib.hid (HA.out.trans (hA3.mono HA.out.size))
    have HS3 := Lib.hid hs3
    clear hw3 hA3 hB3 k0 k1 k2 k3 k4 z0 z1 z2 z3 z4 zf hs2 x0 x1 x2 x3 x4
    have k0 := H13.out.cell (i := 0) rfl
    have k1 := H13.out.cell (i := 1) rfl
    have k2 := H13.out.cell (i := 2) rfl
    have k3 := H13.out.cell (i := 3) rfl
    have k4 := H13.out.cell (i := 4) rfl
    have z0 := H23.out.cell (i := 0) rfl
    have z1 := H23.out.cell (i := 1) rfl
    have z2 := H23.out.cell (i := 2) rfl
    have z3 := H23.out.cell (i := 3) rfl
    have z4 := H23.out.cell (i := 4) rfl
    have y0 := H33.out.cell (i := 0) rfl
    have y1 := H33.out.cell (i := 1) rfl
    have y2 := H33.out.cell (i := 2) rfl
    have y3 := H33.out.cell (i := 3) rfl
    have y4 := H33.out.cell (i := 4) rfl
    have zf := H23.out.free
    have yf := H33.out.free
    go_upto_region 9 with (fail)
    have hY1 := ((((H13.out.far (p := ⟨b + 1 + 1, 1, none⟩) (by simp only; omega) (.int .i64 ((y.s.cnt : Int) + 1))).far (p := ⟨b + 1 + 1, 4, none⟩) (by simp only; omega) (.slice none 0 0)).far (p := ⟨b + 1 + 1, 0, none⟩) (by simp only; omega) (.int .i64 3)).far (p := ⟨b + 1 + 1, 2, none⟩) (by simp only; omega) (.string ⟨#[]⟩))
    have hY2 := ((((H23.out.far (p := ⟨b + 1 + 1, 1, none⟩) (by simp only; omega) (.int .i64 ((y.s.cnt : Int) + 1))).far (p := ⟨b + 1 + 1, 4, none⟩) (by simp only; omega) (.slice none 0 0)).far (p := ⟨b + 1 + 1, 0, none⟩) (by simp only; omega) (.int .i64 3)).far (p := ⟨b + 1 + 1, 2, none⟩) (by simp only; omega) (.string ⟨#[]⟩))
    have hY3 := ((((H33.out.set 1 (.int .i64 ((y.s.cnt : Int) + 1))).set 4 (.slice none 0 0)).set 0 (.int .i64 3)).set 2 (.string ⟨#[]⟩))
    have hYb := ((((HA3.out.setCell (p := ⟨b + 1 + 1, 1, none⟩) (by have := HB.out; simp only; omega) (.int .i64 ((y.s.cnt : Int) + 1))).setCell (p := ⟨b + 1 + 1, 4, none⟩) (by have := HB.out; simp only; omega) (.slice none 0 0)).setCell (p := ⟨b + 1 + 1, 0, none⟩) (by have := HB.out; simp only; omega) (.int .i64 3)).setCell (p := ⟨b + 1 + 1, 2, none⟩) (by have := HB.out; simp only; omega) (.string ⟨#[]⟩))
    obtain ⟨w4, hw4⟩ : ∃ w4, w4 = ((((w3.setCell ⟨b + 1 + 1, 1, none⟩ (.int .i64 ((y.s.cnt : Int) + 1))).setCell ⟨b + 1 + 1, 4, none⟩ (.slice none 0 0)).setCell ⟨b + 1 + 1, 0, none⟩ (.int .i64 3)).setCell ⟨b + 1 + 1, 2, none⟩ (.string ⟨#[]⟩)) := ⟨_, rfl⟩
    rw [← hw4] at hY1 hY2 hY3 hYb ⊢
    have HK1 := Lib.hid hY1
    have HK2 := Lib.hid hY2
    have HK3 := Lib.hid hY3
    have HKb := Lib.hid hYb
    clear hY1 hY2 hY3 hYb hw4 k0 k1 k2 k3 k4 z0 z1 z2 z3 z4 zf y0 y1 y2 y3 y4 yf
    have k0 := HK1.out.cell (i := 0) rfl
    have k1 := HK1.out.cell (i := 1) rfl
    have k2 := HK1.out.cell (i := 2) rfl
    have k3 := HK1.out.cell (i := 3) rfl
    have k4 := HK1.out.cell (i := 4) rfl
    have y0 := HK3.out.cell (i := 0) rfl
    have y1 := HK3.out.cell (i := 1) rfl
    have y2 := HK3.out.cell (i := 2) rfl
    have y3 := HK3.out.cell (i := 3) rfl
    have y4 := HK3.out.cell (i := 4) rfl
    have HSET : Hid (Calls Try.prog 49 #[rmv M (.slice aL n cL) (.slice aS M.scr.length cS) (.slice aD n cD), .int .i64 (i : Nat), .agg #[.int .i64 3, .int .i64 ((y.s.cnt : Int) + 1), .string ⟨#[]⟩, .slice y.ae y.ne y.ce, .slice none 0 0]] w4 (SetP M SS i ⟨⟨3, y.s.cnt + 1, [], y.s.er, fun _ => 0⟩, y.ae, y.ne, y.ce, none, 0, 0⟩ (.slice aS M.scr.length cS) (.slice aD n cD) w4)) := Lib.hid (rset12 (HR.out.keep HKb.out) (by rw [← HNN.out]; exact hn) (by rw [← HNN.out]; exact hi) ⟨⟨3, y.s.cnt + 1, [], y.s.er, fun _ => 0⟩, y.ae, y.ne, y.ce, none, 0, 0⟩)
    unfold rmv at HSET
    go_wp2_with fail
    refine HSET.out.mono ?_
    rintro e w5 ⟨a5, c5, rfl, ho5, hb5⟩
    have hlt4 : b + 1 + 1 < w4.heap.size := HK3.out.lt
    have hst5 := (ownD_far (ownD_far (ownD_far (ownD_far (ownD_far ho5 (p := ⟨b + 1, 0, none⟩) (by simp only; omega) (.int .i64 (M.put i ⟨3, y.s.cnt + 1, [], y.s.er, fun _ => 0⟩).kind)) (p := ⟨b + 1, 1, none⟩) (by simp only; omega) (.int .i64 (M.put i ⟨3, y.s.cnt + 1, [], y.s.er, fun _ => 0⟩).endu)) (p := ⟨b + 1, 2, none⟩) (by simp only; omega) (.slice a5 M.n c5)) (p := ⟨b + 1, 3, none⟩) (by simp only; omega) (.slice aS M.scr.length cS)) (p := ⟨b + 1, 4, none⟩) (by simp only; omega) (.slice aD n cD))
    have HZo := Lib.hid hst5
    have hA5 := HKb.out.trans (hb5.mono HKb.out.size)
    have hB5 := HK2.out.call hb5
    have HA5 := Lib.hid hA5
    have HB5 := Lib.hid hB5
    have hnn := HNN.out
    unfold rmv
    rw [← hnn]
    rw [← hnn] at HZo
    clear hst5 ho5 hb5 hA5 hB5 hnn k0 k1 k2 k3 k4 y0 y1 y2 y3 y4
    have z0 := HB5.out.cell (i := 0) rfl
    have z1 := HB5.out.cell (i := 1) rfl
    have z2 := HB5.out.cell (i := 2) rfl
    have z3 := HB5.out.cell (i := 3) rfl
    have z4 := HB5.out.cell (i := 4) rfl
    have zf := HB5.out.free
    have hZ := (((((HB5.out.set 0 (.int .i64 (M.put i ⟨3, y.s.cnt + 1, [], y.s.er, fun _ => 0⟩).kind)).set 1 (.int .i64 (M.put i ⟨3, y.s.cnt + 1, [], y.s.er, fun _ => 0⟩).endu)).set 2 (.slice a5 n c5)).set 3 (.slice aS M.scr.length cS)).set 4 (.slice aD n cD))
    have HZ := Lib.hid hZ
    have HZb := Lib.hid (below5 HA5.out (g := b + 1) (by have := HB.out; omega) 0 1 2 3 4 (.int .i64 (M.put i ⟨3, y.s.cnt + 1, [], y.s.er, fun _ => 0⟩).kind) (.int .i64 (M.put i ⟨3, y.s.cnt + 1, [], y.s.er, fun _ => 0⟩).endu) (.slice a5 n c5) (.slice aS M.scr.length cS) (.slice aD n cD))
    have q0 := hZ.cell (i := 0) rfl
    have q1 := hZ.cell (i := 1) rfl
    have q2 := hZ.cell (i := 2) rfl
    have q3 := hZ.cell (i := 3) rfl
    have q4 := hZ.cell (i := 4) rfl
    have HQ0 := Lib.hid q0
    have HQ1 := Lib.hid q1
    have HQ2 := Lib.hid q2
    have HQ3 := Lib.hid q3
    have HQ4 := Lib.hid q4
    clear q0 q1 q2 q3 q4 hZ
    go_wp2_with fail
    refine bodyPost_ret (v := .tuple #[rmv (M.put i ⟨3, y.s.cnt + 1, [], y.s.er, fun _ => 0⟩) (.slice a5 n c5) (.slice aS M.scr.length cS) (.slice aD n cD), .int .i64 16]) (by simp [rmv, results, Try.results48, go_sem, HQ0.out, HQ1.out, HQ2.out, HQ3.out, HQ4.out]) rfl ?_
    refine ⟨_, _, _, SS.set i ⟨⟨3, y.s.cnt + 1, [], y.s.er, fun _ => 0⟩, y.ae, y.ne, y.ce, none, 0, 0⟩, rfl, RmF.set HF.out (by rw [← HNN.out]; exact hi) HZb.out (base := w4.heap.size) (by have := HB.out; have := HK3.out.lt; omega) (fun W hW hag => ?_) (by rw [← HNN.out]; exact HZo.out), HZb.out⟩
    have hy3 : RsW W y := by have := hW.x i (by rw [HSN.out]; exact hi); rwa [HYE.out] at this
    exact ⟨by obtain ⟨l1, e1, e2⟩ := hy3.e; exact ⟨l1, e1, e2⟩, [], Rd.nil _, .inl ⟨rfl, fun _ _ => rfl⟩⟩
set_option maxRecDepth 100000 in
set_option maxHeartbeats 4000000 in
theorem rrec_ok {w : World} {vL vS vD : Value} {M : Med} {P : Nat → Prop} {SS : List RS} (h : RmF P w vL vS vD M SS) (hn : M.n ≤ 4096) (hs : M.scr.length ≤ 256) {i : Nat} (hi : i < M.n) (st : Nat) (l : List UInt8) (hcn : (M.sec i).cnt ≤ 100000000) (hkp : M.kind ≠ 0) (hkst : M.kind = 1 → (M.sec i).st = 0) (hc : ¬ (M.sec i).cnt + 1 > M.endu) :
    Calls Try.prog 48 #[rmv M vL vS vD, .int .i64 (i : Nat), .int .i64 (st : Nat), .string (str l)] w (RmP (0, M.put i ⟨st, (M.sec i).cnt + 1, l, (M.sec i).er, fun _ => 0⟩) P w) := by
  have HF := Lib.hid h
  have hre := h.here
  obtain ⟨⟨aL, cL, rfl⟩, ⟨aS, cS, rfl⟩, aD, cD, rfl⟩ := hre.forms
  have HR := Lib.hid hre
  have hl1 := hre.l
  have hl2 := hre.e
  have hl3 := hre.x
  have hSn := hre.n
  have HSM := Lib.hid (Med.sec_map hl2 i)
  obtain ⟨n, hnn⟩ : ∃ n, n = M.n := ⟨_, rfl⟩
  rw [← hnn] at hl1 hSn hi hn HR HF ⊢
  have HNN := Lib.hid hnn
  have HL1 := Lib.hid hl1
  have HL2 := Lib.hid hl2
  have HL3 := Lib.hid hl3
  have HSN := Lib.hid hSn
  have hz := zeroRM
  clear hl1 hl2 hl3 hSn hnn hre h
  obtain ⟨w1, hw1⟩ : ∃ w1, w1 = w.alloc (.cells #[.int .i64 M.kind, .int .i64 M.endu, .slice aL n cL, .slice aS M.scr.length cS, .slice aD n cD] 59) := ⟨_, rfl⟩
  obtain ⟨w2, hw2⟩ : ∃ w2, w2 = w1.alloc (.cells #[.int .i64 0, .int .i64 0, .slice none 0 0, .slice none 0 0, .slice none 0 0] 59) := ⟨_, rfl⟩
  have hA1 := (Below.refl w.heap.size w).alloc (Nat.le_refl _) (.cells #[.int .i64 M.kind, .int .i64 M.endu, .slice aL n cL, .slice aS M.scr.length cS, .slice aD n cD] 59)
  rw [← hw1] at hA1
  have hA2 := (Below.refl w1.heap.size w1).alloc (Nat.le_refl _) (.cells #[.int .i64 0, .int .i64 0, .slice none 0 0, .slice none 0 0, .slice none 0 0] 59)
  rw [← hw2] at hA2
  have hB1 : Bx w1 w.heap.size 59 [.int .i64 M.kind, .int .i64 M.endu, .slice aL n cL, .slice aS M.scr.length cS, .slice aD n cD] := by rw [hw1]; exact Bx.new w _ _
  have hB2 : Bx w2 w1.heap.size 59 [.int .i64 0, .int .i64 0, .slice none 0 0, .slice none 0 0, .slice none 0 0] := by rw [hw2]; exact Bx.new w1 _ _
  obtain ⟨b, hb⟩ : ∃ b, b = w.heap.size := ⟨_, rfl⟩
  have hs1 : w1.heap.size = b + 1 := by rw [hw1, hb]; simp
  have hs2 : w2.heap.size = b + 1 + 1 := by rw [hw2]; simp [hs1]
  rw [← hb] at hB1
  rw [hs1] at hB2
  have H1 := Lib.hid (hB1.call hA2)
  have H2 := Lib.hid hB2
  have HA := Lib.hid (hA1.trans (hA2.mono hA1.size))
  have HB := Lib.hid hb
  have HS := Lib.hid hs2
  have HW : Hid (((w.alloc (.cells #[.int .i64 M.kind, .int .i64 M.endu, .slice aL n cL, .slice aS M.scr.length cS, .slice aD n cD] 59)).alloc (.cells #[.int .i64 0, .int .i64 0, .slice none 0 0, .slice none 0 0, .slice none 0 0] 59)) = w2) := Lib.hid (by rw [hw2, hw1])
  clear hw1 hA1 hB1 hw2 hA2 hB2 hs1 hb
  have hsl : i < SS.length := by rw [HSN.out]; exact hi
  obtain ⟨bl, off, hcell⟩ := RdD.at (RdD.keep HL1.out HA.out)
  obtain ⟨ha, hrg⟩ := hcell i hsl
  have hix := fun w' => run_idxS Try.underlying56 Try.sizeRS (cap := cL) ha hi (i : Int) rfl w'
  have HY3 := Lib.hid (HL3.out i hsl)
  have HSY := HSM.out
  generalize hye : atD rz SS i = y at *
  have HYE := Lib.hid hye
  clear hye
  have x0 := hrg 0 _ rfl
  have x1 := hrg 1 _ rfl
  have x2 := hrg 2 _ rfl
  have x3 := hrg 3 (.slice y.ae y.ne y.ce) rfl
  have x4 := hrg 4 (.slice y.ac y.nc y.cc) rfl
  simp only [Nat.add_zero] at x0
  rw [HSY] at hc hkst hcn
  rw [HSY]
  have hzs : ∀ W, (zeroValue 108).run Try.prog W = .ok (.agg #[.int .i64 0, .int .i64 0, .string ⟨#[]⟩, .slice none 0 0, .slice none 0 0]) W := fun _ => by kernel_rfl
  have HHA := Lib.hid ha
  clear ha hrg hcell HSM
  have hk0 : ((M.kind : Int) == 0) = false := by rw [beq_eq_false_iff_ne]; omega
  have hkst2 : ((M.kind : Int) == 1) = false ∨ ((M.kind : Int) == 1) = true ∧ ((y.s.st : Int) != 0) = false := by
    by_cases h1 : M.kind = 1
    · exact .inr ⟨by rw [h1]; rfl, by have := hkst h1; rw [this]; rfl⟩
    · exact .inl (by rw [beq_eq_false_iff_ne]; omega)
  have hw1 : IntKind.i64.wrap ((y.s.cnt : Int) + 1) = (y.s.cnt : Int) + 1 := IntWalk.i64_in _ (by omega)
  clear hkst
  have hg : decide ((M.endu : Int) < (y.s.cnt : Int) + 1) = false := by rw [decide_eq_false_iff_not]; omega
  have k0 := H1.out.cell (i := 0) rfl
  have k1 := H1.out.cell (i := 1) rfl
  have k2 := H1.out.cell (i := 2) rfl
  have k3 := H1.out.cell (i := 3) rfl
  have k4 := H1.out.cell (i := 4) rfl
  have z0 := H2.out.cell (i := 0) rfl
  have z1 := H2.out.cell (i := 1) rfl
  have z2 := H2.out.cell (i := 2) rfl
  have z3 := H2.out.cell (i := 3) rfl
  have z4 := H2.out.cell (i := 4) rfl
  have zf := H2.out.free
  rcases hkst2 with hk1 | ⟨hk1, hs0⟩
  all_goals
    unfold rmv
    go_enter Try.func48, Try.ntmps48
    go_upto_region 1 with (fail)
    rw [HW.out, ← HB.out]
    go_upto_region 4 with (fail)
    obtain ⟨w3, hw3⟩ : ∃ w3, w3 = w2.alloc (.cells #[.int .i64 y.s.st, .int .i64 y.s.cnt, .string (str y.s.raw), .slice y.ae y.ne y.ce, .slice y.ac y.nc y.cc] 108) := ⟨_, rfl⟩
    have hA3 := (Below.refl w2.heap.size w2).alloc (Nat.le_refl _) (.cells #[.int .i64 y.s.st, .int .i64 y.s.cnt, .string (str y.s.raw), .slice y.ae y.ne y.ce, .slice y.ac y.nc y.cc] 108)
    rw [← hw3] at hA3
    have hB3 : Bx w3 w2.heap.size 108 [.int .i64 y.s.st, .int .i64 y.s.cnt, .string (str y.s.raw), .slice y.ae y.ne y.ce, .slice y.ac y.nc y.cc] := by rw [hw3]; exact Bx.new w2 _ _
    rw [HS.out] at hB3
    have hs3 : w3.heap.size = b + 1 + 1 + 1 := by rw [hw3]; simp [HS.out]
    rw [← hw3]
    have H13 := Lib.hid (H1.out.call hA3)
    have H23 := Lib.hid (H2.out.call hA3)
    have H33 := Lib.hid hB3
    have HA3 := Lib.hid (HA.out.trans (hA3.mono HA.out.size))
    have HS3 := Lib.hid hs3
    clear hw3 hA3 hB3 k0 k1 k2 k3 k4 z0 z1 z2 z3 z4 zf hs2 x0 x1 x2 x3 x4
    have k0 := H13.out.cell (i := 0) rfl
    have k1 := H13.out.cell (i := 1) rfl
    have k2 := H13.out.cell (i := 2) rfl
    have k3 := H13.out.cell (i := 3) rfl
    have k4 := H13.out.cell (i := 4) rfl
    have z0 := H23.out.cell (i := 0) rfl
    have z1 := H23.out.cell (i := 1) rfl
    have z2 := H23.out.cell (i := 2) rfl
    have z3 := H23.out.cell (i := 3) rfl
    have z4 := H23.out.cell (i := 4) rfl
    have y0 := H33.out.cell (i := 0) rfl
    have y1 := H33.out.cell (i := 1) rfl
    have y2 := H33.out.cell (i := 2) rfl
    have y3 := H33.out.cell (i := 3) rfl
    have y4 := H33.out.cell (i := 4) rfl
    have zf := H23.out.free
    have yf := H33.out.free
    go_upto_region 11 with (fail)
    have hY1 := ((((H13.out.far (p := ⟨b + 1 + 1, 1, none⟩) (by simp only; omega) (.int .i64 ((y.s.cnt : Int) + 1))).far (p := ⟨b + 1 + 1, 4, none⟩) (by simp only; omega) (.slice none 0 0)).far (p := ⟨b + 1 + 1, 0, none⟩) (by simp only; omega) (.int .i64 st)).far (p := ⟨b + 1 + 1, 2, none⟩) (by simp only; omega) (.string (str l)))
    have hY2 := ((((H23.out.far (p := ⟨b + 1 + 1, 1, none⟩) (by simp only; omega) (.int .i64 ((y.s.cnt : Int) + 1))).far (p := ⟨b + 1 + 1, 4, none⟩) (by simp only; omega) (.slice none 0 0)).far (p := ⟨b + 1 + 1, 0, none⟩) (by simp only; omega) (.int .i64 st)).far (p := ⟨b + 1 + 1, 2, none⟩) (by simp only; omega) (.string (str l)))
    have hY3 := ((((H33.out.set 1 (.int .i64 ((y.s.cnt : Int) + 1))).set 4 (.slice none 0 0)).set 0 (.int .i64 st)).set 2 (.string (str l)))
    have hYb := ((((HA3.out.setCell (p := ⟨b + 1 + 1, 1, none⟩) (by have := HB.out; simp only; omega) (.int .i64 ((y.s.cnt : Int) + 1))).setCell (p := ⟨b + 1 + 1, 4, none⟩) (by have := HB.out; simp only; omega) (.slice none 0 0)).setCell (p := ⟨b + 1 + 1, 0, none⟩) (by have := HB.out; simp only; omega) (.int .i64 st)).setCell (p := ⟨b + 1 + 1, 2, none⟩) (by have := HB.out; simp only; omega) (.string (str l)))
    obtain ⟨w4, hw4⟩ : ∃ w4, w4 = ((((w3.setCell ⟨b + 1 + 1, 1, none⟩ (.int .i64 ((y.s.cnt : Int) + 1))).setCell ⟨b + 1 + 1, 4, none⟩ (.slice none 0 0)).setCell ⟨b + 1 + 1, 0, none⟩ (.int .i64 st)).setCell ⟨b + 1 + 1, 2, none⟩ (.string (str l))) := ⟨_, rfl⟩
    rw [← hw4] at hY1 hY2 hY3 hYb ⊢
    have HK1 := Lib.hid hY1
    have HK2 := Lib.hid hY2
    have HK3 := Lib.hid hY3
    have HKb := Lib.hid hYb
    clear hY1 hY2 hY3 hYb hw4 k0 k1 k2 k3 k4 z0 z1 z2 z3 z4 zf y0 y1 y2 y3 y4 yf
    have k0 := HK1.out.cell (i := 0) rfl
    have k1 := HK1.out.cell (i := 1) rfl
    have k2 := HK1.out.cell (i := 2) rfl
    have k3 := HK1.out.cell (i := 3) rfl
    have k4 := HK1.out.cell (i := 4) rfl
    have y0 := HK3.out.cell (i := 0) rfl
    have y1 := HK3.out.cell (i := 1) rfl
    have y2 := HK3.out.cell (i := 2) rfl
    have y3 := HK3.out.cell (i := 3) rfl
    have y4 := HK3.out.cell (i := 4) rfl
    have HSET : Hid (Calls Try.prog 49 #[rmv M (.slice aL n cL) (.slice aS M.scr.length cS) (.slice aD n cD), .int .i64 (i : Nat), .agg #[.int .i64 st, .int .i64 ((y.s.cnt : Int) + 1), .string (str l), .slice y.ae y.ne y.ce, .slice none 0 0]] w4 (SetP M SS i ⟨⟨st, y.s.cnt + 1, l, y.s.er, fun _ => 0⟩, y.ae, y.ne, y.ce, none, 0, 0⟩ (.slice aS M.scr.length cS) (.slice aD n cD) w4)) := Lib.hid (rset12 (HR.out.keep HKb.out) (by rw [← HNN.out]; exact hn) (by rw [← HNN.out]; exact hi) ⟨⟨st, y.s.cnt + 1, l, y.s.er, fun _ => 0⟩, y.ae, y.ne, y.ce, none, 0, 0⟩)
    unfold rmv at HSET
    go_wp2_with fail
    refine HSET.out.mono ?_
    rintro e w5 ⟨a5, c5, rfl, ho5, hb5⟩
    have hlt4 : b + 1 + 1 < w4.heap.size := HK3.out.lt
    have hst5 := (ownD_far (ownD_far (ownD_far (ownD_far (ownD_far ho5 (p := ⟨b + 1, 0, none⟩) (by simp only; omega) (.int .i64 (M.put i ⟨st, y.s.cnt + 1, l, y.s.er, fun _ => 0⟩).kind)) (p := ⟨b + 1, 1, none⟩) (by simp only; omega) (.int .i64 (M.put i ⟨st, y.s.cnt + 1, l, y.s.er, fun _ => 0⟩).endu)) (p := ⟨b + 1, 2, none⟩) (by simp only; omega) (.slice a5 M.n c5)) (p := ⟨b + 1, 3, none⟩) (by simp only; omega) (.slice aS M.scr.length cS)) (p := ⟨b + 1, 4, none⟩) (by simp only; omega) (.slice aD n cD))
    have HZo := Lib.hid hst5
    have hA5 := HKb.out.trans (hb5.mono HKb.out.size)
    have hB5 := HK2.out.call hb5
    have HA5 := Lib.hid hA5
    have HB5 := Lib.hid hB5
    have hnn := HNN.out
    unfold rmv
    rw [← hnn]
    rw [← hnn] at HZo
    clear hst5 ho5 hb5 hA5 hB5 hnn k0 k1 k2 k3 k4 y0 y1 y2 y3 y4
    have z0 := HB5.out.cell (i := 0) rfl
    have z1 := HB5.out.cell (i := 1) rfl
    have z2 := HB5.out.cell (i := 2) rfl
    have z3 := HB5.out.cell (i := 3) rfl
    have z4 := HB5.out.cell (i := 4) rfl
    have zf := HB5.out.free
    have hZ := (((((HB5.out.set 0 (.int .i64 (M.put i ⟨st, y.s.cnt + 1, l, y.s.er, fun _ => 0⟩).kind)).set 1 (.int .i64 (M.put i ⟨st, y.s.cnt + 1, l, y.s.er, fun _ => 0⟩).endu)).set 2 (.slice a5 n c5)).set 3 (.slice aS M.scr.length cS)).set 4 (.slice aD n cD))
    have HZ := Lib.hid hZ
    have HZb := Lib.hid (below5 HA5.out (g := b + 1) (by have := HB.out; omega) 0 1 2 3 4 (.int .i64 (M.put i ⟨st, y.s.cnt + 1, l, y.s.er, fun _ => 0⟩).kind) (.int .i64 (M.put i ⟨st, y.s.cnt + 1, l, y.s.er, fun _ => 0⟩).endu) (.slice a5 n c5) (.slice aS M.scr.length cS) (.slice aD n cD))
    have q0 := hZ.cell (i := 0) rfl
    have q1 := hZ.cell (i := 1) rfl
    have q2 := hZ.cell (i := 2) rfl
    have q3 := hZ.cell (i := 3) rfl
    have q4 := hZ.cell (i := 4) rfl
    have HQ0 := Lib.hid q0
    have HQ1 := Lib.hid q1
    have HQ2 := Lib.hid q2
    have HQ3 := Lib.hid q3
    have HQ4 := Lib.hid q4
    clear q0 q1 q2 q3 q4 hZ
    go_wp2_with fail
    refine bodyPost_ret (v := .tuple #[rmv (M.put i ⟨st, y.s.cnt + 1, l, y.s.er, fun _ => 0⟩) (.slice a5 n c5) (.slice aS M.scr.length cS) (.slice aD n cD), .int .i64 0]) (by simp [rmv, results, Try.results48, go_sem, HQ0.out, HQ1.out, HQ2.out, HQ3.out, HQ4.out]) rfl ?_
    refine ⟨_, _, _, SS.set i ⟨⟨st, y.s.cnt + 1, l, y.s.er, fun _ => 0⟩, y.ae, y.ne, y.ce, none, 0, 0⟩, rfl, RmF.set HF.out (by rw [← HNN.out]; exact hi) HZb.out (base := w4.heap.size) (by have := HB.out; have := HK3.out.lt; omega) (fun W hW hag => ?_) (by rw [← HNN.out]; exact HZo.out), HZb.out⟩
    have hy3 : RsW W y := by have := hW.x i (by rw [HSN.out]; exact hi); rwa [HYE.out] at this
    exact ⟨by obtain ⟨l1, e1, e2⟩ := hy3.e; exact ⟨l1, e1, e2⟩, [], Rd.nil _, .inl ⟨rfl, fun _ _ => rfl⟩⟩
/-- 'recorded' -/
theorem rrec12 {w : World} {vL vS vD : Value} {M : Med} {P : Nat → Prop} {SS : List RS} (h : RmF P w vL vS vD M SS) (hn : M.n ≤ 4096) (hs : M.scr.length ≤ 256) {i : Nat} (hi : i < M.n) (st : Nat) (l : List UInt8) (hcn : (M.sec i).cnt ≤ 100000000) : Calls Try.prog 48 #[rmv M vL vS vD, .int .i64 (i : Nat), .int .i64 (st : Nat), .string (str l)] w (RmP (M.write i st l) P w) := by
  unfold Med.write
  by_cases h0 : M.kind = 0
  · rw [if_pos h0]; exact rrec_pressed h hn hs hi st l h0
  rw [if_neg h0]
  by_cases h1 : M.kind = 1 ∧ (M.sec i).st ≠ 0
  · rw [if_pos h1]; exact rrec_once h hn hs hi st l h1.1 h1.2
  rw [if_neg h1]
  have hks : M.kind = 1 → (M.sec i).st = 0 := fun e => by
    by_cases hz : (M.sec i).st = 0
    · exact hz
    · exact absurd ⟨e, hz⟩ h1
  by_cases h2 : (M.sec i).cnt + 1 > M.endu
  · rw [if_pos h2]; exact rrec_worn h hn hs hi st l hcn h0 hks h2
  · rw [if_neg h2]; exact rrec_ok h hn hs hi st l hcn h0 hks h2
end Go.Proofs.Ytpncjadhpnapnaa.D12
