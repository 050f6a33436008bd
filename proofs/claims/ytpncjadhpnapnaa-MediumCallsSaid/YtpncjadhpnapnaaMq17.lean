/- Chapter 12: the reference walked: Record, Tear, Erase. -/
import Derived.Test.YtpncjadhpnapnaaMq16
namespace Go.Proofs.Ytpncjadhpnapnaa.D12
open Go.RowKit Go.Maps C9
open D13 (RdI ixI is)
set_option linter.unusedVariables false

set_option maxRecDepth 100000 in
set_option maxHeartbeats 4000000 in
theorem rrecord_range {w : World} {vL vS vD : Value} {M : Med} {P : Nat → Prop} {SS : List RS} (h : RmF P w vL vS vD M SS) (hn : M.n ≤ 4096) (hs : M.scr.length ≤ 256) (a : Int) (ha : In64 a) (l : List UInt8) (hl : l.length ≤ 4096) (hr : ¬ (0 ≤ a ∧ a < M.n)) :
    Calls Try.prog 24 #[rmv M vL vS vD, .int .i64 a, .string (str l)] w (RmP (2, M) P w) := by
  have HF := Lib.hid h
  have hre := h.here
  obtain ⟨⟨aL, cL, rfl⟩, ⟨aS, cS, rfl⟩, aD, cD, rfl⟩ := hre.forms
  have HR := Lib.hid hre
  have hl1 := hre.l
  have hl2 := hre.e
  have hl3 := hre.x
  have hSn := hre.n
  obtain ⟨n, hnn⟩ : ∃ n, n = M.n := ⟨_, rfl⟩
  rw [← hnn] at hl1 hSn hr hn HR HF ⊢
  have HNN := Lib.hid hnn
  have HL1 := Lib.hid hl1
  have HL2 := Lib.hid hl2
  have HL3 := Lib.hid hl3
  have HSN := Lib.hid hSn
  have hz := zeroRM
  clear hl1 hl2 hl3 hSn hnn hre h
  obtain ⟨w1, hw1⟩ : ∃ w1, w1 = w.alloc (.cells #[.int .i64 M.kind, .int .i64 M.endu, .slice aL n cL, .slice aS M.scr.length cS, .slice aD n cD] 59) := ⟨_, rfl⟩
  obtain ⟨w2, hw2⟩ : ∃ w2, w2 = w1.alloc (.cells #[.int .i64 0, .int .i64 0, .slice none 0 0, .slice none 0 0, .slice none 0 0] 59) := ⟨_, rfl⟩
  have hA1 := (Below.refl w.heap.size w).alloc (Nat.le_refl _) (.cells #[.int .i64 M.kind, .int .i64 M.endu, .slice aL n cL, .slice aS M.scr.length cS, .slice aD n cD] 59)
  rw [← hw1] at hA1
  have hA2 := (Below.refl w1.heap.size w1).alloc (Nat.le_refl _) (.cells #[.int .i64 0, .int .i64 0, .slice none 0 0, .slice none 0 0, .slice none 0 0] 59)
  rw [← hw2] at hA2
  have hB1 : Bx w1 w.heap.size 59 [.int .i64 M.kind, .int .i64 M.endu, .slice aL n cL, .slice aS M.scr.length cS, .slice aD n cD] := by rw [hw1]; exact Bx.new w _ _
  have hB2 : Bx w2 w1.heap.size 59 [.int .i64 0, .int .i64 0, .slice none 0 0, .slice none 0 0, .slice none 0 0] := by rw [hw2]; exact Bx.new w1 _ _
  obtain ⟨b, hb⟩ : ∃ b, b = w.heap.size := ⟨_, rfl⟩
  have hs1 : w1.heap.size = b + 1 := by rw [hw1, hb]; simp
  have hs2 : w2.heap.size = b + 1 + 1 := by rw [hw2]; simp [hs1]
  rw [← hb] at hB1
  rw [hs1] at hB2
  have H1 := Lib.hid (hB1.call hA2)
  have H2 := Lib.hid hB2
  have HA := Lib.hid (hA1.trans (hA2.mono hA1.size))
  have HB := Lib.hid hb
  have HS := Lib.hid hs2
  have HW : Hid (((w.alloc (.cells #[.int .i64 M.kind, .int .i64 M.endu, .slice aL n cL, .slice aS M.scr.length cS, .slice aD n cD] 59)).alloc (.cells #[.int .i64 0, .int .i64 0, .slice none 0 0, .slice none 0 0, .slice none 0 0] 59)) = w2) := Lib.hid (by rw [hw2, hw1])
  clear hw1 hA1 hB1 hw2 hA2 hB2 hs1 hb
  have hr2 : a < 0 ∨ (0 ≤ a ∧ (n : Int) ≤ a) := by omega
  clear hr
  have k0 := H1.out.cell (i := 0) rfl
  have k1 := H1.out.cell (i := 1) rfl
  have k2 := H1.out.cell (i := 2) rfl
  have k3 := H1.out.cell (i := 3) rfl
  have k4 := H1.out.cell (i := 4) rfl
  have z0 := H2.out.cell (i := 0) rfl
  have z1 := H2.out.cell (i := 1) rfl
  have z2 := H2.out.cell (i := 2) rfl
  have z3 := H2.out.cell (i := 3) rfl
  have z4 := H2.out.cell (i := 4) rfl
  have zf := H2.out.free
  rcases hr2 with h0 | ⟨h0, h1⟩
  all_goals
    unfold rmv
    go_enter Try.func24, Try.ntmps24
    go_upto_region 1 with (fail)
    rw [HW.out, ← HB.out]
    have hZ := (((((H2.out.set 0 (.int .i64 M.kind)).set 1 (.int .i64 M.endu)).set 2 (.slice aL n cL)).set 3 (.slice aS M.scr.length cS)).set 4 (.slice aD n cD))
    have HZ := Lib.hid hZ
    have HZb := Lib.hid (below5 HA.out (g := b + 1) (by have := HB.out; omega) 0 1 2 3 4 (.int .i64 M.kind) (.int .i64 M.endu) (.slice aL n cL) (.slice aS M.scr.length cS) (.slice aD n cD))
    have q0 := hZ.cell (i := 0) rfl
    have q1 := hZ.cell (i := 1) rfl
    have q2 := hZ.cell (i := 2) rfl
    have q3 := hZ.cell (i := 3) rfl
    have q4 := hZ.cell (i := 4) rfl
    have HQ0 := Lib.hid q0
    have HQ1 := Lib.hid q1
    have HQ2 := Lib.hid q2
    have HQ3 := Lib.hid q3
    have HQ4 := Lib.hid q4
    clear q0 q1 q2 q3 q4 hZ
    go_wp2_with fail
    refine bodyPost_ret (v := .tuple #[rmv M (.slice aL n cL) (.slice aS M.scr.length cS) (.slice aD n cD), .int .i64 2]) (by simp [rmv, results, Try.results24, go_sem, HQ0.out, HQ1.out, HQ2.out, HQ3.out, HQ4.out]) rfl ?_
    exact ⟨_, _, _, SS, rfl, HF.out.res HZb.out, HZb.out⟩
set_option maxRecDepth 100000 in
set_option maxHeartbeats 4000000 in
theorem rtear_range {w : World} {vL vS vD : Value} {M : Med} {P : Nat → Prop} {SS : List RS} (h : RmF P w vL vS vD M SS) (hn : M.n ≤ 4096) (hs : M.scr.length ≤ 256) (a : Int) (ha : In64 a) (hr : ¬ (0 ≤ a ∧ a < M.n)) :
    Calls Try.prog 25 #[rmv M vL vS vD, .int .i64 a] w (RmP (2, M) P w) := by
  have HF := Lib.hid h
  have hre := h.here
  obtain ⟨⟨aL, cL, rfl⟩, ⟨aS, cS, rfl⟩, aD, cD, rfl⟩ := hre.forms
  have HR := Lib.hid hre
  have hl1 := hre.l
  have hl2 := hre.e
  have hl3 := hre.x
  have hSn := hre.n
  obtain ⟨n, hnn⟩ : ∃ n, n = M.n := ⟨_, rfl⟩
  rw [← hnn] at hl1 hSn hr hn HR HF ⊢
  have HNN := Lib.hid hnn
  have HL1 := Lib.hid hl1
  have HL2 := Lib.hid hl2
  have HL3 := Lib.hid hl3
  have HSN := Lib.hid hSn
  have hz := zeroRM
  clear hl1 hl2 hl3 hSn hnn hre h
  obtain ⟨w1, hw1⟩ : ∃ w1, w1 = w.alloc (.cells #[.int .i64 M.kind, .int .i64 M.endu, .slice aL n cL, .slice aS M.scr.length cS, .slice aD n cD] 59) := ⟨_, rfl⟩
  obtain ⟨w2, hw2⟩ : ∃ w2, w2 = w1.alloc (.cells #[.int .i64 0, .int .i64 0, .slice none 0 0, .slice none 0 0, .slice none 0 0] 59) := ⟨_, rfl⟩
  have hA1 := (Below.refl w.heap.size w).alloc (Nat.le_refl _) (.cells #[.int .i64 M.kind, .int .i64 M.endu, .slice aL n cL, .slice aS M.scr.length cS, .slice aD n cD] 59)
  rw [← hw1] at hA1
  have hA2 := (Below.refl w1.heap.size w1).alloc (Nat.le_refl _) (.cells #[.int .i64 0, .int .i64 0, .slice none 0 0, .slice none 0 0, .slice none 0 0] 59)
  rw [← hw2] at hA2
  have hB1 : Bx w1 w.heap.size 59 [.int .i64 M.kind, .int .i64 M.endu, .slice aL n cL, .slice aS M.scr.length cS, .slice aD n cD] := by rw [hw1]; exact Bx.new w _ _
  have hB2 : Bx w2 w1.heap.size 59 [.int .i64 0, .int .i64 0, .slice none 0 0, .slice none 0 0, .slice none 0 0] := by rw [hw2]; exact Bx.new w1 _ _
  obtain ⟨b, hb⟩ : ∃ b, b = w.heap.size := ⟨_, rfl⟩
  have hs1 : w1.heap.size = b + 1 := by rw [hw1, hb]; simp
  have hs2 : w2.heap.size = b + 1 + 1 := by rw [hw2]; simp [hs1]
  rw [← hb] at hB1
  rw [hs1] at hB2
  have H1 := Lib.hid (hB1.call hA2)
  have H2 := Lib.hid hB2
  have HA := Lib.hid (hA1.trans (hA2.mono hA1.size))
  have HB := Lib.hid hb
  have HS := Lib.hid hs2
  have HW : Hid (((w.alloc (.cells #[.int .i64 M.kind, .int .i64 M.endu, .slice aL n cL, .slice aS M.scr.length cS, .slice aD n cD] 59)).alloc (.cells #[.int .i64 0, .int .i64 0, .slice none 0 0, .slice none 0 0, .slice none 0 0] 59)) = w2) := Lib.hid (by rw [hw2, hw1])
  clear hw1 hA1 hB1 hw2 hA2 hB2 hs1 hb
  have hr2 : a < 0 ∨ (0 ≤ a ∧ (n : Int) ≤ a) := by omega
  clear hr
  have k0 := H1.out.cell (i := 0) rfl
  have k1 := H1.out.cell (i := 1) rfl
  have k2 := H1.out.cell (i := 2) rfl
  have k3 := H1.out.cell (i := 3) rfl
  have k4 := H1.out.cell (i := 4) rfl
  have z0 := H2.out.cell (i := 0) rfl
  have z1 := H2.out.cell (i := 1) rfl
  have z2 := H2.out.cell (i := 2) rfl
  have z3 := H2.out.cell (i := 3) rfl
  have z4 := H2.out.cell (i := 4) rfl
  have zf := H2.out.free
  rcases hr2 with h0 | ⟨h0, h1⟩
  all_goals
    unfold rmv
    go_enter Try.func25, Try.ntmps25
    go_upto_region 1 with (fail)
    rw [HW.out, ← HB.out]
    have hZ := (((((H2.out.set 0 (.int .i64 M.kind)).set 1 (.int .i64 M.endu)).set 2 (.slice aL n cL)).set 3 (.slice aS M.scr.length cS)).set 4 (.slice aD n cD))
    have HZ := Lib.hid hZ
    have HZb := Lib.hid (below5 HA.out (g := b + 1) (by have := HB.out; omega) 0 1 2 3 4 (.int .i64 M.kind) (.int .i64 M.endu) (.slice aL n cL) (.slice aS M.scr.length cS) (.slice aD n cD))
    have q0 := hZ.cell (i := 0) rfl
    have q1 := hZ.cell (i := 1) rfl
    have q2 := hZ.cell (i := 2) rfl
    have q3 := hZ.cell (i := 3) rfl
    have q4 := hZ.cell (i := 4) rfl
    have HQ0 := Lib.hid q0
    have HQ1 := Lib.hid q1
    have HQ2 := Lib.hid q2
    have HQ3 := Lib.hid q3
    have HQ4 := Lib.hid q4
    clear q0 q1 q2 q3 q4 hZ
    go_wp2_with fail
    refine bodyPost_ret (v := .tuple #[rmv M (.slice aL n cL) (.slice aS M.scr.length cS) (.slice aD n cD), .int .i64 2]) (by simp [rmv, results, Try.results25, go_sem, HQ0.out, HQ1.out, HQ2.out, HQ3.out, HQ4.out]) rfl ?_
    exact ⟨_, _, _, SS, rfl, HF.out.res HZb.out, HZb.out⟩
set_option maxRecDepth 100000 in
set_option maxHeartbeats 4000000 in
theorem rerase_range {w : World} {vL vS vD : Value} {M : Med} {P : Nat → Prop} {SS : List RS} (h : RmF P w vL vS vD M SS) (hn : M.n ≤ 4096) (hs : M.scr.length ≤ 256) (a : Int) (ha : In64 a) (hr : ¬ (0 ≤ a ∧ a < M.n)) :
    Calls Try.prog 26 #[rmv M vL vS vD, .int .i64 a] w (RmP (2, M) P w) := by
  have HF := Lib.hid h
  have hre := h.here
  obtain ⟨⟨aL, cL, rfl⟩, ⟨aS, cS, rfl⟩, aD, cD, rfl⟩ := hre.forms
  have HR := Lib.hid hre
  have hl1 := hre.l
  have hl2 := hre.e
  have hl3 := hre.x
  have hSn := hre.n
  obtain ⟨n, hnn⟩ : ∃ n, n = M.n := ⟨_, rfl⟩
  rw [← hnn] at hl1 hSn hr hn HR HF ⊢
  have HNN := Lib.hid hnn
  have HL1 := Lib.hid hl1
  have HL2 := Lib.hid hl2
  have HL3 := Lib.hid hl3
  have HSN := Lib.hid hSn
  have hz := zeroRM
  clear hl1 hl2 hl3 hSn hnn hre h
  obtain ⟨w1, hw1⟩ : ∃ w1, w1 = w.alloc (.cells #[.int .i64 M.kind, .int .i64 M.endu, .slice aL n cL, .slice aS M.scr.length cS, .slice aD n cD] 59) := ⟨_, rfl⟩
  obtain ⟨w2, hw2⟩ : ∃ w2, w2 = w1.alloc (.cells #[.int .i64 0, .int .i64 0, .slice none 0 0, .slice none 0 0, .slice none 0 0] 59) := ⟨_, rfl⟩
  have hA1 := (Below.refl w.heap.size w).alloc (Nat.le_refl _) (.cells #[.int .i64 M.kind, .int .i64 M.endu, .slice aL n cL, .slice aS M.scr.length cS, .slice aD n cD] 59)
  rw [← hw1] at hA1
  have hA2 := (Below.refl w1.heap.size w1).alloc (Nat.le_refl _) (.cells #[.int .i64 0, .int .i64 0, .slice none 0 0, .slice none 0 0, .slice none 0 0] 59)
  rw [← hw2] at hA2
  have hB1 : Bx w1 w.heap.size 59 [.int .i64 M.kind, .int .i64 M.endu, .slice aL n cL, .slice aS M.scr.length cS, .slice aD n cD] := by rw [hw1]; exact Bx.new w _ _
  have hB2 : Bx w2 w1.heap.size 59 [.int .i64 0, .int .i64 0, .slice none 0 0, .slice none 0 0, .slice none 0 0] := by rw [hw2]; exact Bx.new w1 _ _
  obtain ⟨b, hb⟩ : ∃ b, b = w.heap.size := ⟨_, rfl⟩
  have hs1 : w1.heap.size = b + 1 := by rw [hw1, hb]; simp
  have hs2 : w2.heap.size = b + 1 + 1 := by rw [hw2]; simp [hs1]
  rw [← hb] at hB1
  rw [hs1] at hB2
  have H1 := Lib.hid (hB1.call hA2)
  have H2 := Lib.hid hB2
  have HA := Lib.hid (hA1.trans (hA2.mono hA1.size))
  have HB := Lib.hid hb
  have HS := Lib.hid hs2
  have HW : Hid (((w.alloc (.cells #[.int .i64 M.kind, .int .i64 M.endu, .slice aL n cL, .slice aS M.scr.length cS, .slice aD n cD] 59)).alloc (.cells #[.int .i64 0, .int .i64 0, .slice none 0 0, .slice none 0 0, .slice none 0 0] 59)) = w2) := Lib.hid (by rw [hw2, hw1])
  clear hw1 hA1 hB1 hw2 hA2 hB2 hs1 hb
  have hr2 : a < 0 ∨ (0 ≤ a ∧ (n : Int) ≤ a) := by omega
  clear hr
  have k0 := H1.out.cell (i := 0) rfl
  have k1 := H1.out.cell (i := 1) rfl
  have k2 := H1.out.cell (i := 2) rfl
  have k3 := H1.out.cell (i := 3) rfl
  have k4 := H1.out.cell (i := 4) rfl
  have z0 := H2.out.cell (i := 0) rfl
  have z1 := H2.out.cell (i := 1) rfl
  have z2 := H2.out.cell (i := 2) rfl
  have z3 := H2.out.cell (i := 3) rfl
  have z4 := H2.out.cell (i := 4) rfl
  have zf := H2.out.free
  rcases hr2 with h0 | ⟨h0, h1⟩
  all_goals
    unfold rmv
    go_enter Try.func26, Try.ntmps26
    go_upto_region 1 with (fail)
    rw [HW.out, ← HB.out]
    have hZ := (((((H2.out.set 0 (.int .i64 M.kind)).set 1 (.int .i64 M.endu)).set 2 (.slice aL n cL)).set 3 (.slice aS M.scr.length cS)).set 4 (.slice aD n cD))
    have HZ := Lib.hid hZ
    have HZb := Lib.hid (below5 HA.out (g := b + 1) (by have := HB.out; omega) 0 1 2 3 4 (.int .i64 M.kind) (.int .i64 M.endu) (.slice aL n cL) (.slice aS M.scr.length cS) (.slice aD n cD))
    have q0 := hZ.cell (i := 0) rfl
    have q1 := hZ.cell (i := 1) rfl
    have q2 := hZ.cell (i := 2) rfl
    have q3 := hZ.cell (i := 3) rfl
    have q4 := hZ.cell (i := 4) rfl
    have HQ0 := Lib.hid q0
    have HQ1 := Lib.hid q1
    have HQ2 := Lib.hid q2
    have HQ3 := Lib.hid q3
    have HQ4 := Lib.hid q4
    clear q0 q1 q2 q3 q4 hZ
    go_wp2_with fail
    refine bodyPost_ret (v := .tuple #[rmv M (.slice aL n cL) (.slice aS M.scr.length cS) (.slice aD n cD), .int .i64 2]) (by simp [rmv, results, Try.results26, go_sem, HQ0.out, HQ1.out, HQ2.out, HQ3.out, HQ4.out]) rfl ?_
    exact ⟨_, _, _, SS, rfl, HF.out.res HZb.out, HZb.out⟩
set_option maxRecDepth 100000 in
set_option maxHeartbeats 4000000 in
theorem rrecord_len {w : World} {vL vS vD : Value} {M : Med} {P : Nat → Prop} {SS : List RS} (h : RmF P w vL vS vD M SS) (hn : M.n ≤ 4096) (hs : M.scr.length ≤ 256) (a : Int) (ha : In64 a) (l : List UInt8) (hl : l.length ≤ 4096) (h0 : 0 ≤ a) (h1 : a < M.n) (hll : l.length ≠ 2352) :
    Calls Try.prog 24 #[rmv M vL vS vD, .int .i64 a, .string (str l)] w (RmP (1, M) P w) := by
  have HF := Lib.hid h
  have hre := h.here
  obtain ⟨⟨aL, cL, rfl⟩, ⟨aS, cS, rfl⟩, aD, cD, rfl⟩ := hre.forms
  have HR := Lib.hid hre
  have hl1 := hre.l
  have hl2 := hre.e
  have hl3 := hre.x
  have hSn := hre.n
  obtain ⟨n, hnn⟩ : ∃ n, n = M.n := ⟨_, rfl⟩
  rw [← hnn] at hl1 hSn h1 hn HR HF ⊢
  have HNN := Lib.hid hnn
  have HL1 := Lib.hid hl1
  have HL2 := Lib.hid hl2
  have HL3 := Lib.hid hl3
  have HSN := Lib.hid hSn
  have hz := zeroRM
  clear hl1 hl2 hl3 hSn hnn hre h
  obtain ⟨w1, hw1⟩ : ∃ w1, w1 = w.alloc (.cells #[.int .i64 M.kind, .int .i64 M.endu, .slice aL n cL, .slice aS M.scr.length cS, .slice aD n cD] 59) := ⟨_, rfl⟩
  obtain ⟨w2, hw2⟩ : ∃ w2, w2 = w1.alloc (.cells #[.int .i64 0, .int .i64 0, .slice none 0 0, .slice none 0 0, .slice none 0 0] 59) := ⟨_, rfl⟩
  have hA1 := (Below.refl w.heap.size w).alloc (Nat.le_refl _) (.cells #[.int .i64 M.kind, .int .i64 M.endu, .slice aL n cL, .slice aS M.scr.length cS, .slice aD n cD] 59)
  rw [← hw1] at hA1
  have hA2 := (Below.refl w1.heap.size w1).alloc (Nat.le_refl _) (.cells #[.int .i64 0, .int .i64 0, .slice none 0 0, .slice none 0 0, .slice none 0 0] 59)
  rw [← hw2] at hA2
  have hB1 : Bx w1 w.heap.size 59 [.int .i64 M.kind, .int .i64 M.endu, .slice aL n cL, .slice aS M.scr.length cS, .slice aD n cD] := by rw [hw1]; exact Bx.new w _ _
  have hB2 : Bx w2 w1.heap.size 59 [.int .i64 0, .int .i64 0, .slice none 0 0, .slice none 0 0, .slice none 0 0] := by rw [hw2]; exact Bx.new w1 _ _
  obtain ⟨b, hb⟩ : ∃ b, b = w.heap.size := ⟨_, rfl⟩
  have hs1 : w1.heap.size = b + 1 := by rw [hw1, hb]; simp
  have hs2 : w2.heap.size = b + 1 + 1 := by rw [hw2]; simp [hs1]
  rw [← hb] at hB1
  rw [hs1] at hB2
  have H1 := Lib.hid (hB1.call hA2)
  have H2 := Lib.hid hB2
  have HA := Lib.hid (hA1.trans (hA2.mono hA1.size))
  have HB := Lib.hid hb
  have HS := Lib.hid hs2
  have HW : Hid (((w.alloc (.cells #[.int .i64 M.kind, .int .i64 M.endu, .slice aL n cL, .slice aS M.scr.length cS, .slice aD n cD] 59)).alloc (.cells #[.int .i64 0, .int .i64 0, .slice none 0 0, .slice none 0 0, .slice none 0 0] 59)) = w2) := Lib.hid (by rw [hw2, hw1])
  clear hw1 hA1 hB1 hw2 hA2 hB2 hs1 hb
  have hlb : (((str l).size : Int) != 2352) = true := by rw [str_size, bne_iff_ne]; omega
  clear hll
  have k0 := H1.out.cell (i := 0) rfl
  have k1 := H1.out.cell (i := 1) rfl
  have k2 := H1.out.cell (i := 2) rfl
  have k3 := H1.out.cell (i := 3) rfl
  have k4 := H1.out.cell (i := 4) rfl
  have z0 := H2.out.cell (i := 0) rfl
  have z1 := H2.out.cell (i := 1) rfl
  have z2 := H2.out.cell (i := 2) rfl
  have z3 := H2.out.cell (i := 3) rfl
  have z4 := H2.out.cell (i := 4) rfl
  have zf := H2.out.free
  unfold rmv
  go_enter Try.func24, Try.ntmps24
  go_upto_region 1 with (fail)
  rw [HW.out, ← HB.out]
  have hZ := (((((H2.out.set 0 (.int .i64 M.kind)).set 1 (.int .i64 M.endu)).set 2 (.slice aL n cL)).set 3 (.slice aS M.scr.length cS)).set 4 (.slice aD n cD))
  have HZ := Lib.hid hZ
  have HZb := Lib.hid (below5 HA.out (g := b + 1) (by have := HB.out; omega) 0 1 2 3 4 (.int .i64 M.kind) (.int .i64 M.endu) (.slice aL n cL) (.slice aS M.scr.length cS) (.slice aD n cD))
  have q0 := hZ.cell (i := 0) rfl
  have q1 := hZ.cell (i := 1) rfl
  have q2 := hZ.cell (i := 2) rfl
  have q3 := hZ.cell (i := 3) rfl
  have q4 := hZ.cell (i := 4) rfl
  have HQ0 := Lib.hid q0
  have HQ1 := Lib.hid q1
  have HQ2 := Lib.hid q2
  have HQ3 := Lib.hid q3
  have HQ4 := Lib.hid q4
  clear q0 q1 q2 q3 q4 hZ
  go_wp2_with fail
  refine bodyPost_ret (v := .tuple #[rmv M (.slice aL n cL) (.slice aS M.scr.length cS) (.slice aD n cD), .int .i64 1]) (by simp [rmv, results, Try.results24, go_sem, HQ0.out, HQ1.out, HQ2.out, HQ3.out, HQ4.out]) rfl ?_
  exact ⟨_, _, _, SS, rfl, HF.out.res HZb.out, HZb.out⟩
set_option maxRecDepth 100000 in
set_option maxHeartbeats 4000000 in
theorem rrecord_ok {w : World} {vL vS vD : Value} {M : Med} {P : Nat → Prop} {SS : List RS} (h : RmF P w vL vS vD M SS) (hn : M.n ≤ 4096) (hs : M.scr.length ≤ 256) (a : Int) (ha : In64 a) (l : List UInt8) (h0 : 0 ≤ a) (h1 : a < M.n) (hll : l.length = 2352) (hcn : (M.sec a.toNat).cnt ≤ 100000000) :
    Calls Try.prog 24 #[rmv M vL vS vD, .int .i64 a, .string (str l)] w (RmP (M.write a.toNat 1 l) P w) := by
  have hi : a.toNat < M.n := by omega
  obtain ⟨i, hia⟩ : ∃ i : Nat, i = a.toNat := ⟨_, rfl⟩
  have hai : a = (i : Int) := by omega
  rw [← hia] at hi hcn ⊢
  subst hai
  clear hia
  have HF := Lib.hid h
  have hre := h.here
  obtain ⟨⟨aL, cL, rfl⟩, ⟨aS, cS, rfl⟩, aD, cD, rfl⟩ := hre.forms
  have HR := Lib.hid hre
  have hl1 := hre.l
  have hl2 := hre.e
  have hl3 := hre.x
  have hSn := hre.n
  obtain ⟨n, hnn⟩ : ∃ n, n = M.n := ⟨_, rfl⟩
  rw [← hnn] at hl1 hSn hi h1 hn HR HF ⊢
  have HNN := Lib.hid hnn
  have HL1 := Lib.hid hl1
  have HL2 := Lib.hid hl2
  have HL3 := Lib.hid hl3
  have HSN := Lib.hid hSn
  have hz := zeroRM
  clear hl1 hl2 hl3 hSn hnn hre h
  obtain ⟨w1, hw1⟩ : ∃ w1, w1 = w.alloc (.cells #[.int .i64 M.kind, .int .i64 M.endu, .slice aL n cL, .slice aS M.scr.length cS, .slice aD n cD] 59) := ⟨_, rfl⟩
  obtain ⟨w2, hw2⟩ : ∃ w2, w2 = w1.alloc (.cells #[.int .i64 0, .int .i64 0, .slice none 0 0, .slice none 0 0, .slice none 0 0] 59) := ⟨_, rfl⟩
  have hA1 := (Below.refl w.heap.size w).alloc (Nat.le_refl _) (.cells #[.int .i64 M.kind, .int .i64 M.endu, .slice aL n cL, .slice aS M.scr.length cS, .slice aD n cD] 59)
  rw [← hw1] at hA1
  have hA2 := (Below.refl w1.heap.size w1).alloc (Nat.le_refl _) (.cells #[.int .i64 0, .int .i64 0, .slice none 0 0, .slice none 0 0, .slice none 0 0] 59)
  rw [← hw2] at hA2
  have hB1 : Bx w1 w.heap.size 59 [.int .i64 M.kind, .int .i64 M.endu, .slice aL n cL, .slice aS M.scr.length cS, .slice aD n cD] := by rw [hw1]; exact Bx.new w _ _
  have hB2 : Bx w2 w1.heap.size 59 [.int .i64 0, .int .i64 0, .slice none 0 0, .slice none 0 0, .slice none 0 0] := by rw [hw2]; exact Bx.new w1 _ _
  obtain ⟨b, hb⟩ : ∃ b, b = w.heap.size := ⟨_, rfl⟩
  have hs1 : w1.heap.size = b + 1 := by rw [hw1, hb]; simp
  have hs2 : w2.heap.size = b + 1 + 1 := by rw [hw2]; simp [hs1]
  rw [← hb] at hB1
  rw [hs1] at hB2
  have H1 := Lib.hid (hB1.call hA2)
  have H2 := Lib.hid hB2
  have HA := Lib.hid (hA1.trans (hA2.mono hA1.size))
  have HB := Lib.hid hb
  have HS := Lib.hid hs2
  have HW : Hid (((w.alloc (.cells #[.int .i64 M.kind, .int .i64 M.endu, .slice aL n cL, .slice aS M.scr.length cS, .slice aD n cD] 59)).alloc (.cells #[.int .i64 0, .int .i64 0, .slice none 0 0, .slice none 0 0, .slice none 0 0] 59)) = w2) := Lib.hid (by rw [hw2, hw1])
  clear hw1 hA1 hB1 hw2 hA2 hB2 hs1 hb
  have hlb : (((str l).size : Int) != 2352) = false := by rw [str_size, hll]; rfl
  clear hll
  have k0 := H1.out.cell (i := 0) rfl
  have k1 := H1.out.cell (i := 1) rfl
  have k2 := H1.out.cell (i := 2) rfl
  have k3 := H1.out.cell (i := 3) rfl
  have k4 := H1.out.cell (i := 4) rfl
  have HREC : Hid (Calls Try.prog 48 #[rmv M (.slice aL n cL) (.slice aS M.scr.length cS) (.slice aD n cD), .int .i64 (i : Nat), .int .i64 1, .string (str l)] w2 (RmP (M.write i 1 l) (fun k => k < w.heap.size ∧ P k) w2)) := Lib.hid (rrec12 (HF.out.keep HA.out) (by rw [← HNN.out]; exact hn) hs (by rw [← HNN.out]; exact hi) 1 l hcn)
  unfold rmv at HREC ⊢
  go_enter Try.func24, Try.ntmps24
  go_upto_region 1 with (fail)
  rw [HW.out, ← HB.out]
  go_wp2_with fail
  refine HREC.out.mono ?_
  rintro e w5 ⟨v5, s5, d5, SS5, rfl, hm5, hb5⟩
  have hlt2 : b + 1 < w2.heap.size := H2.out.lt
  obtain ⟨⟨a5, c5, rfl⟩, ⟨as5, cs5, rfl⟩, ad5, cd5, rfl⟩ := hm5.here.forms
  have HM5 := Lib.hid hm5
  have hA5 := HA.out.trans (hb5.mono HA.out.size)
  have hB5 := H2.out.call hb5
  have HA5 := Lib.hid hA5
  have HB5 := Lib.hid hB5
  clear hm5 hb5 hA5 hB5 k0 k1 k2 k3 k4
  obtain ⟨Z, hZ⟩ : ∃ Z, M.write i 1 l = Z := ⟨_, rfl⟩
  rw [hZ] at HM5 ⊢
  obtain ⟨ze, zM⟩ := Z
  unfold rmv
  dsimp only at HM5 ⊢
  have HZE := Lib.hid hZ
  clear hZ
  have z0 := HB5.out.cell (i := 0) rfl
  have z1 := HB5.out.cell (i := 1) rfl
  have z2 := HB5.out.cell (i := 2) rfl
  have z3 := HB5.out.cell (i := 3) rfl
  have z4 := HB5.out.cell (i := 4) rfl
  have zf := HB5.out.free
  have hZ := (((((HB5.out.set 0 (.int .i64 zM.kind)).set 1 (.int .i64 zM.endu)).set 2 (.slice a5 zM.n c5)).set 3 (.slice as5 zM.scr.length cs5)).set 4 (.slice ad5 zM.n cd5))
  have HZ := Lib.hid hZ
  have HZb := Lib.hid (below5 HA5.out (g := b + 1) (by have := HB.out; omega) 0 1 2 3 4 (.int .i64 zM.kind) (.int .i64 zM.endu) (.slice a5 zM.n c5) (.slice as5 zM.scr.length cs5) (.slice ad5 zM.n cd5))
  have HMZ := Lib.hid (RmF.set1 (p := ⟨b + 1, 4, none⟩) (RmF.set1 (p := ⟨b + 1, 3, none⟩) (RmF.set1 (p := ⟨b + 1, 2, none⟩) (RmF.set1 (p := ⟨b + 1, 1, none⟩) (RmF.set1 (p := ⟨b + 1, 0, none⟩) HM5.out (fun h => by have h2 := (h hlt2).1; have := HB.out; simp only at h2; omega) (.int .i64 zM.kind)) (fun h => by have h2 := (h hlt2).1; have := HB.out; simp only at h2; omega) (.int .i64 zM.endu)) (fun h => by have h2 := (h hlt2).1; have := HB.out; simp only at h2; omega) (.slice a5 zM.n c5)) (fun h => by have h2 := (h hlt2).1; have := HB.out; simp only at h2; omega) (.slice as5 zM.scr.length cs5)) (fun h => by have h2 := (h hlt2).1; have := HB.out; simp only at h2; omega) (.slice ad5 zM.n cd5))
  have q0 := hZ.cell (i := 0) rfl
  have q1 := hZ.cell (i := 1) rfl
  have q2 := hZ.cell (i := 2) rfl
  have q3 := hZ.cell (i := 3) rfl
  have q4 := hZ.cell (i := 4) rfl
  have HQ0 := Lib.hid q0
  have HQ1 := Lib.hid q1
  have HQ2 := Lib.hid q2
  have HQ3 := Lib.hid q3
  have HQ4 := Lib.hid q4
  clear q0 q1 q2 q3 q4 hZ
  go_wp2_with fail
  refine bodyPost_ret (v := .tuple #[rmv zM (.slice a5 zM.n c5) (.slice as5 zM.scr.length cs5) (.slice ad5 zM.n cd5), .int .i64 ze]) (by simp [rmv, results, Try.results24, go_sem, HQ0.out, HQ1.out, HQ2.out, HQ3.out, HQ4.out]) rfl ?_
  rw [HZE.out]
  exact ⟨_, _, _, SS5, rfl, HMZ.out.weak (fun k _ hp hkw => (hp (Nat.lt_of_lt_of_le hkw HA.out.size)).2), HZb.out⟩
set_option maxRecDepth 100000 in
set_option maxHeartbeats 4000000 in
theorem rtear_ok {w : World} {vL vS vD : Value} {M : Med} {P : Nat → Prop} {SS : List RS} (h : RmF P w vL vS vD M SS) (hn : M.n ≤ 4096) (hs : M.scr.length ≤ 256) (a : Int) (ha : In64 a) (h0 : 0 ≤ a) (h1 : a < M.n) (hcn : (M.sec a.toNat).cnt ≤ 100000000) :
    Calls Try.prog 25 #[rmv M vL vS vD, .int .i64 a] w (RmP (M.write a.toNat 2 []) P w) := by
  have hi : a.toNat < M.n := by omega
  obtain ⟨i, hia⟩ : ∃ i : Nat, i = a.toNat := ⟨_, rfl⟩
  have hai : a = (i : Int) := by omega
  rw [← hia] at hi hcn ⊢
  subst hai
  clear hia
  have HF := Lib.hid h
  have hre := h.here
  obtain ⟨⟨aL, cL, rfl⟩, ⟨aS, cS, rfl⟩, aD, cD, rfl⟩ := hre.forms
  have HR := Lib.hid hre
  have hl1 := hre.l
  have hl2 := hre.e
  have hl3 := hre.x
  have hSn := hre.n
  obtain ⟨n, hnn⟩ : ∃ n, n = M.n := ⟨_, rfl⟩
  rw [← hnn] at hl1 hSn hi h1 hn HR HF ⊢
  have HNN := Lib.hid hnn
  have HL1 := Lib.hid hl1
  have HL2 := Lib.hid hl2
  have HL3 := Lib.hid hl3
  have HSN := Lib.hid hSn
  have hz := zeroRM
  clear hl1 hl2 hl3 hSn hnn hre h
  obtain ⟨w1, hw1⟩ : ∃ w1, w1 = w.alloc (.cells #[.int .i64 M.kind, .int .i64 M.endu, .slice aL n cL, .slice aS M.scr.length cS, .slice aD n cD] 59) := ⟨_, rfl⟩
  obtain ⟨w2, hw2⟩ : ∃ w2, w2 = w1.alloc (.cells #[.int .i64 0, .int .i64 0, .slice none 0 0, .slice none 0 0, .slice none 0 0] 59) := ⟨_, rfl⟩
  have hA1 := (Below.refl w.heap.size w).alloc (Nat.le_refl _) (.cells #[.int .i64 M.kind, .int .i64 M.endu, .slice aL n cL, .slice aS M.scr.length cS, .slice aD n cD] 59)
  rw [← hw1] at hA1
  have hA2 := (Below.refl w1.heap.size w1).alloc (Nat.le_refl _) (.cells #[.int .i64 0, .int .i64 0, .slice none 0 0, .slice none 0 0, .slice none 0 0] 59)
  rw [← hw2] at hA2
  have hB1 : Bx w1 w.heap.size 59 [.int .i64 M.kind, .int .i64 M.endu, .slice aL n cL, .slice aS M.scr.length cS, .slice aD n cD] := by rw [hw1]; exact Bx.new w _ _
  have hB2 : Bx w2 w1.heap.size 59 [.int .i64 0, .int .i64 0, .slice none 0 0, .slice none 0 0, .slice none 0 0] := by rw [hw2]; exact Bx.new w1 _ _
  obtain ⟨b, hb⟩ : ∃ b, b = w.heap.size := ⟨_, rfl⟩
  have hs1 : w1.heap.size = b + 1 := by rw [hw1, hb]; simp
  have hs2 : w2.heap.size = b + 1 + 1 := by rw [hw2]; simp [hs1]
  rw [← hb] at hB1
  rw [hs1] at hB2
  have H1 := Lib.hid (hB1.call hA2)
  have H2 := Lib.hid hB2
  have HA := Lib.hid (hA1.trans (hA2.mono hA1.size))
  have HB := Lib.hid hb
  have HS := Lib.hid hs2
  have HW : Hid (((w.alloc (.cells #[.int .i64 M.kind, .int .i64 M.endu, .slice aL n cL, .slice aS M.scr.length cS, .slice aD n cD] 59)).alloc (.cells #[.int .i64 0, .int .i64 0, .slice none 0 0, .slice none 0 0, .slice none 0 0] 59)) = w2) := Lib.hid (by rw [hw2, hw1])
  clear hw1 hA1 hB1 hw2 hA2 hB2 hs1 hb
  have k0 := H1.out.cell (i := 0) rfl
  have k1 := H1.out.cell (i := 1) rfl
  have k2 := H1.out.cell (i := 2) rfl
  have k3 := H1.out.cell (i := 3) rfl
  have k4 := H1.out.cell (i := 4) rfl
  have HREC : Hid (Calls Try.prog 48 #[rmv M (.slice aL n cL) (.slice aS M.scr.length cS) (.slice aD n cD), .int .i64 (i : Nat), .int .i64 2, .string ⟨#[]⟩] w2 (RmP (M.write i 2 []) (fun k => k < w.heap.size ∧ P k) w2)) := Lib.hid (rrec12 (HF.out.keep HA.out) (by rw [← HNN.out]; exact hn) hs (by rw [← HNN.out]; exact hi) 2 [] hcn)
  unfold rmv at HREC ⊢
  go_enter Try.func25, Try.ntmps25
  go_upto_region 1 with (fail)
  rw [HW.out, ← HB.out]
  go_wp2_with fail
  refine HREC.out.mono ?_
  rintro e w5 ⟨v5, s5, d5, SS5, rfl, hm5, hb5⟩
  have hlt2 : b + 1 < w2.heap.size := H2.out.lt
  obtain ⟨⟨a5, c5, rfl⟩, ⟨as5, cs5, rfl⟩, ad5, cd5, rfl⟩ := hm5.here.forms
  have HM5 := Lib.hid hm5
  have hA5 := HA.out.trans (hb5.mono HA.out.size)
  have hB5 := H2.out.call hb5
  have HA5 := Lib.hid hA5
  have HB5 := Lib.hid hB5
  clear hm5 hb5 hA5 hB5 k0 k1 k2 k3 k4
  obtain ⟨Z, hZ⟩ : ∃ Z, M.write i 2 [] = Z := ⟨_, rfl⟩
  rw [hZ] at HM5 ⊢
  obtain ⟨ze, zM⟩ := Z
  unfold rmv
  dsimp only at HM5 ⊢
  have HZE := Lib.hid hZ
  clear hZ
  have z0 := HB5.out.cell (i := 0) rfl
  have z1 := HB5.out.cell (i := 1) rfl
  have z2 := HB5.out.cell (i := 2) rfl
  have z3 := HB5.out.cell (i := 3) rfl
  have z4 := HB5.out.cell (i := 4) rfl
  have zf := HB5.out.free
  have hZ := (((((HB5.out.set 0 (.int .i64 zM.kind)).set 1 (.int .i64 zM.endu)).set 2 (.slice a5 zM.n c5)).set 3 (.slice as5 zM.scr.length cs5)).set 4 (.slice ad5 zM.n cd5))
  have HZ := Lib.hid hZ
  have HZb := Lib.hid (below5 HA5.out (g := b + 1) (by have := HB.out; omega) 0 1 2 3 4 (.int .i64 zM.kind) (.int .i64 zM.endu) (.slice a5 zM.n c5) (.slice as5 zM.scr.length cs5) (.slice ad5 zM.n cd5))
  have HMZ := Lib.hid (RmF.set1 (p := ⟨b + 1, 4, none⟩) (RmF.set1 (p := ⟨b + 1, 3, none⟩) (RmF.set1 (p := ⟨b + 1, 2, none⟩) (RmF.set1 (p := ⟨b + 1, 1, none⟩) (RmF.set1 (p := ⟨b + 1, 0, none⟩) HM5.out (fun h => by have h2 := (h hlt2).1; have := HB.out; simp only at h2; omega) (.int .i64 zM.kind)) (fun h => by have h2 := (h hlt2).1; have := HB.out; simp only at h2; omega) (.int .i64 zM.endu)) (fun h => by have h2 := (h hlt2).1; have := HB.out; simp only at h2; omega) (.slice a5 zM.n c5)) (fun h => by have h2 := (h hlt2).1; have := HB.out; simp only at h2; omega) (.slice as5 zM.scr.length cs5)) (fun h => by have h2 := (h hlt2).1; have := HB.out; simp only at h2; omega) (.slice ad5 zM.n cd5))
  have q0 := hZ.cell (i := 0) rfl
  have q1 := hZ.cell (i := 1) rfl
  have q2 := hZ.cell (i := 2) rfl
  have q3 := hZ.cell (i := 3) rfl
  have q4 := hZ.cell (i := 4) rfl
  have HQ0 := Lib.hid q0
  have HQ1 := Lib.hid q1
  have HQ2 := Lib.hid q2
  have HQ3 := Lib.hid q3
  have HQ4 := Lib.hid q4
  clear q0 q1 q2 q3 q4 hZ
  go_wp2_with fail
  refine bodyPost_ret (v := .tuple #[rmv zM (.slice a5 zM.n c5) (.slice as5 zM.scr.length cs5) (.slice ad5 zM.n cd5), .int .i64 ze]) (by simp [rmv, results, Try.results25, go_sem, HQ0.out, HQ1.out, HQ2.out, HQ3.out, HQ4.out]) rfl ?_
  rw [HZE.out]
  exact ⟨_, _, _, SS5, rfl, HMZ.out.weak (fun k _ hp hkw => (hp (Nat.lt_of_lt_of_le hkw HA.out.size)).2), HZb.out⟩
theorem rrecord12 {w : World} {vL vS vD : Value} {M : Med} {P : Nat → Prop} {SS : List RS} (h : RmF P w vL vS vD M SS) (hn : M.n ≤ 4096) (hs : M.scr.length ≤ 256) (hcn : ∀ i, i < M.n → (M.sec i).cnt ≤ 100000000) (a : Int) (ha : In64 a) (l : List UInt8) (hl : l.length ≤ 4096) : Calls Try.prog 24 #[rmv M vL vS vD, .int .i64 a, .string (str l)] w (RmP (M.record a l) P w) := by
  unfold Med.record
  by_cases h0 : 0 ≤ a ∧ a < M.n
  · rw [if_pos h0]
    by_cases h1 : l.length = 2352
    · rw [if_pos h1]; exact rrecord_ok h hn hs a ha l h0.1 h0.2 h1 (hcn _ (by omega))
    · rw [if_neg h1]; exact rrecord_len h hn hs a ha l hl h0.1 h0.2 h1
  · rw [if_neg h0]; exact rrecord_range h hn hs a ha l hl h0
theorem rtear12 {w : World} {vL vS vD : Value} {M : Med} {P : Nat → Prop} {SS : List RS} (h : RmF P w vL vS vD M SS) (hn : M.n ≤ 4096) (hs : M.scr.length ≤ 256) (hcn : ∀ i, i < M.n → (M.sec i).cnt ≤ 100000000) (a : Int) (ha : In64 a) : Calls Try.prog 25 #[rmv M vL vS vD, .int .i64 a] w (RmP (M.tear a) P w) := by
  unfold Med.tear
  by_cases h0 : 0 ≤ a ∧ a < M.n
  · rw [if_pos h0]; exact rtear_ok h hn hs a ha h0.1 h0.2 (hcn _ (by omega))
  · rw [if_neg h0]; exact rtear_range h hn hs a ha h0
end Go.Proofs.Ytpncjadhpnapnaa.D12
