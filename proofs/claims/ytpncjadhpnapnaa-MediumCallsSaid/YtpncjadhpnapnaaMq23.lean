/- Chapter 12: the reference walked: Read, Clean. -/
import Derived.Test.YtpncjadhpnapnaaMq22
/- Chapter 12: the reference walked: Read. -/
namespace Go.Proofs.Ytpncjadhpnapnaa.D12
open Go.RowKit Go.Maps C9
open D13 (RdI ixI is)
set_option linter.unusedVariables false

def outK (raw : List UInt8) (ch : Nat → UInt8) (gp : Nat → Bool) (k : Nat) : List UInt8 := (List.range 2352).map fun j => if j < k then (if gp j = true then 0 else byteA raw j ^^^ ch j) else byteA raw j
theorem outK_len (raw : List UInt8) (ch : Nat → UInt8) (gp : Nat → Bool) (k : Nat) : (outK raw ch gp k).length = 2352 := by simp [outK]
theorem outK_zero {raw : List UInt8} (ch : Nat → UInt8) (gp : Nat → Bool) (h : raw.length = 2352) : outK raw ch gp 0 = raw := by
  unfold outK
  apply List.ext_getElem?
  intro j
  by_cases hj : j < 2352
  · simp [hj, byteA, atD, h]
  · rw [List.getElem?_eq_none (by simp; omega), List.getElem?_eq_none (by omega)]
theorem outK_all (M : Med) (i : Nat) : outK (M.sec i).raw (M.sec i).ch (M.goneP i) 2352 = M.out i := by
  unfold outK Med.out
  exact List.map_congr_left fun k hk => by rw [if_pos (List.mem_range.1 hk)]
theorem outK_step {raw : List UInt8} {ch : Nat → UInt8} {gp : Nat → Bool} {k : Nat} {v : UInt8} (hv : (if gp k = true then 0 else byteA raw k ^^^ ch k) = v) : (outK raw ch gp k).set k v = outK raw ch gp (k + 1) := by
  unfold outK
  refine map_set (by rw [if_pos (by omega)]; exact hv) fun j hj => ?_
  by_cases h : j < k
  · rw [if_pos h, if_pos (show j < k + 1 by omega)]
  · rw [if_neg h, if_neg (show ¬ j < k + 1 by omega)]
theorem outK_ix {raw : List UInt8} {ch : Nat → UInt8} {gp : Nat → Bool} {k : Nat} (hk : k < 2352) : G.ix (outK raw ch gp k) k = byteA raw k := by
  unfold outK
  rw [map_ix hk, if_neg (by omega)]
theorem outK_skip {raw : List UInt8} {ch : Nat → UInt8} {gp : Nat → Bool} {k : Nat} (hg : gp k = false) (hc : ch k = 0) : outK raw ch gp k = outK raw ch gp (k + 1) := by
  unfold outK
  refine List.map_congr_left fun j _ => ?_
  by_cases h : j < k
  · rw [if_pos h, if_pos (show j < k + 1 by omega)]
  · rw [if_neg h]
    by_cases e : j = k
    · rw [if_pos (show j < k + 1 by omega), e, hg, hc]; simp
    · rw [if_neg (show ¬ j < k + 1 by omega)]
def gonK (gp : Nat → Bool) (k : Nat) : List Int := ((List.range k).filter gp).map Int.ofNat
theorem gonK_t {gp : Nat → Bool} {k : Nat} (h : gp k = true) : gonK gp (k + 1) = gonK gp k ++ [(k : Int)] := by simp [gonK, List.range_succ, h]
theorem gonK_f {gp : Nat → Bool} {k : Nat} (h : gp k = false) : gonK gp (k + 1) = gonK gp k := by simp [gonK, List.range_succ, h]
theorem gonK_len (gp : Nat → Bool) (k : Nat) : (gonK gp k).length ≤ k := by
  unfold gonK
  rw [List.length_map]
  exact Nat.le_trans (List.length_filter_le _ _) (by simp)
theorem gone_lost (M : Med) (i : Nat) {k : Nat} (hk : k < 2352) : erF (M.sec i).er (lostS M.n M.scr i) k = M.goneP i k := by
  unfold erF Med.goneP
  refine congrArg ((M.sec i).er k || ·) ?_
  rw [Bool.eq_iff_iff, decide_eq_true_eq]
  unfold lostS
  simp only [List.mem_map, List.mem_filter, List.mem_range]
  constructor
  · rintro ⟨j, ⟨_, h2⟩, h3⟩
    have h4 : (j : Int) = (k : Int) := h3
    have : j = k := by omega
    rwa [← this]
  · intro h
    exact ⟨k, ⟨hk, h⟩, rfl⟩
theorem chg_row {w : World} {y : RS} {lc : List UInt8} {f : Nat → UInt8} (h : Rd w y.vC lc) (he : EpC f lc) (hn : ¬ y.nc = 0) : y.nc = 2352 ∧ ∃ b o, ∀ k, k < 2352 → y.ac = some ⟨b, o, none⟩ ∧ w.cell? ⟨b, o + k, none⟩ = some (B (f k)) := by
  obtain ⟨_, a9, c9, b, o, h9, _, hc⟩ := h
  simp only [RS.vC, Value.slice.injEq] at h9
  obtain ⟨ha, hl, _⟩ := h9
  rcases he with ⟨e, _⟩ | e
  · rw [e] at hl
    exact absurd hl hn
  · rw [e] at hl hc
    refine ⟨hl.trans (mkC_len f), b, o, fun k hk => ?_⟩
    have := hc k (by rw [mkC_len]; exact hk)
    rw [mkC_ix f hk] at this
    exact ⟨ha.trans this.1, this.2⟩
theorem chg_none {w : World} {y : RS} {lc : List UInt8} {f : Nat → UInt8} (h : Rd w y.vC lc) (he : EpC f lc) (hn : y.nc = 0) : ∀ k, k < 2352 → f k = 0 := by
  obtain ⟨_, a9, c9, b, o, h9, _, hc⟩ := h
  simp only [RS.vC, Value.slice.injEq] at h9
  obtain ⟨ha, hl, _⟩ := h9
  rcases he with ⟨_, h⟩ | e
  · exact h
  · rw [e, mkC_len] at hl
    omega
theorem lostS_bd (n : Nat) (scr : List Sc) (i : Nat) : ∀ x ∈ lostS n scr i, 0 ≤ x ∧ x < 2352 := by
  intro x hx
  unfold lostS at hx
  rw [List.mem_map] at hx
  obtain ⟨y, hy, rfl⟩ := hx
  have := List.mem_range.1 (List.mem_filter.1 hy).1
  show 0 ≤ (y : Int) ∧ (y : Int) < 2352
  omega
set_option maxRecDepth 100000 in
set_option maxHeartbeats 4000000 in
theorem rread_neg {w : World} {vL vS vD : Value} {M : Med} {P : Nat → Prop} {SS : List RS} (h : RmF P w vL vS vD M SS) (hn : M.n ≤ 4096) (hs : M.scr.length ≤ 256) (a : Int) (ha : In64 a) (h0 : a < 0) :
    Calls Try.prog 55 #[rmv M vL vS vD, .int .i64 a] w (ReadP ([], [], 2) w) := by
  have HF := Lib.hid h
  have hre := h.here
  obtain ⟨⟨aL, cL, rfl⟩, ⟨aS, cS, rfl⟩, aD, cD, rfl⟩ := hre.forms
  have HR := Lib.hid hre
  have hl1 := hre.l
  have hl2 := hre.e
  have hl3 := hre.x
  have hSn := hre.n
  obtain ⟨n, hnn⟩ : ∃ n, n = M.n := ⟨_, rfl⟩
  rw [← hnn] at hl1 hSn hn HR HF ⊢
  have HNN := Lib.hid hnn
  have HL1 := Lib.hid hl1
  have HL2 := Lib.hid hl2
  have HL3 := Lib.hid hl3
  have HSN := Lib.hid hSn
  have hz := zeroRM
  clear hl1 hl2 hl3 hSn hnn hre h
  obtain ⟨w1, hw1⟩ : ∃ w1, w1 = w.alloc (.cells #[.int .i64 M.kind, .int .i64 M.endu, .slice aL n cL, .slice aS M.scr.length cS, .slice aD n cD] 59) := ⟨_, rfl⟩
  have hA1 := (Below.refl w.heap.size w).alloc (Nat.le_refl _) (.cells #[.int .i64 M.kind, .int .i64 M.endu, .slice aL n cL, .slice aS M.scr.length cS, .slice aD n cD] 59)
  rw [← hw1] at hA1
  have hB1 : Bx w1 w.heap.size 59 [.int .i64 M.kind, .int .i64 M.endu, .slice aL n cL, .slice aS M.scr.length cS, .slice aD n cD] := by rw [hw1]; exact Bx.new w _ _
  obtain ⟨b, hb⟩ : ∃ b, b = w.heap.size := ⟨_, rfl⟩
  have hs1 : w1.heap.size = b + 1 := by rw [hw1, hb]; simp
  rw [← hb] at hB1
  have H1 := Lib.hid hB1
  have HA := Lib.hid hA1
  have HB := Lib.hid hb
  have HS := Lib.hid hs1
  have HW : Hid ((w.alloc (.cells #[.int .i64 M.kind, .int .i64 M.endu, .slice aL n cL, .slice aS M.scr.length cS, .slice aD n cD] 59)) = w1) := Lib.hid (by rw [hw1])
  clear hw1 hA1 hB1  hb
  have q0 : decide (a < 0) = true := decide_eq_true h0
  clear h0
  have k0 := H1.out.cell (i := 0) rfl
  have k1 := H1.out.cell (i := 1) rfl
  have k2 := H1.out.cell (i := 2) rfl
  have k3 := H1.out.cell (i := 3) rfl
  have k4 := H1.out.cell (i := 4) rfl
  unfold rmv
  go_enter Try.func55, Try.ntmps55
  go_upto_region 1 with (fail)
  rw [HW.out, ← HB.out]
  go_wp2_with fail
  go_ret3
  exact ReadP.bad 2 rfl HA.out
set_option maxRecDepth 100000 in
set_option maxHeartbeats 4000000 in
theorem rread_far {w : World} {vL vS vD : Value} {M : Med} {P : Nat → Prop} {SS : List RS} (h : RmF P w vL vS vD M SS) (hn : M.n ≤ 4096) (hs : M.scr.length ≤ 256) (a : Int) (ha : In64 a) (h0 : 0 ≤ a) (h1 : (M.n : Int) ≤ a) :
    Calls Try.prog 55 #[rmv M vL vS vD, .int .i64 a] w (ReadP ([], [], 2) w) := by
  have HF := Lib.hid h
  have hre := h.here
  obtain ⟨⟨aL, cL, rfl⟩, ⟨aS, cS, rfl⟩, aD, cD, rfl⟩ := hre.forms
  have HR := Lib.hid hre
  have hl1 := hre.l
  have hl2 := hre.e
  have hl3 := hre.x
  have hSn := hre.n
  obtain ⟨n, hnn⟩ : ∃ n, n = M.n := ⟨_, rfl⟩
  rw [← hnn] at hl1 hSn h1 hn HR HF ⊢
  have HNN := Lib.hid hnn
  have HL1 := Lib.hid hl1
  have HL2 := Lib.hid hl2
  have HL3 := Lib.hid hl3
  have HSN := Lib.hid hSn
  have hz := zeroRM
  clear hl1 hl2 hl3 hSn hnn hre h
  obtain ⟨w1, hw1⟩ : ∃ w1, w1 = w.alloc (.cells #[.int .i64 M.kind, .int .i64 M.endu, .slice aL n cL, .slice aS M.scr.length cS, .slice aD n cD] 59) := ⟨_, rfl⟩
  have hA1 := (Below.refl w.heap.size w).alloc (Nat.le_refl _) (.cells #[.int .i64 M.kind, .int .i64 M.endu, .slice aL n cL, .slice aS M.scr.length cS, .slice aD n cD] 59)
  rw [← hw1] at hA1
  have hB1 : Bx w1 w.heap.size 59 [.int .i64 M.kind, .int .i64 M.endu, .slice aL n cL, .slice aS M.scr.length cS, .slice aD n cD] := by rw [hw1]; exact Bx.new w _ _
  obtain ⟨b, hb⟩ : ∃ b, b = w.heap.size := ⟨_, rfl⟩
  have hs1 : w1.heap.size = b + 1 := by rw [hw1, hb]; simp
  rw [← hb] at hB1
  have H1 := Lib.hid hB1
  have HA := Lib.hid hA1
  have HB := Lib.hid hb
  have HS := Lib.hid hs1
  have HW : Hid ((w.alloc (.cells #[.int .i64 M.kind, .int .i64 M.endu, .slice aL n cL, .slice aS M.scr.length cS, .slice aD n cD] 59)) = w1) := Lib.hid (by rw [hw1])
  clear hw1 hA1 hB1  hb
  have q0 : decide (a < 0) = false := decide_eq_false (by omega)
  have q1 : decide ((n : Int) ≤ a) = true := decide_eq_true h1
  clear h0 h1
  have k0 := H1.out.cell (i := 0) rfl
  have k1 := H1.out.cell (i := 1) rfl
  have k2 := H1.out.cell (i := 2) rfl
  have k3 := H1.out.cell (i := 3) rfl
  have k4 := H1.out.cell (i := 4) rfl
  unfold rmv
  go_enter Try.func55, Try.ntmps55
  go_upto_region 1 with (fail)
  rw [HW.out, ← HB.out]
  go_wp2_with fail
  go_ret3
  exact ReadP.bad 2 rfl HA.out
set_option maxRecDepth 100000 in
set_option maxHeartbeats 4000000 in
theorem rread_0 {w : World} {vL vS vD : Value} {M : Med} {P : Nat → Prop} {SS : List RS} (h : RmF P w vL vS vD M SS) (hn : M.n ≤ 4096) (hs : M.scr.length ≤ 256) {i : Nat} (hi : i < M.n) (hst : (M.sec i).st = 0) :
    Calls Try.prog 55 #[rmv M vL vS vD, .int .i64 (i : Nat)] w (ReadP ([], [], 8) w) := by
  have HF := Lib.hid h
  have hre := h.here
  obtain ⟨⟨aL, cL, rfl⟩, ⟨aS, cS, rfl⟩, aD, cD, rfl⟩ := hre.forms
  have HR := Lib.hid hre
  have hl1 := hre.l
  have hl2 := hre.e
  have hl3 := hre.x
  have hSn := hre.n
  obtain ⟨n, hnn⟩ : ∃ n, n = M.n := ⟨_, rfl⟩
  rw [← hnn] at hl1 hSn hi hn HR HF ⊢
  have HNN := Lib.hid hnn
  have HL1 := Lib.hid hl1
  have HL2 := Lib.hid hl2
  have HL3 := Lib.hid hl3
  have HSN := Lib.hid hSn
  have hz := zeroRM
  clear hl1 hl2 hl3 hSn hnn hre h
  obtain ⟨w1, hw1⟩ : ∃ w1, w1 = w.alloc (.cells #[.int .i64 M.kind, .int .i64 M.endu, .slice aL n cL, .slice aS M.scr.length cS, .slice aD n cD] 59) := ⟨_, rfl⟩
  have hA1 := (Below.refl w.heap.size w).alloc (Nat.le_refl _) (.cells #[.int .i64 M.kind, .int .i64 M.endu, .slice aL n cL, .slice aS M.scr.length cS, .slice aD n cD] 59)
  rw [← hw1] at hA1
  have hB1 : Bx w1 w.heap.size 59 [.int .i64 M.kind, .int .i64 M.endu, .slice aL n cL, .slice aS M.scr.length cS, .slice aD n cD] := by rw [hw1]; exact Bx.new w _ _
  obtain ⟨b, hb⟩ : ∃ b, b = w.heap.size := ⟨_, rfl⟩
  have hs1 : w1.heap.size = b + 1 := by rw [hw1, hb]; simp
  rw [← hb] at hB1
  have H1 := Lib.hid hB1
  have HA := Lib.hid hA1
  have HB := Lib.hid hb
  have HS := Lib.hid hs1
  have HW : Hid ((w.alloc (.cells #[.int .i64 M.kind, .int .i64 M.endu, .slice aL n cL, .slice aS M.scr.length cS, .slice aD n cD] 59)) = w1) := Lib.hid (by rw [hw1])
  clear hw1 hA1 hB1  hb
  have k0 := H1.out.cell (i := 0) rfl
  have k1 := H1.out.cell (i := 1) rfl
  have k2 := H1.out.cell (i := 2) rfl
  have k3 := H1.out.cell (i := 3) rfl
  have k4 := H1.out.cell (i := 4) rfl
  have hni : decide (n ≤ i) = false := decide_eq_false (by omega)
  have q0 : decide ((i : Int) < 0) = false := decide_eq_false (by omega)
  have q1 : decide ((n : Int) ≤ (i : Int)) = false := decide_eq_false (by omega)
  have hsl : i < SS.length := by rw [HSN.out]; exact hi
  obtain ⟨bl, off, hcell⟩ := RdD.at (RdD.keep HL1.out HA.out)
  obtain ⟨ha, hrg⟩ := hcell i hsl
  have hix := fun w' => run_idxS Try.underlying56 Try.sizeRS (cap := cL) ha hi (i : Int) rfl w'
  have HSM := Lib.hid (Med.sec_map HL2.out i)
  have HY := Lib.hid (HL3.out i hsl)
  have HSY := HSM.out
  generalize hye : atD rz SS i = y at *
  have x0 := hrg 0 _ rfl
  have x1 := hrg 1 _ rfl
  have x2 := hrg 2 _ rfl
  have x3 := hrg 3 (.slice y.ae y.ne y.ce) rfl
  have x4 := hrg 4 (.slice y.ac y.nc y.cc) rfl
  simp only [Nat.add_zero] at x0
  have HSYh := Lib.hid HSY
  have hzs : ∀ W, (zeroValue 108).run Try.prog W = .ok (.agg #[.int .i64 0, .int .i64 0, .string ⟨#[]⟩, .slice none 0 0, .slice none 0 0]) W := fun _ => by kernel_rfl
  clear ha hrg hcell HSM hye
  rw [HSY] at hst
  have e0 : ((y.s.st : Int) == 0) = true := by rw [hst]; rfl
  have e2 : ((y.s.st : Int) == 2) = false := by rw [hst]; rfl
  have e3 : ((y.s.st : Int) == 3) = false := by rw [hst]; rfl
  clear hst HSY
  unfold rmv
  go_enter Try.func55, Try.ntmps55
  go_upto_region 1 with (fail)
  rw [HW.out, ← HB.out]
  go_upto_region 4 with (fail)
  obtain ⟨q, hq⟩ : ∃ q, q = w1.heap.size := ⟨_, rfl⟩
  obtain ⟨w2, hw2⟩ : ∃ w2, w2 = w1.alloc (.cells #[.int .i64 y.s.st, .int .i64 y.s.cnt, .string (str y.s.raw), .slice y.ae y.ne y.ce, .slice y.ac y.nc y.cc] 108) := ⟨_, rfl⟩
  have hA5 := (Below.refl w1.heap.size w1).alloc (Nat.le_refl _) (.cells #[.int .i64 y.s.st, .int .i64 y.s.cnt, .string (str y.s.raw), .slice y.ae y.ne y.ce, .slice y.ac y.nc y.cc] 108)
  rw [← hw2] at hA5
  have hB5 : Bx w2 q 108 [.int .i64 y.s.st, .int .i64 y.s.cnt, .string (str y.s.raw), .slice y.ae y.ne y.ce, .slice y.ac y.nc y.cc] := by rw [hw2, hq]; exact Bx.new w1 _ _
  rw [← hw2]
  rw [hs1] at hq
  rw [← hq]
  have H12 := Lib.hid (H1.out.call hA5)
  have H42 := Lib.hid hB5
  have HA2 := Lib.hid (HA.out.trans (hA5.mono HA.out.size))
  have hqb : b < q := by omega
  clear hw2 hA5 hB5 hq hs1 k0 k1 k2 k3 k4 x0 x1 x2 x3 x4 hix
  have y0 := H42.out.cell (i := 0) rfl
  go_wp2_with fail
  go_ret3
  exact ReadP.bad 8 rfl HA2.out
set_option maxRecDepth 100000 in
set_option maxHeartbeats 4000000 in
theorem rread_2 {w : World} {vL vS vD : Value} {M : Med} {P : Nat → Prop} {SS : List RS} (h : RmF P w vL vS vD M SS) (hn : M.n ≤ 4096) (hs : M.scr.length ≤ 256) {i : Nat} (hi : i < M.n) (hst : (M.sec i).st = 2) :
    Calls Try.prog 55 #[rmv M vL vS vD, .int .i64 (i : Nat)] w (ReadP ([], [], 9) w) := by
  have HF := Lib.hid h
  have hre := h.here
  obtain ⟨⟨aL, cL, rfl⟩, ⟨aS, cS, rfl⟩, aD, cD, rfl⟩ := hre.forms
  have HR := Lib.hid hre
  have hl1 := hre.l
  have hl2 := hre.e
  have hl3 := hre.x
  have hSn := hre.n
  obtain ⟨n, hnn⟩ : ∃ n, n = M.n := ⟨_, rfl⟩
  rw [← hnn] at hl1 hSn hi hn HR HF ⊢
  have HNN := Lib.hid hnn
  have HL1 := Lib.hid hl1
  have HL2 := Lib.hid hl2
  have HL3 := Lib.hid hl3
  have HSN := Lib.hid hSn
  have hz := zeroRM
  clear hl1 hl2 hl3 hSn hnn hre h
  obtain ⟨w1, hw1⟩ : ∃ w1, w1 = w.alloc (.cells #[.int .i64 M.kind, .int .i64 M.endu, .slice aL n cL, .slice aS M.scr.length cS, .slice aD n cD] 59) := ⟨_, rfl⟩
  have hA1 := (Below.refl w.heap.size w).alloc (Nat.le_refl _) (.cells #[.int .i64 M.kind, .int .i64 M.endu, .slice aL n cL, .slice aS M.scr.length cS, .slice aD n cD] 59)
  rw [← hw1] at hA1
  have hB1 : Bx w1 w.heap.size 59 [.int .i64 M.kind, .int .i64 M.endu, .slice aL n cL, .slice aS M.scr.length cS, .slice aD n cD] := by rw [hw1]; exact Bx.new w _ _
  obtain ⟨b, hb⟩ : ∃ b, b = w.heap.size := ⟨_, rfl⟩
  have hs1 : w1.heap.size = b + 1 := by rw [hw1, hb]; simp
  rw [← hb] at hB1
  have H1 := Lib.hid hB1
  have HA := Lib.hid hA1
  have HB := Lib.hid hb
  have HS := Lib.hid hs1
  have HW : Hid ((w.alloc (.cells #[.int .i64 M.kind, .int .i64 M.endu, .slice aL n cL, .slice aS M.scr.length cS, .slice aD n cD] 59)) = w1) := Lib.hid (by rw [hw1])
  clear hw1 hA1 hB1  hb
  have k0 := H1.out.cell (i := 0) rfl
  have k1 := H1.out.cell (i := 1) rfl
  have k2 := H1.out.cell (i := 2) rfl
  have k3 := H1.out.cell (i := 3) rfl
  have k4 := H1.out.cell (i := 4) rfl
  have hni : decide (n ≤ i) = false := decide_eq_false (by omega)
  have q0 : decide ((i : Int) < 0) = false := decide_eq_false (by omega)
  have q1 : decide ((n : Int) ≤ (i : Int)) = false := decide_eq_false (by omega)
  have hsl : i < SS.length := by rw [HSN.out]; exact hi
  obtain ⟨bl, off, hcell⟩ := RdD.at (RdD.keep HL1.out HA.out)
  obtain ⟨ha, hrg⟩ := hcell i hsl
  have hix := fun w' => run_idxS Try.underlying56 Try.sizeRS (cap := cL) ha hi (i : Int) rfl w'
  have HSM := Lib.hid (Med.sec_map HL2.out i)
  have HY := Lib.hid (HL3.out i hsl)
  have HSY := HSM.out
  generalize hye : atD rz SS i = y at *
  have x0 := hrg 0 _ rfl
  have x1 := hrg 1 _ rfl
  have x2 := hrg 2 _ rfl
  have x3 := hrg 3 (.slice y.ae y.ne y.ce) rfl
  have x4 := hrg 4 (.slice y.ac y.nc y.cc) rfl
  simp only [Nat.add_zero] at x0
  have HSYh := Lib.hid HSY
  have hzs : ∀ W, (zeroValue 108).run Try.prog W = .ok (.agg #[.int .i64 0, .int .i64 0, .string ⟨#[]⟩, .slice none 0 0, .slice none 0 0]) W := fun _ => by kernel_rfl
  clear ha hrg hcell HSM hye
  rw [HSY] at hst
  have e0 : ((y.s.st : Int) == 0) = false := by rw [hst]; rfl
  have e2 : ((y.s.st : Int) == 2) = true := by rw [hst]; rfl
  have e3 : ((y.s.st : Int) == 3) = false := by rw [hst]; rfl
  clear hst HSY
  unfold rmv
  go_enter Try.func55, Try.ntmps55
  go_upto_region 1 with (fail)
  rw [HW.out, ← HB.out]
  go_upto_region 4 with (fail)
  obtain ⟨q, hq⟩ : ∃ q, q = w1.heap.size := ⟨_, rfl⟩
  obtain ⟨w2, hw2⟩ : ∃ w2, w2 = w1.alloc (.cells #[.int .i64 y.s.st, .int .i64 y.s.cnt, .string (str y.s.raw), .slice y.ae y.ne y.ce, .slice y.ac y.nc y.cc] 108) := ⟨_, rfl⟩
  have hA5 := (Below.refl w1.heap.size w1).alloc (Nat.le_refl _) (.cells #[.int .i64 y.s.st, .int .i64 y.s.cnt, .string (str y.s.raw), .slice y.ae y.ne y.ce, .slice y.ac y.nc y.cc] 108)
  rw [← hw2] at hA5
  have hB5 : Bx w2 q 108 [.int .i64 y.s.st, .int .i64 y.s.cnt, .string (str y.s.raw), .slice y.ae y.ne y.ce, .slice y.ac y.nc y.cc] := by rw [hw2, hq]; exact Bx.new w1 _ _
  rw [← hw2]
  rw [hs1] at hq
  rw [← hq]
  have H12 := Lib.hid (H1.out.call hA5)
  have H42 := Lib.hid hB5
  have HA2 := Lib.hid (HA.out.trans (hA5.mono HA.out.size))
  have hqb : b < q := by omega
  clear hw2 hA5 hB5 hq hs1 k0 k1 k2 k3 k4 x0 x1 x2 x3 x4 hix
  have y0 := H42.out.cell (i := 0) rfl
  go_wp2_with fail
  go_ret3
  exact ReadP.bad 9 rfl HA2.out
set_option maxRecDepth 100000 in
set_option maxHeartbeats 4000000 in
theorem rread_3 {w : World} {vL vS vD : Value} {M : Med} {P : Nat → Prop} {SS : List RS} (h : RmF P w vL vS vD M SS) (hn : M.n ≤ 4096) (hs : M.scr.length ≤ 256) {i : Nat} (hi : i < M.n) (hst : (M.sec i).st = 3) :
    Calls Try.prog 55 #[rmv M vL vS vD, .int .i64 (i : Nat)] w (ReadP ([], [], 9) w) := by
  have HF := Lib.hid h
  have hre := h.here
  obtain ⟨⟨aL, cL, rfl⟩, ⟨aS, cS, rfl⟩, aD, cD, rfl⟩ := hre.forms
  have HR := Lib.hid hre
  have hl1 := hre.l
  have hl2 := hre.e
  have hl3 := hre.x
  have hSn := hre.n
  obtain ⟨n, hnn⟩ : ∃ n, n = M.n := ⟨_, rfl⟩
  rw [← hnn] at hl1 hSn hi hn HR HF ⊢
  have HNN := Lib.hid hnn
  have HL1 := Lib.hid hl1
  have HL2 := Lib.hid hl2
  have HL3 := Lib.hid hl3
  have HSN := Lib.hid hSn
  have hz := zeroRM
  clear hl1 hl2 hl3 hSn hnn hre h
  obtain ⟨w1, hw1⟩ : ∃ w1, w1 = w.alloc (.cells #[.int .i64 M.kind, .int .i64 M.endu, .slice aL n cL, .slice aS M.scr.length cS, .slice aD n cD] 59) := ⟨_, rfl⟩
  have hA1 := (Below.refl w.heap.size w).alloc (Nat.le_refl _) (.cells #[.int .i64 M.kind, .int .i64 M.endu, .slice aL n cL, .slice aS M.scr.length cS, .slice aD n cD] 59)
  rw [← hw1] at hA1
  have hB1 : Bx w1 w.heap.size 59 [.int .i64 M.kind, .int .i64 M.endu, .slice aL n cL, .slice aS M.scr.length cS, .slice aD n cD] := by rw [hw1]; exact Bx.new w _ _
  obtain ⟨b, hb⟩ : ∃ b, b = w.heap.size := ⟨_, rfl⟩
  have hs1 : w1.heap.size = b + 1 := by rw [hw1, hb]; simp
  rw [← hb] at hB1
  have H1 := Lib.hid hB1
  have HA := Lib.hid hA1
  have HB := Lib.hid hb
  have HS := Lib.hid hs1
  have HW : Hid ((w.alloc (.cells #[.int .i64 M.kind, .int .i64 M.endu, .slice aL n cL, .slice aS M.scr.length cS, .slice aD n cD] 59)) = w1) := Lib.hid (by rw [hw1])
  clear hw1 hA1 hB1  hb
  have k0 := H1.out.cell (i := 0) rfl
  have k1 := H1.out.cell (i := 1) rfl
  have k2 := H1.out.cell (i := 2) rfl
  have k3 := H1.out.cell (i := 3) rfl
  have k4 := H1.out.cell (i := 4) rfl
  have hni : decide (n ≤ i) = false := decide_eq_false (by omega)
  have q0 : decide ((i : Int) < 0) = false := decide_eq_false (by omega)
  have q1 : decide ((n : Int) ≤ (i : Int)) = false := decide_eq_false (by omega)
  have hsl : i < SS.length := by rw [HSN.out]; exact hi
  obtain ⟨bl, off, hcell⟩ := RdD.at (RdD.keep HL1.out HA.out)
  obtain ⟨ha, hrg⟩ := hcell i hsl
  have hix := fun w' => run_idxS Try.underlying56 Try.sizeRS (cap := cL) ha hi (i : Int) rfl w'
  have HSM := Lib.hid (Med.sec_map HL2.out i)
  have HY := Lib.hid (HL3.out i hsl)
  have HSY := HSM.out
  generalize hye : atD rz SS i = y at *
  have x0 := hrg 0 _ rfl
  have x1 := hrg 1 _ rfl
  have x2 := hrg 2 _ rfl
  have x3 := hrg 3 (.slice y.ae y.ne y.ce) rfl
  have x4 := hrg 4 (.slice y.ac y.nc y.cc) rfl
  simp only [Nat.add_zero] at x0
  have HSYh := Lib.hid HSY
  have hzs : ∀ W, (zeroValue 108).run Try.prog W = .ok (.agg #[.int .i64 0, .int .i64 0, .string ⟨#[]⟩, .slice none 0 0, .slice none 0 0]) W := fun _ => by kernel_rfl
  clear ha hrg hcell HSM hye
  rw [HSY] at hst
  have e0 : ((y.s.st : Int) == 0) = false := by rw [hst]; rfl
  have e2 : ((y.s.st : Int) == 2) = false := by rw [hst]; rfl
  have e3 : ((y.s.st : Int) == 3) = true := by rw [hst]; rfl
  clear hst HSY
  unfold rmv
  go_enter Try.func55, Try.ntmps55
  go_upto_region 1 with (fail)
  rw [HW.out, ← HB.out]
  go_upto_region 4 with (fail)
  obtain ⟨q, hq⟩ : ∃ q, q = w1.heap.size := ⟨_, rfl⟩
  obtain ⟨w2, hw2⟩ : ∃ w2, w2 = w1.alloc (.cells #[.int .i64 y.s.st, .int .i64 y.s.cnt, .string (str y.s.raw), .slice y.ae y.ne y.ce, .slice y.ac y.nc y.cc] 108) := ⟨_, rfl⟩
  have hA5 := (Below.refl w1.heap.size w1).alloc (Nat.le_refl _) (.cells #[.int .i64 y.s.st, .int .i64 y.s.cnt, .string (str y.s.raw), .slice y.ae y.ne y.ce, .slice y.ac y.nc y.cc] 108)
  rw [← hw2] at hA5
  have hB5 : Bx w2 q 108 [.int .i64 y.s.st, .int .i64 y.s.cnt, .string (str y.s.raw), .slice y.ae y.ne y.ce, .slice y.ac y.nc y.cc] := by rw [hw2, hq]; exact Bx.new w1 _ _
  rw [← hw2]
  rw [hs1] at hq
  rw [← hq]
  have H12 := Lib.hid (H1.out.call hA5)
  have H42 := Lib.hid hB5
  have HA2 := Lib.hid (HA.out.trans (hA5.mono HA.out.size))
  have hqb : b < q := by omega
  clear hw2 hA5 hB5 hq hs1 k0 k1 k2 k3 k4 x0 x1 x2 x3 x4 hix
  have y0 := H42.out.cell (i := 0) rfl
  go_wp2_with fail
  go_ret3
  exact ReadP.bad 9 rfl HA2.out
set_option maxRecDepth 100000 in
set_option maxHeartbeats 4000000 in
theorem rread_N {w : World} {vL vS vD : Value} {M : Med} {P : Nat → Prop} {SS : List RS} (h : RmF P w vL vS vD M SS) (hn : M.n ≤ 4096) (hs : M.scr.length ≤ 256) {i : Nat} (hi : i < M.n) (hst : (M.sec i).st = 1) (hrl : (M.sec i).raw.length = 2352) (hcc : ∀ y : RS, M.secs = SS.map RS.s → atD rz SS i = y → y.nc = 0) :
    Calls Try.prog 55 #[rmv M vL vS vD, .int .i64 (i : Nat)] w (ReadP (M.out i, M.gone i, 0) w) := by
  have HF := Lib.hid h
  have hre := h.here
  obtain ⟨⟨aL, cL, rfl⟩, ⟨aS, cS, rfl⟩, aD, cD, rfl⟩ := hre.forms
  have HR := Lib.hid hre
  have hl1 := hre.l
  have hl2 := hre.e
  have hl3 := hre.x
  have hSn := hre.n
  obtain ⟨n, hnn⟩ : ∃ n, n = M.n := ⟨_, rfl⟩
  rw [← hnn] at hl1 hSn hi hn HR HF ⊢
  have HNN := Lib.hid hnn
  have HL1 := Lib.hid hl1
  have HL2 := Lib.hid hl2
  have HL3 := Lib.hid hl3
  have HSN := Lib.hid hSn
  have hz := zeroRM
  clear hl1 hl2 hl3 hSn hnn hre h
  obtain ⟨w1, hw1⟩ : ∃ w1, w1 = w.alloc (.cells #[.int .i64 M.kind, .int .i64 M.endu, .slice aL n cL, .slice aS M.scr.length cS, .slice aD n cD] 59) := ⟨_, rfl⟩
  have hA1 := (Below.refl w.heap.size w).alloc (Nat.le_refl _) (.cells #[.int .i64 M.kind, .int .i64 M.endu, .slice aL n cL, .slice aS M.scr.length cS, .slice aD n cD] 59)
  rw [← hw1] at hA1
  have hB1 : Bx w1 w.heap.size 59 [.int .i64 M.kind, .int .i64 M.endu, .slice aL n cL, .slice aS M.scr.length cS, .slice aD n cD] := by rw [hw1]; exact Bx.new w _ _
  obtain ⟨b, hb⟩ : ∃ b, b = w.heap.size := ⟨_, rfl⟩
  have hs1 : w1.heap.size = b + 1 := by rw [hw1, hb]; simp
  rw [← hb] at hB1
  have H1 := Lib.hid hB1
  have HA := Lib.hid hA1
  have HB := Lib.hid hb
  have HS := Lib.hid hs1
  have HW : Hid ((w.alloc (.cells #[.int .i64 M.kind, .int .i64 M.endu, .slice aL n cL, .slice aS M.scr.length cS, .slice aD n cD] 59)) = w1) := Lib.hid (by rw [hw1])
  clear hw1 hA1 hB1  hb
  have k0 := H1.out.cell (i := 0) rfl
  have k1 := H1.out.cell (i := 1) rfl
  have k2 := H1.out.cell (i := 2) rfl
  have k3 := H1.out.cell (i := 3) rfl
  have k4 := H1.out.cell (i := 4) rfl
  have hni : decide (n ≤ i) = false := decide_eq_false (by omega)
  have q0 : decide ((i : Int) < 0) = false := decide_eq_false (by omega)
  have q1 : decide ((n : Int) ≤ (i : Int)) = false := decide_eq_false (by omega)
  have HGL : Hid (∀ k, k < 2352 → erF (M.sec i).er (lostS n M.scr i) k = M.goneP i k) := Lib.hid fun k hk => by rw [HNN.out]; exact gone_lost M i hk
  have HOA := Lib.hid (outK_all M i)
  have HGO : Hid (gonK (M.goneP i) 2352 = M.gone i) := Lib.hid rfl
  have hsl : i < SS.length := by rw [HSN.out]; exact hi
  obtain ⟨bl, off, hcell⟩ := RdD.at (RdD.keep HL1.out HA.out)
  obtain ⟨ha, hrg⟩ := hcell i hsl
  have hix := fun w' => run_idxS Try.underlying56 Try.sizeRS (cap := cL) ha hi (i : Int) rfl w'
  have HSM := Lib.hid (Med.sec_map HL2.out i)
  have HY := Lib.hid (HL3.out i hsl)
  have HSY := HSM.out
  have hcc2 := hcc _ HL2.out rfl
  clear hcc
  generalize hye : atD rz SS i = y at *
  have x0 := hrg 0 _ rfl
  have x1 := hrg 1 _ rfl
  have x2 := hrg 2 _ rfl
  have x3 := hrg 3 (.slice y.ae y.ne y.ce) rfl
  have x4 := hrg 4 (.slice y.ac y.nc y.cc) rfl
  simp only [Nat.add_zero] at x0
  have HSYh := Lib.hid HSY
  have hzs : ∀ W, (zeroValue 108).run Try.prog W = .ok (.agg #[.int .i64 0, .int .i64 0, .string ⟨#[]⟩, .slice none 0 0, .slice none 0 0]) W := fun _ => by kernel_rfl
  clear ha hrg hcell HSM hye
  rw [HSY] at hst hrl HGL HOA
  have e0 : ((y.s.st : Int) == 0) = false := by rw [hst]; rfl
  have e2 : ((y.s.st : Int) == 2) = false := by rw [hst]; rfl
  have e3 : ((y.s.st : Int) == 3) = false := by rw [hst]; rfl
  have HRL := Lib.hid hrl
  have hcp1 : decide (0 < y.nc) = false := decide_eq_false (by omega)
  have hcp2 : decide (0 < (y.nc : Int)) = false := decide_eq_false (by omega)
  have HCC := Lib.hid hcc2
  clear hst HSY hrl hcc2
  unfold rmv
  go_enter Try.func55, Try.ntmps55
  go_upto_region 1 with (fail)
  rw [HW.out, ← HB.out]
  go_upto_region 4 with (fail)
  obtain ⟨q, hq⟩ : ∃ q, q = w1.heap.size := ⟨_, rfl⟩
  obtain ⟨w2, hw2⟩ : ∃ w2, w2 = w1.alloc (.cells #[.int .i64 y.s.st, .int .i64 y.s.cnt, .string (str y.s.raw), .slice y.ae y.ne y.ce, .slice y.ac y.nc y.cc] 108) := ⟨_, rfl⟩
  have hA5 := (Below.refl w1.heap.size w1).alloc (Nat.le_refl _) (.cells #[.int .i64 y.s.st, .int .i64 y.s.cnt, .string (str y.s.raw), .slice y.ae y.ne y.ce, .slice y.ac y.nc y.cc] 108)
  rw [← hw2] at hA5
  have hB5 : Bx w2 q 108 [.int .i64 y.s.st, .int .i64 y.s.cnt, .string (str y.s.raw), .slice y.ae y.ne y.ce, .slice y.ac y.nc y.cc] := by rw [hw2, hq]; exact Bx.new w1 _ _
  rw [← hw2]
  rw [hs1] at hq
  rw [← hq]
  have H12 := Lib.hid (H1.out.call hA5)
  have H42 := Lib.hid hB5
  have HA2 := Lib.hid (HA.out.trans (hA5.mono HA.out.size))
  have hqb : b < q := by omega
  clear hw2 hA5 hB5 hq hs1 k0 k1 k2 k3 k4 x0 x1 x2 x3 x4 hix
  have y0 := H42.out.cell (i := 0) rfl
  obtain ⟨gE, hgE⟩ : ∃ gE, gE = w2.heap.size := ⟨_, rfl⟩
  have HGgE := Lib.hid hgE
  have hqgE : q < gE := by rw [hgE]; exact H42.out.lt
  clear hgE
  obtain ⟨le, hle1, hle2⟩ := (HY.out.e)
  have HLE1 := Lib.hid hle1
  have HLE2 := Lib.hid hle2
  obtain ⟨lc, hlc1, hlc2⟩ := (HY.out.c)
  have HLC1 := Lib.hid hlc1
  have HLC2 := Lib.hid hlc2
  have HCZ := Lib.hid (chg_none hlc1 hlc2 HCC.out)
  clear hle1 hle2 hlc1 hlc2
  go_upto_region 11 with (first
    | (refine wpList_mkBool rfl _ _ rfl Try.underlying91 Try.infoB12b 2352 rfl rfl rfl rfl (by omega) ?_
       intro w3 hx3 hb3
       rw [← HGgE.out] at hx3 ⊢
       have HX3 := Lib.hid hx3
       have HB3 := Lib.hid hb3
       clear hx3 hb3)
    | fail)
  have H13 := Lib.hid (H12.out.call HB3.out)
  have H43 := Lib.hid (H42.out.call HB3.out)
  have HA3 := Lib.hid (HA2.out.trans (HB3.out.mono HA2.out.size))
  clear y0
  have y3 := H43.out.cell (i := 3) rfl
  go_upto_region 12 with (first
    | (refine wpList_cpE rfl _ _ rfl Try.underlying91 Try.sizeB12 y.ae y.ne y.ce gE rfl rfl HX3.out (RdD.keep HLE1.out HA3.out) HLE2.out (by rw [HGgE.out]; exact Nat.le_refl _) HB3.out ?_
       intro w4 hx4 hb4
       have HX4 := Lib.hid hx4
       have HB4 := Lib.hid hb4
       clear hx4 hb4)
    | fail)
  clear y3
  obtain ⟨dv, hdv1, hdv2⟩ := HR.out.d
  rw [← HNN.out] at hdv1 hdv2
  obtain ⟨aT, cT, _, _, hdvi, _⟩ := (hdv2 i hi).2.1
  have HTI : Hid (RdI w (.slice aT (lostS n M.scr i).length cT) (lostS n M.scr i)) := Lib.hid (by have := hdv2 i hi; rwa [hdvi] at this)
  obtain ⟨aD9, cD9, bD, oD, heD, _, hcD⟩ := hdv1
  simp only [Value.slice.injEq] at heD
  obtain ⟨rfl, _, rfl⟩ := heD
  have hcDi := hcD i hi
  simp only [hdvi] at hcDi
  have HTB := Lib.hid (lostS_bd n M.scr i)
  clear hdv2 hdvi hcD
  have hixD := fun w' => run_idxS Try.underlying57 (by kernel_rfl : (Try.prog.info? 30).map (·.size) = some 1) (cap := cD) hcDi.1 hi (i : Int) rfl w'
  have hcDc : w.cell? ⟨bD, oD + i * 1, none⟩ = some (.slice aT (lostS n M.scr i).length cT) := by simpa using hcDi.2 0 _ rfl
  have HDC := Lib.hid hcDc
  obtain ⟨T, hT⟩ : ∃ T, T = lostS n M.scr i := ⟨_, rfl⟩
  rw [← hT] at hcDc HTI HTB HGL HDC
  clear hT hcDc hcDi
  simp only [Nat.mul_one] at hixD
  have hTl : T.length ≤ 2352 ∨ True := .inr trivial
  go_wp2_with fail
  go_loopw [9] (fun vk wr => ∃ k : Nat, k ≤ T.length ∧ vk = .int .i64 k ∧ Bx wr gE 4 (bb (mkE (erF y.s.er (T.take k)))) ∧ Below w2.heap.size w2 wr) (fun vk _ => T.length - (RowKit.intOf vk).toNat)
  case atStart => exact ⟨0, by omega, rfl, by rw [List.take_zero, erF_nil]; exact HX4.out, HB4.out⟩
  case round =>
    obtain ⟨k, hk, rfl, hX, hb⟩ := hrel
    have HXr := Lib.hid hX
    have HBr := Lib.hid hb
    have k4 := (H12.out.call hb).cell (i := 4) rfl
    have hbw := HA2.out.trans (hb.mono HA2.out.size)
    have hcDr : wr.cell? ⟨bD, oD + i, none⟩ = some (.slice aT T.length cT) := by
      have h1 := HDC.out
      rw [Nat.mul_one] at h1
      exact (hbw.cell (p := ⟨bD, oD + i, none⟩) (World.block_lt_of_cell? w _ h1)).trans h1
    obtain ⟨hTl, ⟨aT', cT', bT, oT, hTe, hTc, hTcell⟩, hTw⟩ := HTI.out
    simp only [Value.slice.injEq] at hTe
    obtain ⟨rfl, _, rfl⟩ := hTe
    by_cases hlt : k < T.length
    · obtain ⟨hta, hcell0⟩ := hTcell k hlt
      have hcell := (hbw.cell (p := ⟨bT, oT + k, none⟩) (World.block_lt_of_cell? w _ hcell0)).trans hcell0
      have hix := fun w' => run_idxS Try.underlying30 Try.sizeInt9 (cap := cT) hta hlt (k : Int) rfl w'
      simp only [Nat.mul_one] at hix
      have hin := HTB.out _ (D13.ixI_mem hlt)
      obtain ⟨a, hax⟩ : ∃ a : Nat, ixI T k = (a : Int) := ⟨(ixI T k).toNat, by omega⟩
      have hal : a < 2352 := by omega
      have HSN2 := Lib.hid (mkE_snoc y.s.er hlt hax hal)
      rw [hax] at hcell
      have hixg := fun w' => run_idxS Try.underlying91 Try.sizeB12 (a := some ⟨gE, 0, none⟩) (n := 2352) (cap := 2352) (k := a) (b := gE) (off := 0) rfl hal (a : Int) rfl w'
      simp only [Nat.mul_one, Nat.zero_add] at hixg
      have hgc : wr.cell? ⟨gE, a, none⟩ = some (.bool (erF y.s.er (T.take k) a)) := hX.cell (bb_get (mkE_get _ hal))
      have hgf := hX.free a
      clear hin hax hcell0 hX hb hTcell hTw hTc hta hbw
      go_wp2_with fail
      go_roundw
      case rel => exact ⟨k + 1, by omega, by go_num, by have := HXr.out.set a (.bool true); rw [HSN2.out] at this; exact this, HBr.out.setCell (p := ⟨gE, a, none⟩) (by rw [HGgE.out]; exact Nat.le_refl _) _⟩
      case measure => simp [RowKit.intOf]; omega
    · obtain rfl : k = T.length := by omega
      obtain ⟨wo, rfl⟩ : ∃ wo : World, wo = wr := ⟨_, rfl⟩
      rw [List.take_length] at hX
      rw [show mkE (erF y.s.er T) = mkE (M.goneP i) from mkE_congr fun j hj => HGL.out j hj] at hX
      have HX9 := Lib.hid hX
      have H19 := Lib.hid (H12.out.call hb)
      have H49 := Lib.hid (H42.out.call hb)
      have HA9 := Lib.hid hbw
      have y2 := (H42.out.call hb).cell (i := 2) rfl
      clear hX hb hbw hTcell hTw hTc
      obtain ⟨sraw, hsr⟩ : ∃ s, s = str y.s.raw := ⟨_, rfl⟩
      have hsz : sraw.size = 2352 := by rw [hsr, str_size, HRL.out]
      have hsd : sraw.data.toList = y.s.raw := by rw [hsr]; rfl
      rw [← hsr] at y2
      have HSZ := Lib.hid hsz
      have HSD := Lib.hid hsd
      clear hsz hsd hsr
      go_upto_region 17 with (first
        | (refine wpList_bytes rfl _ rfl Try.underlying9 Try.underlying52 Try.underlying5 rfl ?_
           intro w5 cap hr5 hb5 hcap5)
        | fail)
      rw [HSZ.out]
      rw [HSD.out, ← outK_zero y.s.ch (M.goneP i) HRL.out] at hr5
      obtain ⟨gO, hgO⟩ : ∃ gO, gO = wo.heap.size := ⟨_, rfl⟩
      have HGgO := Lib.hid hgO
      rw [← hgO] at hr5 ⊢
      have hEO : gE < gO := by rw [hgO]; exact HX9.out.lt
      have hqO : q < gO := by omega
      have hA6 := (Below.refl w5.heap.size w5).alloc (Nat.le_refl _) (.cells #[] 3)
      have hOwn6 : (w5.alloc (.cells #[] 3)).ownsRow w5.heap.size 3 1 (.slice (some ⟨w5.heap.size, 0, none⟩) 0 0) 0 (is []) := World.ownsRow_lit w5 #[] 0 (Nat.le_refl _) (by simp [maxLen]) (by simp)
      obtain ⟨gA, hgA⟩ : ∃ gA, gA = w5.heap.size := ⟨_, rfl⟩
      have HGgA := Lib.hid hgA
      have hOA : gO < gA := by rw [hgA]; exact hr5.lt
      have hr6 := hr5.below hA6
      have hx6 := (HX9.out.call hb5).call hA6
      have h46 := (H49.out.call hb5).call hA6
      have hb6 := hb5.trans (hA6.mono hb5.size)
      rw [← hgA] at hOwn6 ⊢
      generalize w5.alloc (.cells #[] 3) = w6 at *
      have hA6s : w6.heap.size ≥ gA := by rw [hgA]; exact hA6.size
      have HR6 := Lib.hid hr6
      have HX6 := Lib.hid hx6
      have H46 := Lib.hid h46
      have HO6 := Lib.hid hOwn6
      have HB6 := Lib.hid (HA9.out.trans (hb6.mono HA9.out.size))
      have HLCr := Lib.hid (HLC1.out.keep HB6.out)
      clear hr5 hb5 hA6 hOwn6 hr6 hx6 h46 hb6 hgO hgA y2 hcap5
      clear hcDr k4 hixD
      have HRW6 := Lib.hid (Below.refl gO w6)
      generalize hgp : M.goneP i = gp at *
      have HGP := Lib.hid hgp
      clear hgp
      go_wp2_with fail
      go_loopw [11, 12] (fun va vk wr => ∃ k : Nat, k ≤ 2352 ∧ vk = .int .i64 k ∧ Row wr 5 gO cap (outK y.s.raw y.s.ch gp k) ∧ wr.ownsRow gA 3 1 va (gonK gp k).length (is (gonK gp k)) ∧ Below gO w6 wr) (fun _ vk _ => 2352 - (RowKit.intOf vk).toNat)
      case atStart => exact ⟨0, by omega, rfl, HR6.out, HO6.out, HRW6.out⟩
      case round =>
        obtain ⟨k, hk, rfl, hrw, hro, hbz⟩ := hrel
        have hbs := hbz.size
        have y4 := (H46.out.keepB hbz hqO).cell (i := 4) rfl
        by_cases hlt : k < 2352
        · have hgk := (HX6.out.keepB hbz hEO).cell (bb_get (mkE_get gp hlt))
          have hixE := fun w' => run_idxS Try.underlying91 Try.sizeB12 (a := some ⟨gE, 0, none⟩) (n := 2352) (cap := 2352) (k := k) (b := gE) (off := 0) rfl hlt (k : Int) rfl w'
          have hixO := fun w' => run_idxS Try.underlying52 Try.sizeU8 (a := some ⟨gO, 0, none⟩) (n := 2352) (cap := cap) (k := k) (b := gO) (off := 0) rfl hlt (k : Int) rfl w'
          simp only [Nat.mul_one, Nat.zero_add] at hixE hixO
          have hoc := hrw.cell k (by rw [outK_len]; exact hlt)
          rw [outK_ix hlt] at hoc
          have hof := hrw.frozen k (by have := hrw.le; rw [outK_len] at this; omega)
          by_cases hgb : gp k = true
          · have HGK := Lib.hid hgb
            rw [hgb] at hgk
            have HGT := Lib.hid (gonK_t hgb)
            have hs := hrw.store k 0 (by rw [outK_len]; exact hlt)
            rw [outK_step (by rw [if_pos hgb])] at hs
            have HRW := Lib.hid (show Row (wr.setCell ⟨gO, k, none⟩ (.int .u8 0)) _ _ _ _ from hs)
            have hro2 := ownD_far hro (p := ⟨gO, k, none⟩) hOA (.int .u8 0)
            have HBZ := Lib.hid (hbz.setCell (p := ⟨gO, k, none⟩) (Nat.le_refl _) (.int .u8 0))
            clear hs hrw hro hbz
            generalize hbyte : B (byteA y.s.raw k) = old at hoc
            clear hbyte hgb
            go_upto_region 24 with (fail)
            generalize wr.setCell ⟨gO, k, none⟩ (.int .u8 0) = wy at *
            have hsy : gA ≤ wy.heap.size := by have := HBZ.out.size; omega
            have hoA := ownD_keep hro2 ((Below.refl wy.heap.size wy).alloc (Nat.le_refl _) (.cells #[.int .i64 (k : Int)] 3))
            have hbA := (Below.refl wy.heap.size wy).alloc (Nat.le_refl _) (.cells #[.int .i64 (k : Int)] 3)
            have HBA := Lib.hid (HBZ.out.trans (hbA.mono (by omega)))
            have hbas : gA ≤ (wy.alloc (.cells #[.int .i64 (k : Int)] 3)).heap.size := Nat.le_trans hsy hbA.size
            have hrd := D13.reads_lit wy [(k : Int)] 3 (by simp)
            have HRA := Lib.hid (HRW.out.below hbA)
            have hgl := gonK_len gp k
            have HOA2 := Lib.hid hoA
            clear hro2
            go_wp2_with (at_builtin; refine D13.wpList_appI rfl _ _ rfl Try.underlying30 Try.infoInt9 hoA rfl hrd rfl (by simp only [List.length_singleton]; omega) hbas ?_; intro v8 w8 hown8 hgr8)
            have hb8 := HBA.out.grown hgr8 (by have := HBA.out.size; omega) (fun j hj => by have := ownD_block HOA2.out j hj; omega)
            have hr8 := HRA.out.keep (w' := w8) (hgr8.block gO (by have := HRA.out.lt; exact this) fun e => by have := ownD_block HOA2.out gO e.symm; omega)
            go_roundw
            case rel => exact ⟨k + 1, by omega, by go_num, hr8, by rw [HGT.out, List.length_append]; exact hown8, hb8⟩
            case measure => simp [RowKit.intOf]; omega
          · have hgb2 : gp k = false := by simpa using hgb
            have HGK := Lib.hid hgb2
            rw [hgb2] at hgk
            have HGF := Lib.hid (gonK_f hgb2)
            have hc0 : y.s.ch k = 0 := HCZ.out k hlt
            have hsk := outK_skip (raw := y.s.raw) hgb2 hc0
            rw [hsk] at hrw
            have HRW := Lib.hid hrw
            have HRO := Lib.hid hro
            have HBZ := Lib.hid hbz
            clear hrw hro hbz hsk hc0 hgb hgb2
            go_wp2_with fail
            go_roundw
            case rel => exact ⟨k + 1, by omega, by go_num, HRW.out, by rw [HGF.out]; exact HRO.out, HBZ.out⟩
            case measure => simp [RowKit.intOf]; omega
        · obtain rfl : k = 2352 := by omega
          rw [HOA.out] at hrw
          rw [HGO.out] at hro
          have hl : (M.out i).length = 2352 := out_length M i
          have hrd := hrw.rd (by omega)
          rw [hl] at hrd
          have hcx := run_str (P := Try.prog) Try.underlying52 Try.underlying5 Try.underlying9 hrd
          obtain ⟨a3, c3, rfl⟩ := ownD_form hro
          have HFIN : Hid (ReadP (M.out i, M.gone i, 0) w (.returned (.tuple #[.string (str (M.out i)), .slice a3 (M.gone i).length c3, .int .i64 0])) wr) := Lib.hid ⟨_, rfl, own_mono hro (by have := HGgO.out; have := HA9.out.size; omega), HB6.out.trans (hbz.mono (by have := HGgO.out; have := HA9.out.size; omega))⟩
          clear hrw hro hrd hbz y4
          go_wp2_with fail
          go_ret3
          exact HFIN.out
set_option maxRecDepth 100000 in
set_option maxHeartbeats 4000000 in
theorem rread_C {w : World} {vL vS vD : Value} {M : Med} {P : Nat → Prop} {SS : List RS} (h : RmF P w vL vS vD M SS) (hn : M.n ≤ 4096) (hs : M.scr.length ≤ 256) {i : Nat} (hi : i < M.n) (hst : (M.sec i).st = 1) (hrl : (M.sec i).raw.length = 2352) (hcc : ∀ y : RS, M.secs = SS.map RS.s → atD rz SS i = y → ¬ y.nc = 0) :
    Calls Try.prog 55 #[rmv M vL vS vD, .int .i64 (i : Nat)] w (ReadP (M.out i, M.gone i, 0) w) := by
  have HF := Lib.hid h
  have hre := h.here
  obtain ⟨⟨aL, cL, rfl⟩, ⟨aS, cS, rfl⟩, aD, cD, rfl⟩ := hre.forms
  have HR := Lib.hid hre
  have hl1 := hre.l
  have hl2 := hre.e
  have hl3 := hre.x
  have hSn := hre.n
  obtain ⟨n, hnn⟩ : ∃ n, n = M.n := ⟨_, rfl⟩
  rw [← hnn] at hl1 hSn hi hn HR HF ⊢
  have HNN := Lib.hid hnn
  have HL1 := Lib.hid hl1
  have HL2 := Lib.hid hl2
  have HL3 := Lib.hid hl3
  have HSN := Lib.hid hSn
  have hz := zeroRM
  clear hl1 hl2 hl3 hSn hnn hre h
  obtain ⟨w1, hw1⟩ : ∃ w1, w1 = w.alloc (.cells #[.int .i64 M.kind, .int .i64 M.endu, .slice aL n cL, .slice aS M.scr.length cS, .slice aD n cD] 59) := ⟨_, rfl⟩
  have hA1 := (Below.refl w.heap.size w).alloc (Nat.le_refl _) (.cells #[.int .i64 M.kind, .int .i64 M.endu, .slice aL n cL, .slice aS M.scr.length cS, .slice aD n cD] 59)
  rw [← hw1] at hA1
  have hB1 : Bx w1 w.heap.size 59 [.int .i64 M.kind, .int .i64 M.endu, .slice aL n cL, .slice aS M.scr.length cS, .slice aD n cD] := by rw [hw1]; exact Bx.new w _ _
  obtain ⟨b, hb⟩ : ∃ b, b = w.heap.size := ⟨_, rfl⟩
  have hs1 : w1.heap.size = b + 1 := by rw [hw1, hb]; simp
  rw [← hb] at hB1
  have H1 := Lib.hid hB1
  have HA := Lib.hid hA1
  have HB := Lib.hid hb
  have HS := Lib.hid hs1
  have HW : Hid ((w.alloc (.cells #[.int .i64 M.kind, .int .i64 M.endu, .slice aL n cL, .slice aS M.scr.length cS, .slice aD n cD] 59)) = w1) := Lib.hid (by rw [hw1])
  clear hw1 hA1 hB1  hb
  have k0 := H1.out.cell (i := 0) rfl
  have k1 := H1.out.cell (i := 1) rfl
  have k2 := H1.out.cell (i := 2) rfl
  have k3 := H1.out.cell (i := 3) rfl
  have k4 := H1.out.cell (i := 4) rfl
  have hni : decide (n ≤ i) = false := decide_eq_false (by omega)
  have q0 : decide ((i : Int) < 0) = false := decide_eq_false (by omega)
  have q1 : decide ((n : Int) ≤ (i : Int)) = false := decide_eq_false (by omega)
  have HGL : Hid (∀ k, k < 2352 → erF (M.sec i).er (lostS n M.scr i) k = M.goneP i k) := Lib.hid fun k hk => by rw [HNN.out]; exact gone_lost M i hk
  have HOA := Lib.hid (outK_all M i)
  have HGO : Hid (gonK (M.goneP i) 2352 = M.gone i) := Lib.hid rfl
  have hsl : i < SS.length := by rw [HSN.out]; exact hi
  obtain ⟨bl, off, hcell⟩ := RdD.at (RdD.keep HL1.out HA.out)
  obtain ⟨ha, hrg⟩ := hcell i hsl
  have hix := fun w' => run_idxS Try.underlying56 Try.sizeRS (cap := cL) ha hi (i : Int) rfl w'
  have HSM := Lib.hid (Med.sec_map HL2.out i)
  have HY := Lib.hid (HL3.out i hsl)
  have HSY := HSM.out
  have hcc2 := hcc _ HL2.out rfl
  clear hcc
  generalize hye : atD rz SS i = y at *
  have x0 := hrg 0 _ rfl
  have x1 := hrg 1 _ rfl
  have x2 := hrg 2 _ rfl
  have x3 := hrg 3 (.slice y.ae y.ne y.ce) rfl
  have x4 := hrg 4 (.slice y.ac y.nc y.cc) rfl
  simp only [Nat.add_zero] at x0
  have HSYh := Lib.hid HSY
  have hzs : ∀ W, (zeroValue 108).run Try.prog W = .ok (.agg #[.int .i64 0, .int .i64 0, .string ⟨#[]⟩, .slice none 0 0, .slice none 0 0]) W := fun _ => by kernel_rfl
  clear ha hrg hcell HSM hye
  rw [HSY] at hst hrl HGL HOA
  have e0 : ((y.s.st : Int) == 0) = false := by rw [hst]; rfl
  have e2 : ((y.s.st : Int) == 2) = false := by rw [hst]; rfl
  have e3 : ((y.s.st : Int) == 3) = false := by rw [hst]; rfl
  have HRL := Lib.hid hrl
  have hcp : 0 < y.nc := Nat.pos_of_ne_zero hcc2
  have hcp1 : decide (0 < y.nc) = true := decide_eq_true hcp
  have hcp2 : decide (0 < (y.nc : Int)) = true := decide_eq_true (by omega)
  have HCC := Lib.hid hcc2
  clear hst HSY hrl hcc2
  unfold rmv
  go_enter Try.func55, Try.ntmps55
  go_upto_region 1 with (fail)
  rw [HW.out, ← HB.out]
  go_upto_region 4 with (fail)
  obtain ⟨q, hq⟩ : ∃ q, q = w1.heap.size := ⟨_, rfl⟩
  obtain ⟨w2, hw2⟩ : ∃ w2, w2 = w1.alloc (.cells #[.int .i64 y.s.st, .int .i64 y.s.cnt, .string (str y.s.raw), .slice y.ae y.ne y.ce, .slice y.ac y.nc y.cc] 108) := ⟨_, rfl⟩
  have hA5 := (Below.refl w1.heap.size w1).alloc (Nat.le_refl _) (.cells #[.int .i64 y.s.st, .int .i64 y.s.cnt, .string (str y.s.raw), .slice y.ae y.ne y.ce, .slice y.ac y.nc y.cc] 108)
  rw [← hw2] at hA5
  have hB5 : Bx w2 q 108 [.int .i64 y.s.st, .int .i64 y.s.cnt, .string (str y.s.raw), .slice y.ae y.ne y.ce, .slice y.ac y.nc y.cc] := by rw [hw2, hq]; exact Bx.new w1 _ _
  rw [← hw2]
  rw [hs1] at hq
  rw [← hq]
  have H12 := Lib.hid (H1.out.call hA5)
  have H42 := Lib.hid hB5
  have HA2 := Lib.hid (HA.out.trans (hA5.mono HA.out.size))
  have hqb : b < q := by omega
  clear hw2 hA5 hB5 hq hs1 k0 k1 k2 k3 k4 x0 x1 x2 x3 x4 hix
  have y0 := H42.out.cell (i := 0) rfl
  obtain ⟨gE, hgE⟩ : ∃ gE, gE = w2.heap.size := ⟨_, rfl⟩
  have HGgE := Lib.hid hgE
  have hqgE : q < gE := by rw [hgE]; exact H42.out.lt
  clear hgE
  obtain ⟨le, hle1, hle2⟩ := (HY.out.e)
  have HLE1 := Lib.hid hle1
  have HLE2 := Lib.hid hle2
  obtain ⟨lc, hlc1, hlc2⟩ := (HY.out.c)
  have HLC1 := Lib.hid hlc1
  have HLC2 := Lib.hid hlc2
  obtain ⟨hcn, bC, oC, hch⟩ := chg_row hlc1 hlc2 HCC.out
  have HCN := Lib.hid hcn
  have HCH := Lib.hid hch
  clear hcn hch
  clear hle1 hle2 hlc1 hlc2
  go_upto_region 11 with (first
    | (refine wpList_mkBool rfl _ _ rfl Try.underlying91 Try.infoB12b 2352 rfl rfl rfl rfl (by omega) ?_
       intro w3 hx3 hb3
       rw [← HGgE.out] at hx3 ⊢
       have HX3 := Lib.hid hx3
       have HB3 := Lib.hid hb3
       clear hx3 hb3)
    | fail)
  have H13 := Lib.hid (H12.out.call HB3.out)
  have H43 := Lib.hid (H42.out.call HB3.out)
  have HA3 := Lib.hid (HA2.out.trans (HB3.out.mono HA2.out.size))
  clear y0
  have y3 := H43.out.cell (i := 3) rfl
  go_upto_region 12 with (first
    | (refine wpList_cpE rfl _ _ rfl Try.underlying91 Try.sizeB12 y.ae y.ne y.ce gE rfl rfl HX3.out (RdD.keep HLE1.out HA3.out) HLE2.out (by rw [HGgE.out]; exact Nat.le_refl _) HB3.out ?_
       intro w4 hx4 hb4
       have HX4 := Lib.hid hx4
       have HB4 := Lib.hid hb4
       clear hx4 hb4)
    | fail)
  clear y3
  obtain ⟨dv, hdv1, hdv2⟩ := HR.out.d
  rw [← HNN.out] at hdv1 hdv2
  obtain ⟨aT, cT, _, _, hdvi, _⟩ := (hdv2 i hi).2.1
  have HTI : Hid (RdI w (.slice aT (lostS n M.scr i).length cT) (lostS n M.scr i)) := Lib.hid (by have := hdv2 i hi; rwa [hdvi] at this)
  obtain ⟨aD9, cD9, bD, oD, heD, _, hcD⟩ := hdv1
  simp only [Value.slice.injEq] at heD
  obtain ⟨rfl, _, rfl⟩ := heD
  have hcDi := hcD i hi
  simp only [hdvi] at hcDi
  have HTB := Lib.hid (lostS_bd n M.scr i)
  clear hdv2 hdvi hcD
  have hixD := fun w' => run_idxS Try.underlying57 (by kernel_rfl : (Try.prog.info? 30).map (·.size) = some 1) (cap := cD) hcDi.1 hi (i : Int) rfl w'
  have hcDc : w.cell? ⟨bD, oD + i * 1, none⟩ = some (.slice aT (lostS n M.scr i).length cT) := by simpa using hcDi.2 0 _ rfl
  have HDC := Lib.hid hcDc
  obtain ⟨T, hT⟩ : ∃ T, T = lostS n M.scr i := ⟨_, rfl⟩
  rw [← hT] at hcDc HTI HTB HGL HDC
  clear hT hcDc hcDi
  simp only [Nat.mul_one] at hixD
  have hTl : T.length ≤ 2352 ∨ True := .inr trivial
  go_wp2_with fail
  go_loopw [9] (fun vk wr => ∃ k : Nat, k ≤ T.length ∧ vk = .int .i64 k ∧ Bx wr gE 4 (bb (mkE (erF y.s.er (T.take k)))) ∧ Below w2.heap.size w2 wr) (fun vk _ => T.length - (RowKit.intOf vk).toNat)
  case atStart => exact ⟨0, by omega, rfl, by rw [List.take_zero, erF_nil]; exact HX4.out, HB4.out⟩
  case round =>
    obtain ⟨k, hk, rfl, hX, hb⟩ := hrel
    have HXr := Lib.hid hX
    have HBr := Lib.hid hb
    have k4 := (H12.out.call hb).cell (i := 4) rfl
    have hbw := HA2.out.trans (hb.mono HA2.out.size)
    have hcDr : wr.cell? ⟨bD, oD + i, none⟩ = some (.slice aT T.length cT) := by
      have h1 := HDC.out
      rw [Nat.mul_one] at h1
      exact (hbw.cell (p := ⟨bD, oD + i, none⟩) (World.block_lt_of_cell? w _ h1)).trans h1
    obtain ⟨hTl, ⟨aT', cT', bT, oT, hTe, hTc, hTcell⟩, hTw⟩ := HTI.out
    simp only [Value.slice.injEq] at hTe
    obtain ⟨rfl, _, rfl⟩ := hTe
    by_cases hlt : k < T.length
    · obtain ⟨hta, hcell0⟩ := hTcell k hlt
      have hcell := (hbw.cell (p := ⟨bT, oT + k, none⟩) (World.block_lt_of_cell? w _ hcell0)).trans hcell0
      have hix := fun w' => run_idxS Try.underlying30 Try.sizeInt9 (cap := cT) hta hlt (k : Int) rfl w'
      simp only [Nat.mul_one] at hix
      have hin := HTB.out _ (D13.ixI_mem hlt)
      obtain ⟨a, hax⟩ : ∃ a : Nat, ixI T k = (a : Int) := ⟨(ixI T k).toNat, by omega⟩
      have hal : a < 2352 := by omega
      have HSN2 := Lib.hid (mkE_snoc y.s.er hlt hax hal)
      rw [hax] at hcell
      have hixg := fun w' => run_idxS Try.underlying91 Try.sizeB12 (a := some ⟨gE, 0, none⟩) (n := 2352) (cap := 2352) (k := a) (b := gE) (off := 0) rfl hal (a : Int) rfl w'
      simp only [Nat.mul_one, Nat.zero_add] at hixg
      have hgc : wr.cell? ⟨gE, a, none⟩ = some (.bool (erF y.s.er (T.take k) a)) := hX.cell (bb_get (mkE_get _ hal))
      have hgf := hX.free a
      clear hin hax hcell0 hX hb hTcell hTw hTc hta hbw
      go_wp2_with fail
      go_roundw
      case rel => exact ⟨k + 1, by omega, by go_num, by have := HXr.out.set a (.bool true); rw [HSN2.out] at this; exact this, HBr.out.setCell (p := ⟨gE, a, none⟩) (by rw [HGgE.out]; exact Nat.le_refl _) _⟩
      case measure => simp [RowKit.intOf]; omega
    · obtain rfl : k = T.length := by omega
      obtain ⟨wo, rfl⟩ : ∃ wo : World, wo = wr := ⟨_, rfl⟩
      rw [List.take_length] at hX
      rw [show mkE (erF y.s.er T) = mkE (M.goneP i) from mkE_congr fun j hj => HGL.out j hj] at hX
      have HX9 := Lib.hid hX
      have H19 := Lib.hid (H12.out.call hb)
      have H49 := Lib.hid (H42.out.call hb)
      have HA9 := Lib.hid hbw
      have y2 := (H42.out.call hb).cell (i := 2) rfl
      clear hX hb hbw hTcell hTw hTc
      obtain ⟨sraw, hsr⟩ : ∃ s, s = str y.s.raw := ⟨_, rfl⟩
      have hsz : sraw.size = 2352 := by rw [hsr, str_size, HRL.out]
      have hsd : sraw.data.toList = y.s.raw := by rw [hsr]; rfl
      rw [← hsr] at y2
      have HSZ := Lib.hid hsz
      have HSD := Lib.hid hsd
      clear hsz hsd hsr
      go_upto_region 17 with (first
        | (refine wpList_bytes rfl _ rfl Try.underlying9 Try.underlying52 Try.underlying5 rfl ?_
           intro w5 cap hr5 hb5 hcap5)
        | fail)
      rw [HSZ.out]
      rw [HSD.out, ← outK_zero y.s.ch (M.goneP i) HRL.out] at hr5
      obtain ⟨gO, hgO⟩ : ∃ gO, gO = wo.heap.size := ⟨_, rfl⟩
      have HGgO := Lib.hid hgO
      rw [← hgO] at hr5 ⊢
      have hEO : gE < gO := by rw [hgO]; exact HX9.out.lt
      have hqO : q < gO := by omega
      have hA6 := (Below.refl w5.heap.size w5).alloc (Nat.le_refl _) (.cells #[] 3)
      have hOwn6 : (w5.alloc (.cells #[] 3)).ownsRow w5.heap.size 3 1 (.slice (some ⟨w5.heap.size, 0, none⟩) 0 0) 0 (is []) := World.ownsRow_lit w5 #[] 0 (Nat.le_refl _) (by simp [maxLen]) (by simp)
      obtain ⟨gA, hgA⟩ : ∃ gA, gA = w5.heap.size := ⟨_, rfl⟩
      have HGgA := Lib.hid hgA
      have hOA : gO < gA := by rw [hgA]; exact hr5.lt
      have hr6 := hr5.below hA6
      have hx6 := (HX9.out.call hb5).call hA6
      have h46 := (H49.out.call hb5).call hA6
      have hb6 := hb5.trans (hA6.mono hb5.size)
      rw [← hgA] at hOwn6 ⊢
      generalize w5.alloc (.cells #[] 3) = w6 at *
      have hA6s : w6.heap.size ≥ gA := by rw [hgA]; exact hA6.size
      have HR6 := Lib.hid hr6
      have HX6 := Lib.hid hx6
      have H46 := Lib.hid h46
      have HO6 := Lib.hid hOwn6
      have HB6 := Lib.hid (HA9.out.trans (hb6.mono HA9.out.size))
      have HLCr := Lib.hid (HLC1.out.keep HB6.out)
      clear hr5 hb5 hA6 hOwn6 hr6 hx6 h46 hb6 hgO hgA y2 hcap5
      clear hcDr k4 hixD
      have HRW6 := Lib.hid (Below.refl gO w6)
      generalize hgp : M.goneP i = gp at *
      have HGP := Lib.hid hgp
      clear hgp
      go_wp2_with fail
      go_loopw [11, 12] (fun va vk wr => ∃ k : Nat, k ≤ 2352 ∧ vk = .int .i64 k ∧ Row wr 5 gO cap (outK y.s.raw y.s.ch gp k) ∧ wr.ownsRow gA 3 1 va (gonK gp k).length (is (gonK gp k)) ∧ Below gO w6 wr) (fun _ vk _ => 2352 - (RowKit.intOf vk).toNat)
      case atStart => exact ⟨0, by omega, rfl, HR6.out, HO6.out, HRW6.out⟩
      case round =>
        obtain ⟨k, hk, rfl, hrw, hro, hbz⟩ := hrel
        have hbs := hbz.size
        have y4 := (H46.out.keepB hbz hqO).cell (i := 4) rfl
        by_cases hlt : k < 2352
        · have hgk := (HX6.out.keepB hbz hEO).cell (bb_get (mkE_get gp hlt))
          have hixE := fun w' => run_idxS Try.underlying91 Try.sizeB12 (a := some ⟨gE, 0, none⟩) (n := 2352) (cap := 2352) (k := k) (b := gE) (off := 0) rfl hlt (k : Int) rfl w'
          have hixO := fun w' => run_idxS Try.underlying52 Try.sizeU8 (a := some ⟨gO, 0, none⟩) (n := 2352) (cap := cap) (k := k) (b := gO) (off := 0) rfl hlt (k : Int) rfl w'
          simp only [Nat.mul_one, Nat.zero_add] at hixE hixO
          have hoc := hrw.cell k (by rw [outK_len]; exact hlt)
          rw [outK_ix hlt] at hoc
          have hof := hrw.frozen k (by have := hrw.le; rw [outK_len] at this; omega)
          have hCk := HCH.out k hlt
          have hbw2 : Below w.heap.size w wr := HB6.out.trans (hbz.mono (by have := HGgO.out; have := HA9.out.size; omega))
          have hcC := (hbw2.cell (p := ⟨bC, oC + k, none⟩) (World.block_lt_of_cell? w _ hCk.2)).trans hCk.2
          have hixC := fun w' => run_idxS Try.underlying52 Try.sizeU8 (a := y.ac) (n := y.nc) (cap := y.cc) (k := k) (b := bC) (off := oC) hCk.1 (by rw [HCN.out]; exact hlt) (k : Int) rfl w'
          simp only [Nat.mul_one] at hixC
          clear hCk hbw2
          by_cases hgb : gp k = true
          · have HGK := Lib.hid hgb
            rw [hgb] at hgk
            have HGT := Lib.hid (gonK_t hgb)
            obtain ⟨rk, hrk⟩ : ∃ rk, rk = byteA y.s.raw k := ⟨_, rfl⟩
            obtain ⟨ck, hck⟩ : ∃ ck, ck = y.s.ch k := ⟨_, rfl⟩
            have HST := Lib.hid (outK_step (raw := y.s.raw) (ch := y.s.ch) (gp := gp) (k := k) rfl)
            rw [HGK.out, ← hrk, ← hck, if_pos rfl] at HST
            rw [← hrk] at hoc
            rw [← hck] at hcC
            have hxb : Value.int .u8 (bits .xor .u8 (rk.toNat : Int) (ck.toNat : Int)) = B (rk ^^^ ck) := congrArg (Value.int .u8) (xorB rk ck)
            have HXB := Lib.hid hxb
            have hs1 : Row (wr.setCell ⟨gO, k, none⟩ (B (rk ^^^ ck))) _ _ _ _ := hrw.store k (rk ^^^ ck) (by rw [outK_len]; exact hlt)
            have hdr := (Below.refl (wr.setCell ⟨gO, k, none⟩ (B (rk ^^^ ck))).heap.size (wr.setCell ⟨gO, k, none⟩ (B (rk ^^^ ck)))).drew
            have HRW := Lib.hid (hs1.below hdr)
            have HRO := Lib.hid (ownD_keep (ownD_far hro (p := ⟨gO, k, none⟩) hOA (B (rk ^^^ ck))) hdr)
            have HBZ := Lib.hid ((hbz.setCell (p := ⟨gO, k, none⟩) (Nat.le_refl _) (B (rk ^^^ ck))).drew)
            have HXE := Lib.hid (((HX6.out.keepB hbz hEO).far (p := ⟨gO, k, none⟩) (by simp only; omega) (B (rk ^^^ ck))).call hdr)
            clear hrw hro hbz hrk hck hxb hs1 hgk hdr
            go_upto_region 21 with (fail)
            go_still_tail 13, (by kernel_rfl)
            repeat still_step
            change wpList _ _ _ _ _ wr.drew
            go_upto_region 22 with (fail)
            rw [HXB.out]
            generalize (wr.setCell ⟨gO, k, none⟩ (B (rk ^^^ ck))).drew = wx at *
            have hgk := HXE.out.cell (bb_get (mkE_get gp hlt))
            rw [HGK.out] at hgk
            have hoc2 := HRW.out.cell k (by rw [List.length_set, outK_len]; exact hlt)
            have hof2 := HRW.out.frozen k (by have := HRW.out.le; rw [List.length_set, outK_len] at this; omega)
            generalize B (G.ix ((outK y.s.raw y.s.ch gp k).set k (rk ^^^ ck)) k) = old at hoc2
            have hs := HRW.out.store k 0 (by rw [List.length_set, outK_len]; exact hlt)
            rw [List.set_set, HST.out] at hs
            have hro2 := ownD_far HRO.out (p := ⟨gO, k, none⟩) hOA (.int .u8 0)
            have HRW2 := Lib.hid (show Row (wx.setCell ⟨gO, k, none⟩ (.int .u8 0)) _ _ _ _ from hs)
            have HBZ2 := Lib.hid (HBZ.out.setCell (p := ⟨gO, k, none⟩) (Nat.le_refl _) (.int .u8 0))
            clear hs hgb HRW HBZ HRO
            have HRW := HRW2
            have HBZ := HBZ2
            clear HRW2 HBZ2
            go_upto_region 24 with (fail)
            generalize wx.setCell ⟨gO, k, none⟩ (.int .u8 0) = wy at *
            have hsy : gA ≤ wy.heap.size := by have := HBZ.out.size; omega
            have hoA := ownD_keep hro2 ((Below.refl wy.heap.size wy).alloc (Nat.le_refl _) (.cells #[.int .i64 (k : Int)] 3))
            have hbA := (Below.refl wy.heap.size wy).alloc (Nat.le_refl _) (.cells #[.int .i64 (k : Int)] 3)
            have HBA := Lib.hid (HBZ.out.trans (hbA.mono (by omega)))
            have hbas : gA ≤ (wy.alloc (.cells #[.int .i64 (k : Int)] 3)).heap.size := Nat.le_trans hsy hbA.size
            have hrd := D13.reads_lit wy [(k : Int)] 3 (by simp)
            have HRA := Lib.hid (HRW.out.below hbA)
            have hgl := gonK_len gp k
            have HOA2 := Lib.hid hoA
            clear hro2
            go_wp2_with (at_builtin; refine D13.wpList_appI rfl _ _ rfl Try.underlying30 Try.infoInt9 hoA rfl hrd rfl (by simp only [List.length_singleton]; omega) hbas ?_; intro v8 w8 hown8 hgr8)
            have hb8 := HBA.out.grown hgr8 (by have := HBA.out.size; omega) (fun j hj => by have := ownD_block HOA2.out j hj; omega)
            have hr8 := HRA.out.keep (w' := w8) (hgr8.block gO (by have := HRA.out.lt; exact this) fun e => by have := ownD_block HOA2.out gO e.symm; omega)
            go_roundw
            case rel => exact ⟨k + 1, by omega, by go_num, hr8, by rw [HGT.out, List.length_append]; exact hown8, hb8⟩
            case measure => simp [RowKit.intOf]; omega
          · have hgb2 : gp k = false := by simpa using hgb
            have HGK := Lib.hid hgb2
            rw [hgb2] at hgk
            have HGF := Lib.hid (gonK_f hgb2)
            obtain ⟨rk, hrk⟩ : ∃ rk, rk = byteA y.s.raw k := ⟨_, rfl⟩
            obtain ⟨ck, hck⟩ : ∃ ck, ck = y.s.ch k := ⟨_, rfl⟩
            have HST := Lib.hid (outK_step (raw := y.s.raw) (ch := y.s.ch) (gp := gp) (k := k) rfl)
            rw [HGK.out, ← hrk, ← hck, if_neg Bool.false_ne_true] at HST
            rw [← hrk] at hoc
            rw [← hck] at hcC
            have hxb : Value.int .u8 (bits .xor .u8 (rk.toNat : Int) (ck.toNat : Int)) = B (rk ^^^ ck) := congrArg (Value.int .u8) (xorB rk ck)
            have HXB := Lib.hid hxb
            have hs1 : Row (wr.setCell ⟨gO, k, none⟩ (B (rk ^^^ ck))) _ _ _ _ := hrw.store k (rk ^^^ ck) (by rw [outK_len]; exact hlt)
            have hdr := (Below.refl (wr.setCell ⟨gO, k, none⟩ (B (rk ^^^ ck))).heap.size (wr.setCell ⟨gO, k, none⟩ (B (rk ^^^ ck)))).drew
            have HRW := Lib.hid (hs1.below hdr)
            have HRO := Lib.hid (ownD_keep (ownD_far hro (p := ⟨gO, k, none⟩) hOA (B (rk ^^^ ck))) hdr)
            have HBZ := Lib.hid ((hbz.setCell (p := ⟨gO, k, none⟩) (Nat.le_refl _) (B (rk ^^^ ck))).drew)
            have HXE := Lib.hid (((HX6.out.keepB hbz hEO).far (p := ⟨gO, k, none⟩) (by simp only; omega) (B (rk ^^^ ck))).call hdr)
            clear hrw hro hbz hrk hck hxb hs1 hgk hdr
            go_upto_region 21 with (fail)
            go_still_tail 13, (by kernel_rfl)
            repeat still_step
            change wpList _ _ _ _ _ wr.drew
            go_upto_region 22 with (fail)
            rw [HXB.out]
            generalize (wr.setCell ⟨gO, k, none⟩ (B (rk ^^^ ck))).drew = wx at *
            have hgk := HXE.out.cell (bb_get (mkE_get gp hlt))
            rw [HGK.out] at hgk
            have hs := HRW.out
            rw [HST.out] at hs
            have HRW2 := Lib.hid hs
            clear hs hgb hgb2 HRW
            go_wp2_with fail
            go_roundw
            case rel => exact ⟨k + 1, by omega, by go_num, HRW2.out, by rw [HGF.out]; exact HRO.out, HBZ.out⟩
            case measure => simp [RowKit.intOf]; omega
        · obtain rfl : k = 2352 := by omega
          rw [HOA.out] at hrw
          rw [HGO.out] at hro
          have hl : (M.out i).length = 2352 := out_length M i
          have hrd := hrw.rd (by omega)
          rw [hl] at hrd
          have hcx := run_str (P := Try.prog) Try.underlying52 Try.underlying5 Try.underlying9 hrd
          obtain ⟨a3, c3, rfl⟩ := ownD_form hro
          have HFIN : Hid (ReadP (M.out i, M.gone i, 0) w (.returned (.tuple #[.string (str (M.out i)), .slice a3 (M.gone i).length c3, .int .i64 0])) wr) := Lib.hid ⟨_, rfl, own_mono hro (by have := HGgO.out; have := HA9.out.size; omega), HB6.out.trans (hbz.mono (by have := HGgO.out; have := HA9.out.size; omega))⟩
          clear hrw hro hrd hbz y4
          go_wp2_with fail
          go_ret3
          exact HFIN.out
end Go.Proofs.Ytpncjadhpnapnaa.D12
namespace Go.Proofs.Ytpncjadhpnapnaa.D12
open Go.RowKit Go.Maps C9
open D13 (RdI ixI is)
set_option linter.unusedVariables false

theorem rread12 {w : World} {vL vS vD : Value} {M : Med} {P : Nat → Prop} {SS : List RS} {N : Nat} (h : RmF P w vL vS vD M SS) (ho : M.Ok N) (a : Int) (ha : In64 a) : Calls Try.prog 55 #[rmv M vL vS vD, .int .i64 a] w (ReadP (M.readR a) w) := by
  have hn := ho.n.2
  have hs := ho.scr
  unfold Med.readR
  by_cases h0 : 0 ≤ a ∧ a < M.n
  · rw [if_pos h0]
    have hai : a = (a.toNat : Int) := by omega
    generalize a.toNat = i at *
    subst hai
    have hi : i < M.n := by omega
    have hst3 := (ho.sec i hi).st
    by_cases h1 : (M.sec i).st = 0
    · rw [if_pos h1]; exact rread_0 h hn hs hi h1
    rw [if_neg h1]
    by_cases h2 : (M.sec i).st = 1
    · rw [if_pos h2]
      have hrl := (ho.sec i hi).one h2
      by_cases hc : (atD rz SS i).nc = 0
      · exact rread_N h hn hs hi h2 hrl fun y _ e => by rw [← e]; exact hc
      · exact rread_C h hn hs hi h2 hrl fun y _ e => by rw [← e]; exact hc
    rw [if_neg h2]
    by_cases h3 : (M.sec i).st = 2
    · exact rread_2 h hn hs hi h3
    · exact rread_3 h hn hs hi (by omega)
  · rw [if_neg h0]
    by_cases h1 : a < 0
    · exact rread_neg h hn hs a ha h1
    · exact rread_far h hn hs a ha (by omega) (by omega)
theorem out_raw {M : Med} {i : Nat} (hr : (M.sec i).raw.length = 2352) (hg : M.gone i = []) : M.out i = (M.sec i).raw ↔ ∀ k, k < 2352 → (M.sec i).ch k = 0 := by
  have hgp : ∀ k, k < 2352 → M.goneP i k = false := fun k hk => by
    by_cases h : M.goneP i k = true
    · have : (k : Int) ∈ M.gone i := (mem_gone M i _).2 ⟨k, hk, h, rfl⟩
      rw [hg] at this
      cases this
    · simpa using h
  have hat : ∀ k, k < 2352 → (M.out i)[k]? = some (byteA (M.sec i).raw k ^^^ (M.sec i).ch k) := fun k hk => by
    unfold Med.out
    rw [List.getElem?_map, List.getElem?_range hk, Option.map_some, hgp k hk]
    rfl
  have hrw : ∀ k, k < 2352 → (M.sec i).raw[k]? = some (byteA (M.sec i).raw k) := fun k hk => by
    unfold byteA atD
    rw [List.getElem?_eq_getElem (by omega)]; rfl
  constructor
  · intro e k hk
    have h1 := hat k hk
    rw [e, hrw k hk] at h1
    have h2 := Option.some.inj h1
    generalize byteA (M.sec i).raw k = x at h2
    generalize (M.sec i).ch k = y at h2 ⊢
    have : x ^^^ x = x ^^^ (x ^^^ y) := by rw [← h2]
    rw [← UInt8.xor_assoc, UInt8.xor_self, UInt8.zero_xor] at this
    exact this.symm
  · intro h
    apply List.ext_getElem?
    intro k
    by_cases hk : k < 2352
    · rw [hat k hk, hrw k hk, h k hk, UInt8.xor_zero]
    · rw [List.getElem?_eq_none (by rw [out_length]; omega), List.getElem?_eq_none (by omega)]
set_option maxRecDepth 100000 in
set_option maxHeartbeats 4000000 in
theorem rclean_bad {w : World} {vL vS vD : Value} {M : Med} {P : Nat → Prop} {SS : List RS} (h : RmF P w vL vS vD M SS) (hn : M.n ≤ 4096) (hs : M.scr.length ≤ 256) (a : Int) (ha : In64 a) (R : List UInt8 × List Int × Int) (hR : ∀ W, Below w.heap.size w W → Calls Try.prog 55 #[rmv M vL vS vD, .int .i64 a] W (ReadP R W)) (h0 : R.2.2 ≠ 0) (hrr : -9223372036854775808 ≤ R.2.2 ∧ R.2.2 ≤ 9223372036854775807) :
    Calls Try.prog 56 #[rmv M vL vS vD, .int .i64 a] w (CleanP false w) := by
  have HF := Lib.hid h
  have hre := h.here
  obtain ⟨⟨aL, cL, rfl⟩, ⟨aS, cS, rfl⟩, aD, cD, rfl⟩ := hre.forms
  have HR := Lib.hid hre
  have hl1 := hre.l
  have hl2 := hre.e
  have hl3 := hre.x
  have hSn := hre.n
  obtain ⟨n, hnn⟩ : ∃ n, n = M.n := ⟨_, rfl⟩
  rw [← hnn] at hl1 hSn hR hn HR HF ⊢
  have HNN := Lib.hid hnn
  have HL1 := Lib.hid hl1
  have HL2 := Lib.hid hl2
  have HL3 := Lib.hid hl3
  have HSN := Lib.hid hSn
  have hz := zeroRM
  clear hl1 hl2 hl3 hSn hnn hre h
  obtain ⟨w1, hw1⟩ : ∃ w1, w1 = w.alloc (.cells #[.int .i64 M.kind, .int .i64 M.endu, .slice aL n cL, .slice aS M.scr.length cS, .slice aD n cD] 59) := ⟨_, rfl⟩
  have hA1 := (Below.refl w.heap.size w).alloc (Nat.le_refl _) (.cells #[.int .i64 M.kind, .int .i64 M.endu, .slice aL n cL, .slice aS M.scr.length cS, .slice aD n cD] 59)
  rw [← hw1] at hA1
  have hB1 : Bx w1 w.heap.size 59 [.int .i64 M.kind, .int .i64 M.endu, .slice aL n cL, .slice aS M.scr.length cS, .slice aD n cD] := by rw [hw1]; exact Bx.new w _ _
  obtain ⟨b, hb⟩ : ∃ b, b = w.heap.size := ⟨_, rfl⟩
  have hs1 : w1.heap.size = b + 1 := by rw [hw1, hb]; simp
  rw [← hb] at hB1
  have H1 := Lib.hid hB1
  have HA := Lib.hid hA1
  have HB := Lib.hid hb
  have HS := Lib.hid hs1
  have HW : Hid ((w.alloc (.cells #[.int .i64 M.kind, .int .i64 M.endu, .slice aL n cL, .slice aS M.scr.length cS, .slice aD n cD] 59)) = w1) := Lib.hid (by rw [hw1])
  clear hw1 hA1 hB1  hb
  have HCR := Lib.hid (hR _ HA.out)
  unfold rmv at HCR
  have q0 : (R.2.2 == 0) = false := beq_eq_false_iff_ne.2 h0
  clear hR
  have k0 := H1.out.cell (i := 0) rfl
  have k1 := H1.out.cell (i := 1) rfl
  have k2 := H1.out.cell (i := 2) rfl
  have k3 := H1.out.cell (i := 3) rfl
  have k4 := H1.out.cell (i := 4) rfl
  unfold rmv
  go_enter Try.func56, Try.ntmps56
  go_upto_region 1 with (fail)
  rw [HW.out, ← HB.out]
  go_wp2_with fail
  refine HCR.out.mono ?_
  rintro e w2 ⟨v2, rfl, ho2, hb2⟩
  obtain ⟨a2, c2, rfl⟩ := ownD_form ho2
  have HB2 := Lib.hid (HA.out.trans (hb2.mono HA.out.size))
  generalize R.2.2 = cc at *
  clear hb2 ho2 h0 hrr
  go_wp2_with fail
  go_ret
  exact ⟨rfl, HB2.out⟩
set_option maxRecDepth 100000 in
set_option maxHeartbeats 4000000 in
theorem rclean_gone {w : World} {vL vS vD : Value} {M : Med} {P : Nat → Prop} {SS : List RS} (h : RmF P w vL vS vD M SS) (hn : M.n ≤ 4096) (hs : M.scr.length ≤ 256) (a : Int) (ha : In64 a) (R : List UInt8 × List Int × Int) (hR : ∀ W, Below w.heap.size w W → Calls Try.prog 55 #[rmv M vL vS vD, .int .i64 a] W (ReadP R W)) (h0 : R.2.2 = 0) (h1 : R.2.1 ≠ []) :
    Calls Try.prog 56 #[rmv M vL vS vD, .int .i64 a] w (CleanP false w) := by
  have HF := Lib.hid h
  have hre := h.here
  obtain ⟨⟨aL, cL, rfl⟩, ⟨aS, cS, rfl⟩, aD, cD, rfl⟩ := hre.forms
  have HR := Lib.hid hre
  have hl1 := hre.l
  have hl2 := hre.e
  have hl3 := hre.x
  have hSn := hre.n
  obtain ⟨n, hnn⟩ : ∃ n, n = M.n := ⟨_, rfl⟩
  rw [← hnn] at hl1 hSn hR hn HR HF ⊢
  have HNN := Lib.hid hnn
  have HL1 := Lib.hid hl1
  have HL2 := Lib.hid hl2
  have HL3 := Lib.hid hl3
  have HSN := Lib.hid hSn
  have hz := zeroRM
  clear hl1 hl2 hl3 hSn hnn hre h
  obtain ⟨w1, hw1⟩ : ∃ w1, w1 = w.alloc (.cells #[.int .i64 M.kind, .int .i64 M.endu, .slice aL n cL, .slice aS M.scr.length cS, .slice aD n cD] 59) := ⟨_, rfl⟩
  have hA1 := (Below.refl w.heap.size w).alloc (Nat.le_refl _) (.cells #[.int .i64 M.kind, .int .i64 M.endu, .slice aL n cL, .slice aS M.scr.length cS, .slice aD n cD] 59)
  rw [← hw1] at hA1
  have hB1 : Bx w1 w.heap.size 59 [.int .i64 M.kind, .int .i64 M.endu, .slice aL n cL, .slice aS M.scr.length cS, .slice aD n cD] := by rw [hw1]; exact Bx.new w _ _
  obtain ⟨b, hb⟩ : ∃ b, b = w.heap.size := ⟨_, rfl⟩
  have hs1 : w1.heap.size = b + 1 := by rw [hw1, hb]; simp
  rw [← hb] at hB1
  have H1 := Lib.hid hB1
  have HA := Lib.hid hA1
  have HB := Lib.hid hb
  have HS := Lib.hid hs1
  have HW : Hid ((w.alloc (.cells #[.int .i64 M.kind, .int .i64 M.endu, .slice aL n cL, .slice aS M.scr.length cS, .slice aD n cD] 59)) = w1) := Lib.hid (by rw [hw1])
  clear hw1 hA1 hB1  hb
  have HCR := Lib.hid (hR _ HA.out)
  unfold rmv at HCR
  have hlp : R.2.1.length ≠ 0 := fun e => h1 (List.eq_nil_of_length_eq_zero e)
  clear hR
  have k0 := H1.out.cell (i := 0) rfl
  have k1 := H1.out.cell (i := 1) rfl
  have k2 := H1.out.cell (i := 2) rfl
  have k3 := H1.out.cell (i := 3) rfl
  have k4 := H1.out.cell (i := 4) rfl
  unfold rmv
  go_enter Try.func56, Try.ntmps56
  go_upto_region 1 with (fail)
  rw [HW.out, ← HB.out]
  go_wp2_with fail
  refine HCR.out.mono ?_
  rintro e w2 ⟨v2, rfl, ho2, hb2⟩
  obtain ⟨a2, c2, rfl⟩ := ownD_form ho2
  have HB2 := Lib.hid (HA.out.trans (hb2.mono HA.out.size))
  rw [h0]
  generalize R.2.1.length = cc at *
  have q1 : ((cc : Int) == 0) = false := beq_eq_false_iff_ne.2 (by omega)
  have q2 : (cc == 0) = false := beq_eq_false_iff_ne.2 hlp
  clear hb2 ho2 h0 h1 hlp
  go_wp2_with fail
  go_ret
  exact ⟨rfl, HB2.out⟩
set_option maxRecDepth 100000 in
set_option maxHeartbeats 4000000 in
theorem rclean_cmp {w : World} {vL vS vD : Value} {M : Med} {P : Nat → Prop} {SS : List RS} (h : RmF P w vL vS vD M SS) (hn : M.n ≤ 4096) (hs : M.scr.length ≤ 256) {i : Nat} (hi : i < M.n) (R : List UInt8 × List Int × Int) (hR : ∀ W, Below w.heap.size w W → Calls Try.prog 55 #[rmv M vL vS vD, .int .i64 (i : Nat)] W (ReadP R W)) (h0 : R.2.2 = 0) (h1 : R.2.1 = []) (bq : Bool) (hbq : bq = true ↔ R.1 = (M.sec i).raw) :
    Calls Try.prog 56 #[rmv M vL vS vD, .int .i64 (i : Nat)] w (CleanP bq w) := by
  have HF := Lib.hid h
  have hre := h.here
  obtain ⟨⟨aL, cL, rfl⟩, ⟨aS, cS, rfl⟩, aD, cD, rfl⟩ := hre.forms
  have HR := Lib.hid hre
  have hl1 := hre.l
  have hl2 := hre.e
  have hl3 := hre.x
  have hSn := hre.n
  obtain ⟨n, hnn⟩ : ∃ n, n = M.n := ⟨_, rfl⟩
  rw [← hnn] at hl1 hSn hi hR hn HR HF ⊢
  have HNN := Lib.hid hnn
  have HL1 := Lib.hid hl1
  have HL2 := Lib.hid hl2
  have HL3 := Lib.hid hl3
  have HSN := Lib.hid hSn
  have hz := zeroRM
  clear hl1 hl2 hl3 hSn hnn hre h
  obtain ⟨w1, hw1⟩ : ∃ w1, w1 = w.alloc (.cells #[.int .i64 M.kind, .int .i64 M.endu, .slice aL n cL, .slice aS M.scr.length cS, .slice aD n cD] 59) := ⟨_, rfl⟩
  have hA1 := (Below.refl w.heap.size w).alloc (Nat.le_refl _) (.cells #[.int .i64 M.kind, .int .i64 M.endu, .slice aL n cL, .slice aS M.scr.length cS, .slice aD n cD] 59)
  rw [← hw1] at hA1
  have hB1 : Bx w1 w.heap.size 59 [.int .i64 M.kind, .int .i64 M.endu, .slice aL n cL, .slice aS M.scr.length cS, .slice aD n cD] := by rw [hw1]; exact Bx.new w _ _
  obtain ⟨b, hb⟩ : ∃ b, b = w.heap.size := ⟨_, rfl⟩
  have hs1 : w1.heap.size = b + 1 := by rw [hw1, hb]; simp
  rw [← hb] at hB1
  have H1 := Lib.hid hB1
  have HA := Lib.hid hA1
  have HB := Lib.hid hb
  have HS := Lib.hid hs1
  have HW : Hid ((w.alloc (.cells #[.int .i64 M.kind, .int .i64 M.endu, .slice aL n cL, .slice aS M.scr.length cS, .slice aD n cD] 59)) = w1) := Lib.hid (by rw [hw1])
  clear hw1 hA1 hB1  hb
  have HCR := Lib.hid (hR _ HA.out)
  unfold rmv at HCR
  clear hR
  have k0 := H1.out.cell (i := 0) rfl
  have k1 := H1.out.cell (i := 1) rfl
  have k2 := H1.out.cell (i := 2) rfl
  have k3 := H1.out.cell (i := 3) rfl
  have k4 := H1.out.cell (i := 4) rfl
  unfold rmv
  go_enter Try.func56, Try.ntmps56
  go_upto_region 1 with (fail)
  rw [HW.out, ← HB.out]
  go_wp2_with fail
  refine HCR.out.mono ?_
  rintro e w2 ⟨v2, rfl, ho2, hb2⟩
  obtain ⟨a2, c2, rfl⟩ := ownD_form ho2
  have HB2 := Lib.hid (HA.out.trans (hb2.mono HA.out.size))
  have H12 := Lib.hid (H1.out.call hb2)
  have k2 := H12.out.cell (i := 2) rfl
  rw [h0, h1]
  clear hb2 ho2 h0 h1 k0 k1 k3 k4
  have hsl : i < SS.length := by rw [HSN.out]; exact hi
  obtain ⟨bl, off, hcell⟩ := RdD.at (RdD.keep HL1.out HB2.out)
  obtain ⟨hax, hrg⟩ := hcell i hsl
  have hix := fun w' => run_idxS Try.underlying56 Try.sizeRS (cap := cL) hax hi (i : Int) rfl w'
  have hsy := Med.sec_map HL2.out i
  have x2 := hrg 2 _ rfl
  rw [← hsy] at x2
  clear hax hrg hcell hsy
  have HEQ : Hid ((R.1 == (M.sec i).raw) = bq) := Lib.hid (by rw [Bool.eq_iff_iff, hbq]; simp)
  clear hbq
  have hl1 : (str R.1).toList = R.1 := str_toList _
  have hl2 : (str (M.sec i).raw).toList = (M.sec i).raw := str_toList _
  go_wp2_with fail
  go_ret
  refine ⟨?_, HB2.out⟩
  show Ending.returned (.bool (R.1 == (M.sec i).raw)) = _
  rw [HEQ.out]
theorem rclean12 {w : World} {vL vS vD : Value} {M : Med} {P : Nat → Prop} {SS : List RS} {N : Nat} (h : RmF P w vL vS vD M SS) (ho : M.Ok N) (a : Int) (ha : In64 a) : Calls Try.prog 56 #[rmv M vL vS vD, .int .i64 a] w (CleanP (M.cleanR a) w) := by
  have hn := ho.n.2
  have hs := ho.scr
  have hR : ∀ W, Below w.heap.size w W → Calls Try.prog 55 #[rmv M vL vS vD, .int .i64 a] W (ReadP (M.readR a) W) := fun W hb => rread12 (h.res hb) ho a ha
  by_cases h0 : 0 ≤ a ∧ a < M.n
  · have hai : a = (a.toNat : Int) := by omega
    generalize a.toNat = i at *
    subst hai
    have hi : i < M.n := by omega
    by_cases h2 : (M.sec i).st = 1
    · have hrl := (ho.sec i hi).one h2
      have hrd : M.readR (i : Int) = (M.out i, M.gone i, 0) := by unfold Med.readR; rw [if_pos h0, Int.toNat_natCast, if_neg (by omega), if_pos h2]
      rw [hrd] at hR
      by_cases hg : M.gone i = []
      · have hcq : M.cleanR (i : Int) = true ↔ M.out i = (M.sec i).raw := by
          by_cases hc : ∀ k, k < 2352 → (M.sec i).ch k = 0
          · rw [cleanR_true ⟨h0, by rw [Int.toNat_natCast]; exact And.intro h2 (And.intro hg hc)⟩]
            exact ⟨fun _ => (out_raw hrl hg).2 hc, fun _ => rfl⟩
          · rw [cleanR_false fun hx => hc (by have := hx.2.2.2; rwa [Int.toNat_natCast] at this)]
            exact ⟨fun h => (by cases h), fun h => absurd ((out_raw hrl hg).1 h) hc⟩
        have hq := rclean_cmp h hn hs hi (M.out i, M.gone i, 0) hR (by dsimp only) (by dsimp only; exact hg) (M.cleanR (i : Int)) (by dsimp only; exact hcq)
        exact hq
      · rw [cleanR_false fun hx => hg (by have := hx.2.2.1; rwa [Int.toNat_natCast] at this)]
        exact rclean_gone h hn hs _ ha (M.out i, M.gone i, 0) hR (by dsimp only) (by dsimp only; exact hg)
    · rw [cleanR_false fun hx => h2 (by have := hx.2.1; rwa [Int.toNat_natCast] at this)]
      have hc : (M.readR (i : Int)).2.2 = 8 ∨ (M.readR (i : Int)).2.2 = 9 := by
        unfold Med.readR
        rw [if_pos h0, Int.toNat_natCast]
        by_cases h3 : (M.sec i).st = 0
        · rw [if_pos h3]; exact .inl rfl
        · rw [if_neg h3, if_neg h2]; exact .inr rfl
      exact rclean_bad h hn hs _ ha _ hR (by omega) (by omega)
  · rw [cleanR_false fun hx => h0 hx.1]
    have hc : (M.readR a).2.2 = 2 := by unfold Med.readR; rw [if_neg h0]
    exact rclean_bad h hn hs a ha _ hR (by omega) (by omega)
end Go.Proofs.Ytpncjadhpnapnaa.D12
