/- The law SubchannelFrames walked: it returns true. -/
import Derived.Test.YtenbafolmmemgaaQk
import Derived.Test.YtenbafolmmemgaaQof
namespace Go.Proofs.Ytenbafolmmemgaa.W10
open Go.RowKit
set_option linter.unusedVariables false

/-- what Encode returns -/
def encS (q : Q.Fr) : List UInt8 := if frB q = true then encL q else []
def encC (q : Q.Fr) : Int := if frB q = true then 0 else 1
theorem enc_any (q : Q.Fr) (w : World) : Calls Try.prog 18 #[fagg q] w (R2B (.string (str (encS q))) (.int .i64 (encC q)) w) := by
  unfold encS encC
  cases h : frB q with
  | true => exact enc_yes q w h
  | false => exact enc_no q w h
theorem renc_any (q : Q.Fr) (w : World) : Calls Try.prog 22 #[fagg q] w (R2B (.string (str (encS q))) (.int .i64 (encC q)) w) := by
  unfold encS encC
  cases h : frB q with
  | true => exact renc_yes q w h
  | false => exact renc_no q w h
theorem dec_any (l : List UInt8) (w : World) (h : l.length ≤ 1000000) : Calls Try.prog 23 #[.string (str l)] w (FP (decR l) w) := by
  by_cases h1 : l.length = 12
  · by_cases h2 : chk (l.take 10) = l.drop 10
    · exact dec_3 l w h1 h2
    · exact dec_2 l w h1 h2
  · exact dec_1 l w h1 h
theorem rdec_any (l : List UInt8) (w : World) (h : l.length ≤ 1000000) : Calls Try.prog 24 #[.string (str l)] w (FP (decR l) w) := by
  by_cases h1 : l.length = 12
  · by_cases h2 : chk (l.take 10) = l.drop 10
    · exact rdec_3 l w h1 h2
    · exact rdec_2 l w h1 h2
  · exact rdec_1 l w h1 h
set_option maxRecDepth 100000 in
set_option maxHeartbeats 4000000 in
theorem frames_few (q : Q.Fr) (l : List UInt8) (w : World) (hn : l.length ≤ 40) :
    Calls Try.prog 6 #[fagg q, .string (str l)] w (RB true w) := by
  have HA := Lib.hid (fun W => enc_any q W)
  have HB := Lib.hid (fun W => renc_any q W)
  have HC := Lib.hid (fun W => dec_any l W (by omega))
  have HD := Lib.hid (fun W => rdec_any l W (by omega))
  have hsz := str_size l
  have hg : decide (40 < ((str l).size : Int)) = false := decide_eq_false (by rw [hsz]; omega)
  have hm : (str l).size ≤ 40 := by omega
  clear hsz
  generalize decR l = R at HC HD
  obtain ⟨d, c⟩ := R
  generalize encS q = s at HA HB
  generalize encC q = k at HA HB
  generalize str l = S at HC HD hg hm ⊢
  have hss := str_same (l := s) rfl
  go_enter Try.func6, Try.ntmps6
  go_wp2_with fail
  refine (awake_any _).mono ?_
  rintro e w1 ⟨rfl, hb1⟩
  have hq1 := (Bx.new w 27 (fcs q)).call hb1
  have hle1 := ((Below.refl w.heap.size w).alloc (Nat.le_refl _) (fobj q)).trans (hb1.mono (by simp))
  clear hb1
  obtain ⟨p0, p1, p2, p3, p4, p5, p6, p7, p8⟩ := fcs_cells hq1
  have HQ1 := Lib.hid hq1
  clear hq1
  go_wp2_with fail
  refine (HA.out _).mono ?_
  rintro e w2 ⟨rfl, hb2⟩
  have hq2 := HQ1.out.call hb2
  have hle2 := hle1.trans (hb2.mono hle1.size)
  clear hb2 hle1 HQ1 p0 p1 p2 p3 p4 p5 p6 p7 p8
  obtain ⟨p0, p1, p2, p3, p4, p5, p6, p7, p8⟩ := fcs_cells hq2
  clear hq2
  go_wp2_with fail
  refine (HB.out _).mono ?_
  rintro e w3 ⟨rfl, hb3⟩
  have hle3 := hle2.trans (hb3.mono hle2.size)
  clear hb3 hle2 p0 p1 p2 p3 p4 p5 p6 p7 p8
  go_wp2_with fail
  refine (HC.out _).mono ?_
  rintro e w4 ⟨rfl, hb4⟩
  have hle4 := hle3.trans (hb4.mono hle3.size)
  have hX : FB (w4.alloc (fobj d)) w4.heap.size d := Bx.new _ _ _
  have hle5 := hle4.alloc hle4.size (fobj d)
  obtain ⟨gA, hgA⟩ : ∃ gA, gA = w4.heap.size := ⟨_, rfl⟩
  rw [← hgA] at hX
  clear hb4 hle4 hle3
  go_wp2_with fail
  simp only [← hgA]
  clear hgA
  generalize w4.alloc (fobj d) = w5 at hX hle5 ⊢
  refine (HD.out w5).mono ?_
  rintro e w6 ⟨rfl, hb6⟩
  have hle6 := hle5.trans (hb6.mono hle5.size)
  have hX6 := hX.call hb6
  clear hb6 hX hle5
  have hY : FB (w6.alloc (fobj d)) w6.heap.size d := Bx.new _ _ _
  have hX7 := hX6.alloc (fobj d)
  have hle7 := hle6.alloc hle6.size (fobj d)
  obtain ⟨gB, hgB⟩ : ∃ gB, gB = w6.heap.size := ⟨_, rfl⟩
  rw [← hgB] at hY
  clear hX6 hle6
  go_upto_region 9 with (fail)
  simp only [← hgB]
  clear hgB
  change Code.wp _ _ _ _ (w6.alloc (fobj d))
  generalize w6.alloc (fobj d) = w7 at hX7 hY hle7 ⊢
  obtain ⟨p0, p1, p2, p3, p4, p5, p6, p7, p8⟩ := fcs_cells hX7
  obtain ⟨t0, t1, t2, t3, t4, t5, t6, t7, t8⟩ := fcs_cells hY
  clear hX7 hY
  go_wp2_with fail
  go_ret
  exact ⟨ret_t rfl, hle7⟩
set_option maxRecDepth 100000 in
set_option maxHeartbeats 4000000 in
theorem frames_many (q : Q.Fr) (s : ByteArray) (w : World) (hn : 40 < s.size) (hx : s.size ≤ 9223372036854775807) :
    Calls Try.prog 6 #[fagg q, .string s] w (RB true w) := by
  go_enter Try.func6, Try.ntmps6
  go_wp2_with fail
  refine (awake_any _).mono ?_
  rintro e w1 ⟨rfl, hb1⟩
  have hle1 := ((Below.refl w.heap.size w).alloc (Nat.le_refl _) (fobj q)).trans (hb1.mono (by simp))
  go_wp2_with fail
  go_ret
  exact ⟨ret_t rfl, hle1⟩
theorem frames_law (w : World) (v : Value) (q : Q.Fr) (h : CameF w v q) (s : ByteArray) (hs : s.size ≤ maxLen) :
    Calls Try.prog 6 #[v, .string s] w fun e w' => e = .returned (.bool true) ∧ Below w.heap.size w w' := by
  obtain rfl := h
  unfold maxLen at hs
  by_cases hn : s.size ≤ 40
  · have e := str_list s
    have := frames_few q s.data.toList w (by simpa using hn)
    rwa [← e] at this
  · exact frames_many q s w (by omega) hs
end Go.Proofs.Ytenbafolmmemgaa.W10
