/- The law SubchannelPositions walked: it returns true. -/
import Derived.Test.YtenbafolmmemgaaQaw
import Derived.Test.YtenbafolmmemgaaQrs
import Derived.Test.YtenbafolmmemgaaQre
import Derived.Test.YtenbafolmmemgaaQo
namespace Go.Proofs.Ytenbafolmmemgaa.W10
open Go.RowKit
set_option linter.unusedVariables false

set_option maxRecDepth 100000 in
set_option maxHeartbeats 4000000 in
theorem positions_few (v : Value) (l : List T.Trk) (ctl lba : Int) (w : World) (hr : RdK w v l) (hn : l.length ≤ 120) (hwf : WfL l) :
    Calls Try.prog 3 #[v, .int .i64 ctl, .int .i64 lba] w (RB true w) := by
  have HP := Lib.hid (fun W (hb : Below w.heap.size w W) => program_any v l ctl lba W (hr.keep hb) hn hwf)
  have HQ := Lib.hid (fun W (hb : Below w.heap.size w W) => rprogram_any v l ctl lba W (hr.keep hb) hn hwf)
  have HE := Lib.hid (fun W (hb : Below w.heap.size w W) => entries_any v l ctl W (hr.keep hb) hn hwf)
  have HF := Lib.hid (fun W (hb : Below w.heap.size w W) => rentries_any v l ctl W (hr.keep hb) hn hwf)
  have HLen : Hid ((Q.entR l ctl).1.length ≤ 1000000) := Lib.hid (by unfold Q.entR; split; · simp
                                                                     · rw [Q.entL_length]; omega)
  obtain ⟨a, c, rfl, hac⟩ := RdS.form hr
  clear hr hwf
  generalize Q.progR l ctl lba = R at HP HQ
  obtain ⟨q, e⟩ := R
  generalize Q.entR l ctl = S at HE HF HLen
  obtain ⟨L, e2⟩ := S
  go_enter Try.func3, Try.ntmps3
  go_wp2_with fail
  refine (awake_any _).mono ?_
  rintro e w1 ⟨rfl, hb1⟩
  go_wp2_with fail
  refine (HP.out w1 hb1).mono ?_
  rintro e w2 ⟨rfl, hb2⟩
  have hle2 := hb1.trans (hb2.mono hb1.size)
  have hA : Bx (w2.alloc (fobj q)) w2.heap.size 27 (fcs q) := Bx.new _ _ _
  have hle3 := hle2.alloc hle2.size (fobj q)
  obtain ⟨gA, hgA⟩ : ∃ gA, gA = w2.heap.size := ⟨_, rfl⟩
  rw [← hgA] at hA
  clear hb2 hle2 hb1
  go_wp2_with fail
  simp only [← hgA]
  clear hgA
  generalize w2.alloc (fobj q) = w3 at hA hle3 ⊢
  refine (HQ.out w3 hle3).mono ?_
  rintro e w4 ⟨rfl, hb4⟩
  have hle4 := hle3.trans (hb4.mono hle3.size)
  have hA4 := hA.call hb4
  clear hb4 hA hle3
  have hB : Bx (w4.alloc (fobj q)) w4.heap.size 27 (fcs q) := Bx.new _ _ _
  have hA5 := hA4.alloc (fobj q)
  have hle5 := hle4.alloc hle4.size (fobj q)
  obtain ⟨gB, hgB⟩ : ∃ gB, gB = w4.heap.size := ⟨_, rfl⟩
  rw [← hgB] at hB
  clear hA4 hle4
  go_wp2_with fail
  simp only [← hgB]
  clear hgB
  generalize w4.alloc (fobj q) = w5 at hA5 hB hle5 ⊢
  refine (HE.out w5 hle5).mono ?_
  rintro e w6 ⟨v6, rfl, hr6, hb6⟩
  have hle6 := hle5.trans (hb6.mono hle5.size)
  have hA6 := hA5.call hb6
  have hB6 := hB.call hb6
  obtain ⟨a6, c6, rfl, hac6⟩ := RdD.form hr6
  clear hb6 hA5 hB hle5
  go_wp2_with fail
  refine (HF.out w6 hle6).mono ?_
  rintro e w7 ⟨v7, rfl, hr7, hb7⟩
  have hle7 := hle6.trans (hb7.mono hle6.size)
  have hA7 := hA6.call hb7
  have hB7 := hB6.call hb7
  have hr67 := RdD.keep hr6 hb7
  obtain ⟨a7, c7, rfl, hac7⟩ := RdD.form hr7
  clear hb7 hA6 hB6 hle6 hr6
  obtain ⟨p0, p1, p2, p3, p4, p5, p6, p7, p8⟩ := fcs_cells hA7
  obtain ⟨t0, t1, t2, t3, t4, t5, t6, t7, t8⟩ := fcs_cells hB7
  have HS := Lib.hid (same_any _ _ L L w7 hr67 hr7 HLen.out rfl)
  clear hA7 hB7 hr67 hr7
  go_wp2_with fail
  refine HS.out.mono ?_
  rintro e w8 ⟨rfl, hb8⟩
  have hd : decide (L = L) = true := decide_eq_true rfl
  go_wp2_with fail
  go_ret
  exact ⟨ret_t rfl, hle7.trans (hb8.mono hle7.size)⟩
set_option maxRecDepth 100000 in
set_option maxHeartbeats 4000000 in
theorem positions_many (v : Value) (l : List T.Trk) (ctl lba : Int) (w : World) (hr : RdK w v l) (hn : 120 < l.length) (hx : l.length ≤ 9223372036854775807) :
    Calls Try.prog 3 #[v, .int .i64 ctl, .int .i64 lba] w (RB true w) := by
  obtain ⟨a, c, rfl, hac⟩ := RdS.form hr
  clear hr
  go_enter Try.func3, Try.ntmps3
  go_wp2_with fail
  refine (awake_any _).mono ?_
  rintro e w1 ⟨rfl, hb1⟩
  go_wp2_with fail
  go_ret
  exact ⟨ret_t rfl, hb1⟩
theorem positions_law (w : World) (v : Value) (l : List T.Trk) (h : CameK w v l) (ctl : Int) (hc : (Lit.int .i64 ctl).wf = true) (lba : Int) (hl : (Lit.int .i64 lba).wf = true) :
    Calls Try.prog 3 #[v, .int .i64 ctl, .int .i64 lba] w fun e w' => e = .returned (.bool true) ∧ Below w.heap.size w w' := by
  by_cases hn : l.length ≤ 120
  · exact positions_few v l ctl lba w h.1 hn h.2.2
  · exact positions_many v l ctl lba w h.1 (by omega) h.2.1
end Go.Proofs.Ytenbafolmmemgaa.W10
