/- The law SubchannelCounts walked: it returns true. -/
import Derived.Test.YtenbafolmmemgaaQpl
import Derived.Test.YtenbafolmmemgaaQaw
import Derived.Test.YtenbafolmmemgaaQo
namespace Go.Proofs.Ytenbafolmmemgaa.W10
open Go.RowKit
set_option linter.unusedVariables false

set_option maxRecDepth 100000 in
set_option maxHeartbeats 4000000 in
theorem counts_ok (v : Value) (l : List T.Trk) (ctl lba L' : Int) (w : World) (hr : RdK w v l) (hn : l.length ≤ 120) (hwf : WfL l) (hL : IntKind.i64.wrap (lba + 1) = L') (a b : Q.Fr)
    (ha : Q.progR l ctl lba = (a, 0)) (hb : Q.progR l ctl L' = (b, 0)) (hC : Cnt a b lba) :
    Calls Try.prog 4 #[v, .int .i64 ctl, .int .i64 lba] w (RB true w) := by
  have HP := Lib.hid (fun W (hb : Below w.heap.size w W) => program_any v l ctl lba W (hr.keep hb) hn hwf)
  have HQ := Lib.hid (fun W (hb : Below w.heap.size w W) => program_any v l ctl L' W (hr.keep hb) hn hwf)
  rw [ha] at HP
  rw [hb] at HQ
  clear ha hb
  have HN := Lib.hid (fun W => lba_any a.am a.as a.af W hC.va)
  rw [hC.n] at HN
  have HD := Lib.hid (fun W => dist_any a.am a.as a.af b.am b.as b.af W hC.va hC.vb)
  rw [hC.d] at HD
  have HR := Lib.hid (fun W => dist_any a.rm a.rs a.rf b.rm b.rs b.rf W hC.ra hC.rb)
  have HE := Lib.hid (fun W => enc_yes a W hC.ga)
  have HC := Lib.hid hC.c
  clear hC
  generalize nmb b.rm b.rs b.rf - nmb a.rm a.rs a.rf = R at HR HC
  obtain ⟨ac, at_, ap, a3, a4, a5, a6, a7, a8⟩ := a
  obtain ⟨bc, bt, bp, b3, b4, b5, b6, b7, b8⟩ := b
  simp only at HN HD HR HC
  obtain ⟨sa, sc, rfl, hac⟩ := RdS.form hr
  clear hr hwf
  go_enter Try.func4, Try.ntmps4
  go_wp2_with fail
  refine (awake_any _).mono ?_
  rintro e w1 ⟨rfl, hb1⟩
  go_wp2_with fail
  refine (HP.out w1 hb1).mono ?_
  rintro e w2 ⟨rfl, hb2⟩
  have hle2 := hb1.trans (hb2.mono hb1.size)
  have hA : Bx (w2.alloc (fobj ⟨ac, at_, ap, a3, a4, a5, a6, a7, a8⟩)) w2.heap.size 27 (fcs ⟨ac, at_, ap, a3, a4, a5, a6, a7, a8⟩) := Bx.new _ _ _
  have hle3 := hle2.alloc hle2.size (fobj ⟨ac, at_, ap, a3, a4, a5, a6, a7, a8⟩)
  obtain ⟨gA, hgA⟩ : ∃ gA, gA = w2.heap.size := ⟨_, rfl⟩
  rw [← hgA] at hA
  clear hb2 hle2 hb1
  go_wp2_with fail
  simp only [← hgA]
  clear hgA
  generalize w2.alloc (fobj ⟨ac, at_, ap, a3, a4, a5, a6, a7, a8⟩) = w3 at hA hle3 ⊢
  refine (HQ.out w3 hle3).mono ?_
  rintro e w4 ⟨rfl, hb4⟩
  have hle4 := hle3.trans (hb4.mono hle3.size)
  have hA4 := hA.call hb4
  clear hb4 hA hle3
  have hB : Bx (w4.alloc (fobj ⟨bc, bt, bp, b3, b4, b5, b6, b7, b8⟩)) w4.heap.size 27 (fcs ⟨bc, bt, bp, b3, b4, b5, b6, b7, b8⟩) := Bx.new _ _ _
  have hA5 := hA4.alloc (fobj ⟨bc, bt, bp, b3, b4, b5, b6, b7, b8⟩)
  have hle5 := hle4.alloc hle4.size (fobj ⟨bc, bt, bp, b3, b4, b5, b6, b7, b8⟩)
  obtain ⟨gB, hgB⟩ : ∃ gB, gB = w4.heap.size := ⟨_, rfl⟩
  rw [← hgB] at hB
  clear hA4 hle4
  go_upto_region 9 with (fail)
  simp only [← hgB]
  clear hgB
  generalize w4.alloc (fobj ⟨bc, bt, bp, b3, b4, b5, b6, b7, b8⟩) = w5 at hA5 hB hle5 ⊢
  obtain ⟨p0, p1, p2, p3, p4, p5, p6, p7, p8⟩ := fcs_cells hA5
  go_wp2_with fail
  refine (HN.out _).mono ?_
  rintro e w6 ⟨rfl, hb6⟩
  have hle6 := hle5.trans (hb6.mono hle5.size)
  have hA6 := hA5.call hb6
  have hB6 := hB.call hb6
  clear hb6 hA5 hB hle5 p0 p1 p2 p3 p4 p5 p6 p7 p8
  obtain ⟨p0, p1, p2, p3, p4, p5, p6, p7, p8⟩ := fcs_cells hA6
  obtain ⟨t0, t1, t2, t3, t4, t5, t6, t7, t8⟩ := fcs_cells hB6
  go_wp2_with fail
  refine (HD.out _).mono ?_
  rintro e w7 ⟨rfl, hb7⟩
  have hle7 := hle6.trans (hb7.mono hle6.size)
  have hA7 := hA6.call hb7
  have hB7 := hB6.call hb7
  clear hb7 hA6 hB6 hle6 p0 p1 p2 p3 p4 p5 p6 p7 p8 t0 t1 t2 t3 t4 t5 t6 t7 t8
  obtain ⟨p0, p1, p2, p3, p4, p5, p6, p7, p8⟩ := fcs_cells hA7
  obtain ⟨t0, t1, t2, t3, t4, t5, t6, t7, t8⟩ := fcs_cells hB7
  go_wp2_with fail
  refine (HR.out _).mono ?_
  rintro e w8 ⟨rfl, hb8⟩
  have hle8 := hle7.trans (hb8.mono hle7.size)
  have hA8 := hA7.call hb8
  have hB8 := hB7.call hb8
  clear hb8 hA7 hB7 hle7 p0 p1 p2 p3 p4 p5 p6 p7 p8 t0 t1 t2 t3 t4 t5 t6 t7 t8
  obtain ⟨p0, p1, p2, p3, p4, p5, p6, p7, p8⟩ := fcs_cells hA8
  go_wp2_with fail
  refine (HE.out _).mono ?_
  rintro e w9 ⟨rfl, hb9⟩
  have hle9 := hle8.trans (hb9.mono hle8.size)
  have hA9 := hA8.call hb9
  have hB9 := hB8.call hb9
  clear hb9 hA8 hB8 hle8 p0 p1 p2 p3 p4 p5 p6 p7 p8
  obtain ⟨p0, p1, p2, p3, p4, p5, p6, p7, p8⟩ := fcs_cells hA9
  obtain ⟨t0, t1, t2, t3, t4, t5, t6, t7, t8⟩ := fcs_cells hB9
  clear hA9 hB9
  simp only at p0 p1 p2 p3 p4 p5 p6 p7 p8 t0 t1 t2 t3 t4 t5 t6 t7 t8
  by_cases et : at_ = bt
  · by_cases ep : ap = bp
    · rcases HC.out with ⟨h, _⟩ | ⟨_, _, ⟨h1, h2⟩ | ⟨h1, h2⟩⟩
      · rcases h with h | h
        · exact absurd et h
        · exact absurd ep h
      · subst et ep h1 h2
        go_wp2_with fail
        go_ret
        exact ⟨ret_t rfl, hle9⟩
      · subst et ep h1 h2
        go_wp2_with fail
        go_ret
        exact ⟨ret_t rfl, hle9⟩
    · rcases HC.out with ⟨_, h⟩ | ⟨_, h, _⟩
      · have d2 : (ap != bp) = true := by simpa using ep
        subst et
        have HE := Lib.hid ep
        clear ep
        rcases h with h | ⟨g1, g2, g3⟩
        · subst h
          go_wp2_with fail
          go_ret
          exact ⟨ret_t rfl, hle9⟩
        · subst g1 g2 g3
          go_wp2_with fail
          all_goals (go_ret; exact ⟨ret_t (by simp), hle9⟩)
      · exact absurd h ep
  · rcases HC.out with ⟨_, h⟩ | ⟨h, _, _⟩
    · have d1 : (at_ != bt) = true := by simpa using et
      have HE := Lib.hid et
      clear et
      rcases h with h | ⟨g1, g2, g3⟩
      · subst h
        go_wp2_with fail
        go_ret
        exact ⟨ret_t rfl, hle9⟩
      · subst g1 g2 g3
        go_wp2_with fail
        all_goals (go_ret; exact ⟨ret_t (by simp), hle9⟩)
    · exact absurd h et
set_option maxRecDepth 100000 in
set_option maxHeartbeats 4000000 in
theorem counts_no (v : Value) (l : List T.Trk) (ctl lba L' : Int) (w : World) (hr : RdK w v l) (hn : l.length ≤ 120) (hwf : WfL l) (hL : IntKind.i64.wrap (lba + 1) = L') (a b : Q.Fr) (e1 e2 : Int)
    (ha : Q.progR l ctl lba = (a, e1)) (hb : Q.progR l ctl L' = (b, e2)) (h1 : e1 = 0 ∨ (a = Q.z ∧ (e1 = 1 ∨ e1 = 2))) (h2 : e2 = 0 ∨ (b = Q.z ∧ (e2 = 1 ∨ e2 = 2))) (hne : ¬ (e1 = 0 ∧ e2 = 0)) :
    Calls Try.prog 4 #[v, .int .i64 ctl, .int .i64 lba] w (RB true w) := by
  have HP := Lib.hid (fun W (hb : Below w.heap.size w W) => program_any v l ctl lba W (hr.keep hb) hn hwf)
  have HQ := Lib.hid (fun W (hb : Below w.heap.size w W) => program_any v l ctl L' W (hr.keep hb) hn hwf)
  rw [ha] at HP
  rw [hb] at HQ
  clear ha hb
  have H1 := Lib.hid h1
  have H2 := Lib.hid h2
  have HNE := Lib.hid hne
  clear h1 h2 hne
  obtain ⟨ac, at_, ap, a3, a4, a5, a6, a7, a8⟩ := a
  obtain ⟨bc, bt, bp, b3, b4, b5, b6, b7, b8⟩ := b
  obtain ⟨sa, sc, rfl, hac⟩ := RdS.form hr
  clear hr hwf
  go_enter Try.func4, Try.ntmps4
  go_wp2_with fail
  refine (awake_any _).mono ?_
  rintro e w1 ⟨rfl, hb1⟩
  go_wp2_with fail
  refine (HP.out w1 hb1).mono ?_
  rintro e w2 ⟨rfl, hb2⟩
  have hle2 := hb1.trans (hb2.mono hb1.size)
  have hA : Bx (w2.alloc (fobj ⟨ac, at_, ap, a3, a4, a5, a6, a7, a8⟩)) w2.heap.size 27 (fcs ⟨ac, at_, ap, a3, a4, a5, a6, a7, a8⟩) := Bx.new _ _ _
  have hle3 := hle2.alloc hle2.size (fobj ⟨ac, at_, ap, a3, a4, a5, a6, a7, a8⟩)
  obtain ⟨gA, hgA⟩ : ∃ gA, gA = w2.heap.size := ⟨_, rfl⟩
  rw [← hgA] at hA
  clear hb2 hle2 hb1
  go_wp2_with fail
  simp only [← hgA]
  clear hgA
  generalize w2.alloc (fobj ⟨ac, at_, ap, a3, a4, a5, a6, a7, a8⟩) = w3 at hA hle3 ⊢
  refine (HQ.out w3 hle3).mono ?_
  rintro e w4 ⟨rfl, hb4⟩
  have hle4 := hle3.trans (hb4.mono hle3.size)
  have hA4 := hA.call hb4
  clear hb4 hA hle3
  have hB : Bx (w4.alloc (fobj ⟨bc, bt, bp, b3, b4, b5, b6, b7, b8⟩)) w4.heap.size 27 (fcs ⟨bc, bt, bp, b3, b4, b5, b6, b7, b8⟩) := Bx.new _ _ _
  have hA5 := hA4.alloc (fobj ⟨bc, bt, bp, b3, b4, b5, b6, b7, b8⟩)
  have hle5 := hle4.alloc hle4.size (fobj ⟨bc, bt, bp, b3, b4, b5, b6, b7, b8⟩)
  obtain ⟨gB, hgB⟩ : ∃ gB, gB = w4.heap.size := ⟨_, rfl⟩
  rw [← hgB] at hB
  clear hA4 hle4
  go_upto_region 7 with (fail)
  simp only [← hgB]
  clear hgB
  generalize w4.alloc (fobj ⟨bc, bt, bp, b3, b4, b5, b6, b7, b8⟩) = w5 at hA5 hB hle5 ⊢
  obtain ⟨p0, p1, p2, p3, p4, p5, p6, p7, p8⟩ := fcs_cells hA5
  obtain ⟨t0, t1, t2, t3, t4, t5, t6, t7, t8⟩ := fcs_cells hB
  clear hA5 hB
  simp only at p0 p1 p2 p3 p4 p5 p6 p7 p8 t0 t1 t2 t3 t4 t5 t6 t7 t8
  rcases H1.out with rfl | ⟨h, h'⟩
  · rcases H2.out with rfl | ⟨g, g'⟩
    · exact absurd ⟨rfl, rfl⟩ HNE.out
    · simp only [Q.z, Q.Fr.mk.injEq] at g
      obtain ⟨rfl, rfl, rfl, rfl, rfl, rfl, rfl, rfl, rfl⟩ := g
      rcases g' with rfl | rfl <;> (go_wp2_with fail; go_ret; exact ⟨ret_t rfl, hle5⟩)
  · simp only [Q.z, Q.Fr.mk.injEq] at h
    obtain ⟨rfl, rfl, rfl, rfl, rfl, rfl, rfl, rfl, rfl⟩ := h
    rcases H2.out with rfl | ⟨g, g'⟩
    · rcases h' with rfl | rfl <;> (go_wp2_with fail; go_ret; exact ⟨ret_t rfl, hle5⟩)
    · simp only [Q.z, Q.Fr.mk.injEq] at g
      obtain ⟨rfl, rfl, rfl, rfl, rfl, rfl, rfl, rfl, rfl⟩ := g
      rcases h' with rfl | rfl <;> rcases g' with rfl | rfl <;> (go_wp2_with fail; go_ret; exact ⟨ret_t rfl, hle5⟩)
set_option maxRecDepth 100000 in
set_option maxHeartbeats 4000000 in
theorem counts_many (v : Value) (l : List T.Trk) (ctl lba : Int) (w : World) (hr : RdK w v l) (hn : 120 < l.length) (hx : l.length ≤ 9223372036854775807) :
    Calls Try.prog 4 #[v, .int .i64 ctl, .int .i64 lba] w (RB true w) := by
  obtain ⟨a, c, rfl, hac⟩ := RdS.form hr
  clear hr
  go_enter Try.func4, Try.ntmps4
  go_wp2_with fail
  refine (awake_any _).mono ?_
  rintro e w1 ⟨rfl, hb1⟩
  go_wp2_with fail
  go_ret
  exact ⟨ret_t rfl, hb1⟩
theorem counts_law (w : World) (v : Value) (l : List T.Trk) (h : CameK w v l) (ctl : Int) (hc : (Lit.int .i64 ctl).wf = true) (lba : Int) (hl : (Lit.int .i64 lba).wf = true) :
    Calls Try.prog 4 #[v, .int .i64 ctl, .int .i64 lba] w fun e w' => e = .returned (.bool true) ∧ Below w.heap.size w w' := by
  by_cases hn : l.length ≤ 120
  · by_cases h0 : (Q.progR l ctl lba).2 = 0 ∧ (Q.progR l ctl (IntKind.i64.wrap (lba + 1))).2 = 0
    · obtain ⟨hS, c0, c1, a0, a1, ea⟩ := progR_ok h0.1
      have hw : IntKind.i64.wrap (lba + 1) = lba + 1 := IntWalk.i64_in _ (by omega)
      have h2 := h0.2
      rw [hw] at h2
      obtain ⟨_, _, _, b0, b1, eb⟩ := progR_ok h2
      exact counts_ok v l ctl lba (lba + 1) w h.1 hn h.2.2 hw _ _ (Prod.ext ea h0.1) (Prod.ext eb h2) (cnt_all hS c0 c1 a0 b1)
    · refine counts_no v l ctl lba _ w h.1 hn h.2.2 rfl _ _ _ _ rfl rfl ?_ ?_ h0
      · by_cases e : (Q.progR l ctl lba).2 = 0
        · exact .inl e
        · exact .inr (progR_no e)
      · by_cases e : (Q.progR l ctl (IntKind.i64.wrap (lba + 1))).2 = 0
        · exact .inl e
        · exact .inr (progR_no e)
  · exact counts_many v l ctl lba w h.1 (by omega) h.2.1
end Go.Proofs.Ytenbafolmmemgaa.W10
