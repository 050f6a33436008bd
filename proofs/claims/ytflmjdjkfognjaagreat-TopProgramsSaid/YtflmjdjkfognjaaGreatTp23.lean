/- Shaken out of XQp -/
import Derived.Test.YtflmjdjkfognjaaGreatTp22
namespace Go.Proofs.YtflmjdjkfognjaaGreat.W10
open Go.RowKit
set_option linter.unusedVariables false
def fcs (f : Q.Fr) : List Value := [.int .i64 f.ctl, .int .i64 f.trk, .int .i64 f.pt, .int .i64 f.rm, .int .i64 f.rs, .int .i64 f.rf, .int .i64 f.am, .int .i64 f.as, .int .i64 f.af]
abbrev fagg (f : Q.Fr) : Value := .agg #[.int .i64 f.ctl, .int .i64 f.trk, .int .i64 f.pt, .int .i64 f.rm, .int .i64 f.rs, .int .i64 f.rf, .int .i64 f.am, .int .i64 f.as, .int .i64 f.af]
abbrev fobj (f : Q.Fr) : Obj := .cells #[.int .i64 f.ctl, .int .i64 f.trk, .int .i64 f.pt, .int .i64 f.rm, .int .i64 f.rs, .int .i64 f.rf, .int .i64 f.am, .int .i64 f.as, .int .i64 f.af] 38
/-- a frame and a code are returned -/
def FP (r : Q.Fr × Int) (w : World) (e : Ending) (w' : World) : Prop := e = .returned (.tuple #[fagg r.1, .int .i64 r.2]) ∧ Below w.heap.size w w'
/-- the boxes of Program: the block, the result -/
abbrev pbox (w : World) (lba : Int) : World := (w.alloc (.cells #[.int .i64 lba] 3)).alloc (.cells #[.int .i64 0, .int .i64 0, .int .i64 0, .int .i64 0, .int .i64 0, .int .i64 0, .int .i64 0, .int .i64 0, .int .i64 0] 38)
structure PB (w0 : World) (lba : Int) (W : World) : Prop where
  b : Bx W w0.heap.size 3 [.int .i64 lba]
  r : Bx W (w0.heap.size + 1) 38 (fcs Q.z)
  le : Below w0.heap.size w0 W
theorem PB.new (w : World) (lba : Int) : PB w lba (pbox w lba) :=
  ⟨heap_alloc2_old _ _ _, heap_alloc2_new _ _ _, ((Below.refl _ _).alloc (Nat.le_refl _) _).alloc (by simp) _⟩
theorem PB.call {w0 W W' : World} {lba : Int} (h : PB w0 lba W) (hb : Below W.heap.size W W') : PB w0 lba W' := ⟨h.b.call hb, h.r.call hb, h.le.trans (hb.mono h.le.size)⟩
theorem PB.rd {w0 W : World} {lba : Int} (h : PB w0 lba W) {v : Value} {l : List T.Trk} (hr : RdK w0 v l) : RdK W v l := hr.keep h.le
/-- a frame is stored into a box -/
abbrev put9 (W : World) (g : Nat) (f : Q.Fr) : World :=
  ((((((((W.setCell ⟨g, 0, none⟩ (.int .i64 f.ctl)).setCell ⟨g, 1, none⟩ (.int .i64 f.trk)).setCell ⟨g, 2, none⟩ (.int .i64 f.pt)).setCell ⟨g, 3, none⟩ (.int .i64 f.rm)).setCell ⟨g, 4, none⟩ (.int .i64 f.rs)).setCell ⟨g, 5, none⟩ (.int .i64 f.rf)).setCell ⟨g, 6, none⟩ (.int .i64 f.am)).setCell
    ⟨g, 7, none⟩ (.int .i64 f.as)).setCell ⟨g, 8, none⟩ (.int .i64 f.af)
theorem put9_box {W : World} {g : Nat} {t : TypeId} {f0 : Q.Fr} (h : Bx W g t (fcs f0)) (f : Q.Fr) : Bx (put9 W g f) g t (fcs f) :=
  ((((((((h.set 0 (.int .i64 f.ctl)).set 1 (.int .i64 f.trk)).set 2 (.int .i64 f.pt)).set 3 (.int .i64 f.rm)).set 4 (.int .i64 f.rs)).set 5 (.int .i64 f.rf)).set 6 (.int .i64 f.am)).set 7 (.int .i64 f.as)).set 8 (.int .i64 f.af)
theorem put9_below {B : Nat} {w W : World} (h : Below B w W) {g : Nat} (hg : B ≤ g) (f : Q.Fr) : Below B w (put9 W g f) :=
  ((((((((h.setCell hg _).setCell hg _).setCell hg _).setCell hg _).setCell hg _).setCell hg _).setCell hg _).setCell hg _).setCell hg _
/-- the cells of a boxed frame -/
theorem fcs_cells {W : World} {g : Nat} {t : TypeId} {f : Q.Fr} (h : Bx W g t (fcs f)) : W.cell? ⟨g, 0, none⟩ = some (.int .i64 f.ctl) ∧ W.cell? ⟨g, 1, none⟩ = some (.int .i64 f.trk) ∧ W.cell? ⟨g, 2, none⟩ = some (.int .i64 f.pt) ∧ W.cell? ⟨g, 3, none⟩ = some (.int .i64 f.rm) ∧
    W.cell? ⟨g, 4, none⟩ = some (.int .i64 f.rs) ∧ W.cell? ⟨g, 5, none⟩ = some (.int .i64 f.rf) ∧ W.cell? ⟨g, 6, none⟩ = some (.int .i64 f.am) ∧ W.cell? ⟨g, 7, none⟩ = some (.int .i64 f.as) ∧ W.cell? ⟨g, 8, none⟩ = some (.int .i64 f.af) :=
  ⟨h.cell (i := 0) rfl, h.cell (i := 1) rfl, h.cell (i := 2) rfl, h.cell (i := 3) rfl, h.cell (i := 4) rfl, h.cell (i := 5) rfl, h.cell (i := 6) rfl, h.cell (i := 7) rfl, h.cell (i := 8) rfl⟩
set_option maxRecDepth 100000 in
set_option maxHeartbeats 2000000 in
theorem program_1 (v : Value) (l : List T.Trk) (ctl lba : Int) (w : World) (hr : RdK w v l) (hn : l.length ≤ 120) (hwf : WfL l) (hS : Q.sessB l = false) :
    Calls Tryz.prog 11 #[v, .int .i64 ctl, .int .i64 lba] w (FP (Q.z, 1) w) := by
  have hP := PB.new w lba
  have HSe := Lib.hid (session_any v l (pbox w lba) (hP.rd hr) hn hwf)
  have HS := Lib.hid hS; clear hS hwf
  obtain ⟨a, c, rfl, hac⟩ := RdS.form hr
  go_enter Tryz.func11, Tryz.ntmps11
  go_wp2_with fail
  refine HSe.out.mono ?_
  rw [HS.out]
  rintro e w1 ⟨rfl, hb⟩
  have hP1 := hP.call hb
  obtain ⟨g0, g1, g2, g3, g4, g5, g6, g7, g8⟩ := fcs_cells hP1.r
  have gf := hP1.r.free
  have gl := hP1.r.lt
  have hle := hP1.le
  clear hb hP
  go_wp2_with fail
  have hB9 := put9_box hP1.r Q.z
  have hb9 := put9_below hle (Nat.le_succ _) Q.z
  change bodyPost _ _ _ _ _ (put9 w1 (w.heap.size + 1) Q.z)
  generalize put9 w1 (w.heap.size + 1) Q.z = W9 at hB9 hb9 ⊢
  clear g0 g1 g2 g3 g4 g5 g6 g7 g8 gf gl
  obtain ⟨g0, g1, g2, g3, g4, g5, g6, g7, g8⟩ := fcs_cells hB9
  exact bodyPost_ret (v := .tuple #[fagg Q.z, .int .i64 1]) (by simp [results, Tryz.results11, go_sem, g0, g1, g2, g3, g4, g5, g6, g7, g8]) rfl ⟨rfl, hb9⟩
set_option maxRecDepth 100000 in
set_option maxHeartbeats 2000000 in
theorem program_2 (v : Value) (l : List T.Trk) (ctl lba : Int) (w : World) (hr : RdK w v l) (hn : l.length ≤ 120) (hwf : WfL l) (hS : Q.sessB l = true) (hc : ¬ (0 ≤ ctl ∧ ctl ≤ 15)) :
    Calls Tryz.prog 11 #[v, .int .i64 ctl, .int .i64 lba] w (FP (Q.z, 1) w) := by
  have hP := PB.new w lba
  have hRK := hP.rd hr
  have HSe := Lib.hid (session_any v l (pbox w lba) hRK hn hwf)
  have HS := Lib.hid hS; clear hwf
  have HSS := Lib.hid (Q.sessB_true.1 hS); clear hS
  have HR := Lib.hid hr
  obtain ⟨a, c, rfl, hac⟩ := RdS.form hr
  clear hr hRK
  have d1 := btw_f hc; clear hc
  go_enter Tryz.func11, Tryz.ntmps11
  go_wp2_with fail
  refine HSe.out.mono ?_
  rw [HS.out]
  rintro e w1 ⟨rfl, hb⟩
  have hP1 := hP.call hb
  obtain ⟨g0, g1, g2, g3, g4, g5, g6, g7, g8⟩ := fcs_cells hP1.r
  have gb := hP1.b.cell (i := 0) rfl
  have gf := hP1.r.free
  have gl := hP1.r.lt
  have hle := hP1.le
  clear hb hP
  go_wp2_with (go_at_call 39; refine (between_any _ _ _ _).mono ?_; rintro e w' ⟨rfl, rfl⟩)
  have hB9 := put9_box hP1.r Q.z
  have hb9 := put9_below hle (Nat.le_succ _) Q.z
  change bodyPost _ _ _ _ _ (put9 w1 (w.heap.size + 1) Q.z)
  generalize put9 w1 (w.heap.size + 1) Q.z = W9 at hB9 hb9 ⊢
  clear g0 g1 g2 g3 g4 g5 g6 g7 g8 gf gl
  obtain ⟨g0, g1, g2, g3, g4, g5, g6, g7, g8⟩ := fcs_cells hB9
  exact bodyPost_ret (v := .tuple #[fagg Q.z, .int .i64 1]) (by simp [results, Tryz.results11, go_sem, g0, g1, g2, g3, g4, g5, g6, g7, g8]) rfl ⟨rfl, hb9⟩
set_option maxRecDepth 100000 in
set_option maxHeartbeats 2000000 in
theorem program_3 (v : Value) (l : List T.Trk) (ctl lba : Int) (w : World) (hr : RdK w v l) (hn : l.length ≤ 120) (hwf : WfL l) (hS : Q.sessB l = true) (hc : 0 ≤ ctl ∧ ctl ≤ 15) (hl : ¬ (0 ≤ lba ∧ lba ≤ 449849)) :
    Calls Tryz.prog 11 #[v, .int .i64 ctl, .int .i64 lba] w (FP (Q.z, 2) w) := by
  have hP := PB.new w lba
  have hRK := hP.rd hr
  have HSe := Lib.hid (session_any v l (pbox w lba) hRK hn hwf)
  have HS := Lib.hid hS; clear hwf
  have HSS := Lib.hid (Q.sessB_true.1 hS); clear hS
  have HR := Lib.hid hr
  obtain ⟨a, c, rfl, hac⟩ := RdS.form hr
  clear hr hRK
  have d1 := btw_t hc.1 hc.2; clear hc
  have d2 := btw_f hl; clear hl
  go_enter Tryz.func11, Tryz.ntmps11
  go_wp2_with fail
  refine HSe.out.mono ?_
  rw [HS.out]
  rintro e w1 ⟨rfl, hb⟩
  have hP1 := hP.call hb
  obtain ⟨g0, g1, g2, g3, g4, g5, g6, g7, g8⟩ := fcs_cells hP1.r
  have gb := hP1.b.cell (i := 0) rfl
  have gf := hP1.r.free
  have gl := hP1.r.lt
  have hle := hP1.le
  clear hb hP
  go_wp2_with (go_at_call 39; refine (between_any _ _ _ _).mono ?_; rintro e w' ⟨rfl, rfl⟩)
  have hB9 := put9_box hP1.r Q.z
  have hb9 := put9_below hle (Nat.le_succ _) Q.z
  change bodyPost _ _ _ _ _ (put9 w1 (w.heap.size + 1) Q.z)
  generalize put9 w1 (w.heap.size + 1) Q.z = W9 at hB9 hb9 ⊢
  clear g0 g1 g2 g3 g4 g5 g6 g7 g8 gf gl
  obtain ⟨g0, g1, g2, g3, g4, g5, g6, g7, g8⟩ := fcs_cells hB9
  exact bodyPost_ret (v := .tuple #[fagg Q.z, .int .i64 2]) (by simp [results, Tryz.results11, go_sem, g0, g1, g2, g3, g4, g5, g6, g7, g8]) rfl ⟨rfl, hb9⟩
set_option maxRecDepth 100000 in
set_option maxHeartbeats 2000000 in
theorem program_4 (v : Value) (l : List T.Trk) (ctl lba : Int) (w : World) (hr : RdK w v l) (hn : l.length ≤ 120) (hwf : WfL l) (hS : Q.sessB l = true) (hc : 0 ≤ ctl ∧ ctl ≤ 15) (hl : 0 ≤ lba ∧ lba ≤ 449849) (hi : Q.firstP l lba l.length = none) (hlastx : Q.endL l ≤ lba) :
    Calls Tryz.prog 11 #[v, .int .i64 ctl, .int .i64 lba] w (FP (Q.progF l ctl lba none, 0) w) := by
  have hP := PB.new w lba
  have hRK := hP.rd hr
  have HSe := Lib.hid (session_any v l (pbox w lba) hRK hn hwf)
  have HS := Lib.hid hS; clear hwf
  have HSS := Lib.hid (Q.sessB_true.1 hS); clear hS
  have HR := Lib.hid hr
  obtain ⟨a, c, rfl, hac⟩ := RdS.form hr
  clear hr hRK
  have d1 := btw_t hc.1 hc.2; clear hc
  have d2 := btw_t hl.1 hl.2
  obtain ⟨hl1, hl2⟩ := hl
  go_enter Tryz.func11, Tryz.ntmps11
  go_wp2_with fail
  refine HSe.out.mono ?_
  rw [HS.out]
  rintro e w1 ⟨rfl, hb⟩
  have hP1 := hP.call hb
  obtain ⟨g0, g1, g2, g3, g4, g5, g6, g7, g8⟩ := fcs_cells hP1.r
  have gb := hP1.b.cell (i := 0) rfl
  have gf := hP1.r.free
  have gl := hP1.r.lt
  have hle := hP1.le
  clear hb hP
  go_upto_region 5 with (first | (go_at_call 39; refine (between_any _ _ _ _).mono ?_; rintro e w' ⟨rfl, rfl⟩) | fail)
  go_wp2_with fail
  refine (msf_any lba _ (by omega) (by omega)).mono ?_
  rintro e w2 ⟨rfl, hb2⟩
  have hP2 := hP1.call hb2
  clear hP1 g0 g1 g2 g3 g4 g5 g6 g7 g8 gb gf gl hle hb2
  have hQ : Bx (w2.alloc (fobj ⟨ctl, 170, 1, 0, 0, 0, Q.mM (lba + 150), Q.mS (lba + 150), Q.mF (lba + 150)⟩)) w2.heap.size 38 (fcs ⟨ctl, 170, 1, 0, 0, 0, Q.mM (lba + 150), Q.mS (lba + 150), Q.mF (lba + 150)⟩) := Bx.new _ _ _
  have hbq := (Below.refl w2.heap.size w2).alloc (Nat.le_refl _) (fobj ⟨ctl, 170, 1, 0, 0, 0, Q.mM (lba + 150), Q.mS (lba + 150), Q.mF (lba + 150)⟩)
  have hP3 := hP2.call hbq
  obtain ⟨gq, hgq⟩ : ∃ gq, gq = w2.heap.size := ⟨_, rfl⟩
  have hqg : w.heap.size + 1 < gq := by rw [hgq]; exact hP2.r.lt
  rw [← hgq] at hQ
  have gb := hP2.b.cell (i := 0) rfl
  have gl := hP2.r.lt
  go_wp2_with fail
  simp only [← hgq]
  clear gb gl
  generalize w2.alloc (fobj ⟨ctl, 170, 1, 0, 0, 0, Q.mM (lba + 150), Q.mS (lba + 150), Q.mF (lba + 150)⟩) = w3 at hQ hbq hP3 ⊢
  clear hbq hP2 hgq
  refine (first_any _ l w3 (hP3.rd HR.out) hn (fun i hi => by have := HSS.out.at hi; unfold Fine; omega) w.heap.size lba (hP3.b.cell (i := 0) rfl)).mono ?_
  have hix : idxV l lba = -1 := by unfold idxV; rw [hi]
  rw [hix]
  clear hix
  have Hi := Lib.hid hi; clear hi
  rintro e w4 ⟨rfl, hb4⟩
  have hP4 := hP3.call hb4
  have hQ4 := hQ.call hb4
  clear hP3 hQ hb4
  obtain ⟨b, off, hcell0⟩ := RdK.cells HR.out
  have hcell : ∀ i, i < l.length → a = some ⟨b, off, none⟩ ∧ w4.rangeAt b (off + i * 7) (tcs (T.tr l i)) := fun i hi => ⟨(hcell0 i hi).1, fun j u hu => (hP4.le.cell (p := ⟨b, off + i * 7 + j, none⟩) (World.block_lt_of_cell? w _ ((hcell0 i hi).2 j u hu))).trans ((hcell0 i hi).2 j u hu)⟩
  have hs1 := HSS.out.1
  have hs2 := HSS.out.2.1
  obtain ⟨ha, hrg⟩ := hcell (l.length - 1) (by omega)
  obtain ⟨_, _, hat3, hat4, hat5, hat6⟩ := HSS.out.at (i := l.length - 1) (by omega)
  have hlast : Q.endL l ≤ lba := by
    have := hlastx
    exact this
  have HEnd : Hid (Q.endL l = (T.tr l (l.length - 1)).st + (T.tr l (l.length - 1)).len) := Lib.hid rfl
  rw [HEnd.out] at hlast
  have hcw := (rd7 (hcell0 (l.length - 1) (by omega)).2).1
  clear hcell hcell0
  generalize hp : l.length - 1 = p at *
  generalize T.tr l p = x at hrg hcw hat3 hat4 hat5 hat6 HEnd hlast
  obtain ⟨hc0, hc1, hc2, hc3, hc4, hc5, hc6⟩ := rd7 hrg
  have hlw : IntKind.i64.wrap ((l.length : Int) - 1) = (l.length : Int) - 1 := IntWalk.i64_in _ (by omega)
  have hsw : IntKind.i64.wrap (lba - (x.st + x.len)) = lba - (x.st + x.len) := IntWalk.i64_in _ (by omega)
  have hix := fun w' => run_idxS Tryz.underlying22 Tryz.sizeTrack (cap := c) ha (by omega : p < l.length) ((l.length : Int) - 1) (by omega) w'
  have Ha := Lib.hid ha; clear ha hrg
  have Hp := Lib.hid hp; clear hp
  have hbl : b < w4.heap.size := World.block_lt_of_cell? w4 _ hc0
  have gb := hP4.b.cell (i := 0) rfl
  have gl := hP4.r.lt
  have gq1 := hQ4.lt
  go_wp2_with fail
  have hbq : b < gq := by have := World.block_lt_of_cell? w _ hcw; simp only at this; omega
  have HS : Hid (∀ W', Below gq w4 W' → Below gq w4 W' ∧ W'.cell? ⟨w.heap.size, 0, none⟩ = some (.int .i64 lba) ∧ W'.cell? ⟨b, off + p * 7, none⟩ = some (.int .i64 x.num) ∧ W'.cell? ⟨b, off + p * 7 + 1, none⟩ = some (.int .i64 x.ses) ∧ W'.cell? ⟨b, off + p * 7 + 2, none⟩ = some (.int .i64 x.st) ∧ W'.cell? ⟨b, off + p * 7 + 3, none⟩ = some (.int .i64 x.len) ∧ W'.cell? ⟨b, off + p * 7 + 4, none⟩ = some (.int .i64 x.nx) ∧ W'.cell? ⟨b, off + p * 7 + 5, none⟩ = some (.int .i64 x.sta) ∧ W'.cell? ⟨b, off + p * 7 + 6, none⟩ = some (.int .i64 x.pk)) := Lib.hid fun W' hW => by
    have k : ∀ i, W'.cell? ⟨b, i, none⟩ = w4.cell? ⟨b, i, none⟩ := fun i => hW.cell (p := ⟨b, i, none⟩) hbq
    exact ⟨hW, (hW.cell (p := ⟨w.heap.size, 0, none⟩) (by simp only; omega)).trans gb, (k _).trans hc0, (k _).trans hc1, (k _).trans hc2, (k _).trans hc3, (k _).trans hc4, (k _).trans hc5, (k _).trans hc6⟩
  clear hc0 hc1 hc2 hc3 hc4 hc5 hc6 gb hcw
  go_region_held3 (fun W' => Below gq w4 W' ∧ W'.cell? ⟨w.heap.size, 0, none⟩ = some (.int .i64 lba) ∧ W'.cell? ⟨b, off + p * 7, none⟩ = some (.int .i64 x.num) ∧ W'.cell? ⟨b, off + p * 7 + 1, none⟩ = some (.int .i64 x.ses) ∧ W'.cell? ⟨b, off + p * 7 + 2, none⟩ = some (.int .i64 x.st) ∧ W'.cell? ⟨b, off + p * 7 + 3, none⟩ = some (.int .i64 x.len) ∧ W'.cell? ⟨b, off + p * 7 + 4, none⟩ = some (.int .i64 x.nx) ∧ W'.cell? ⟨b, off + p * 7 + 5, none⟩ = some (.int .i64 x.sta) ∧ W'.cell? ⟨b, off + p * 7 + 6, none⟩ = some (.int .i64 x.pk))
    (first | exact HS.out _ ((Below.refl _ _).drew) | exact HS.out _ ‹Below gq w4 _› | exact HS.out _ ((((And.left ‹Below gq w4 _ ∧ _›).setCell (Nat.le_refl _) _).setCell (Nat.le_refl _) _).setCell (Nat.le_refl _) _))
    (first
      | (go_at_call 42; refine (send_any x _ (by omega) (by omega) (by omega) (by omega)).mono ?_; rintro e w5 ⟨rfl, rfl⟩; have hb9 := (And.left ‹Below gq w4 _ ∧ _›).alloc (Nat.le_trans (Nat.le_of_lt gq1) (And.left ‹Below gq w4 _ ∧ _›).size) (tobj x))
      | (go_at_call 45; refine (relative_any _ _ (by omega) (by omega)).mono ?_; rintro e w6 ⟨rfl, hb6⟩; have hb9 := (And.left ‹Below gq w4 _ ∧ _›).trans (hb6.mono (Nat.le_trans (Nat.le_of_lt gq1) (And.left ‹Below gq w4 _ ∧ _›).size)); have hQ6 := Bx.call (W := _) (g := gq) (by first | exact Bx.alloc hQ4 _ | exact hQ4) hb6; have q3 := hQ6.cell (i := 3) rfl; have q4 := hQ6.cell (i := 4) rfl; have q5 := hQ6.cell (i := 5) rfl; have qf := hQ6.free))
  all_goals
    have hbF := And.left ‹Below gq w4 _ ∧ _›
    have hQF := ((hQ6.set 3 (.int .i64 (Q.mM (lba - (x.st + x.len))))).set 4 (.int .i64 (Q.mS (lba - (x.st + x.len))))).set 5 (.int .i64 (Q.mF (lba - (x.st + x.len))))
    have hQF : Bx (((w6.setCell ⟨gq, 3, none⟩ (.int .i64 (Q.mM (lba - (x.st + x.len))))).setCell ⟨gq, 4, none⟩ (.int .i64 (Q.mS (lba - (x.st + x.len))))).setCell ⟨gq, 5, none⟩ (.int .i64 (Q.mF (lba - (x.st + x.len))))) gq 38 (fcs ⟨ctl, 170, 1, Q.mM (lba - (x.st + x.len)), Q.mS (lba - (x.st + x.len)), Q.mF (lba - (x.st + x.len)), Q.mM (lba + 150), Q.mS (lba + 150), Q.mF (lba + 150)⟩) := hQF
    have hrF := hP4.r.keepB hbF hqg
    have hleF := hP4.le.trans (hbF.mono (by omega))
    clear hQ6 q3 q4 q5 qf
    generalize ((w6.setCell ⟨gq, 3, none⟩ (.int .i64 (Q.mM (lba - (x.st + x.len))))).setCell ⟨gq, 4, none⟩ (.int .i64 (Q.mS (lba - (x.st + x.len))))).setCell ⟨gq, 5, none⟩ (.int .i64 (Q.mF (lba - (x.st + x.len)))) = W10 at hbF hQF hrF hleF ⊢
    obtain ⟨q0, q1, q2, q3, q4, q5, q6, q7, q8⟩ := fcs_cells hQF
    obtain ⟨g0, g1, g2, g3, g4, g5, g6, g7, g8⟩ := fcs_cells hrF
    have gf := hrF.free
    have glr := hrF.lt
    simp only at q0 q1 q2 q3 q4 q5 q6 q7 q8
    go_wp2_with fail
    have hB9 := put9_box hrF ⟨ctl, 170, 1, Q.mM (lba - (x.st + x.len)), Q.mS (lba - (x.st + x.len)), Q.mF (lba - (x.st + x.len)), Q.mM (lba + 150), Q.mS (lba + 150), Q.mF (lba + 150)⟩
    have hb9 := put9_below hleF (Nat.le_succ _) ⟨ctl, 170, 1, Q.mM (lba - (x.st + x.len)), Q.mS (lba - (x.st + x.len)), Q.mF (lba - (x.st + x.len)), Q.mM (lba + 150), Q.mS (lba + 150), Q.mF (lba + 150)⟩
    change bodyPost _ _ _ _ _ (put9 W10 (w.heap.size + 1) ⟨ctl, 170, 1, Q.mM (lba - (x.st + x.len)), Q.mS (lba - (x.st + x.len)), Q.mF (lba - (x.st + x.len)), Q.mM (lba + 150), Q.mS (lba + 150), Q.mF (lba + 150)⟩)
    generalize put9 W10 (w.heap.size + 1) ⟨ctl, 170, 1, Q.mM (lba - (x.st + x.len)), Q.mS (lba - (x.st + x.len)), Q.mF (lba - (x.st + x.len)), Q.mM (lba + 150), Q.mS (lba + 150), Q.mF (lba + 150)⟩ = W9 at hB9 hb9 ⊢
    clear g0 g1 g2 g3 g4 g5 g6 g7 g8 gf glr q0 q1 q2 q3 q4 q5 q6 q7 q8
    obtain ⟨g0, g1, g2, g3, g4, g5, g6, g7, g8⟩ := fcs_cells hB9
    refine bodyPost_ret (v := .tuple #[fagg ⟨ctl, 170, 1, Q.mM (lba - (x.st + x.len)), Q.mS (lba - (x.st + x.len)), Q.mF (lba - (x.st + x.len)), Q.mM (lba + 150), Q.mS (lba + 150), Q.mF (lba + 150)⟩, .int .i64 0]) (by simp [results, Tryz.results11, go_sem, g0, g1, g2, g3, g4, g5, g6, g7, g8]) rfl ⟨?_, hb9⟩
    show _ = Ending.returned (.tuple #[fagg (Q.progF l ctl lba none), .int .i64 0])
    unfold Q.progF
    rw [HEnd.out]
set_option maxRecDepth 100000 in
set_option maxHeartbeats 2000000 in
theorem program_5 (v : Value) (l : List T.Trk) (ctl lba : Int) (w : World) (hr : RdK w v l) (hn : l.length ≤ 120) (hwf : WfL l) (hS : Q.sessB l = true) (hc : 0 ≤ ctl ∧ ctl ≤ 15) (hl : 0 ≤ lba ∧ lba ≤ 449849) (i : Nat) (hi : Q.firstP l lba l.length = some i) (hil : i < l.length) (hen : lba < Q.en l i) (hgap : lba < (T.tr l i).st) :
    Calls Tryz.prog 11 #[v, .int .i64 ctl, .int .i64 lba] w (FP (Q.progF l ctl lba (some i), 0) w) := by
  have hP := PB.new w lba
  have hRK := hP.rd hr
  have HSe := Lib.hid (session_any v l (pbox w lba) hRK hn hwf)
  have HS := Lib.hid hS; clear hwf
  have HSS := Lib.hid (Q.sessB_true.1 hS); clear hS
  have HR := Lib.hid hr
  obtain ⟨a, c, rfl, hac⟩ := RdS.form hr
  clear hr hRK
  have d1 := btw_t hc.1 hc.2; clear hc
  have d2 := btw_t hl.1 hl.2
  obtain ⟨hl1, hl2⟩ := hl
  go_enter Tryz.func11, Tryz.ntmps11
  go_wp2_with fail
  refine HSe.out.mono ?_
  rw [HS.out]
  rintro e w1 ⟨rfl, hb⟩
  have hP1 := hP.call hb
  obtain ⟨g0, g1, g2, g3, g4, g5, g6, g7, g8⟩ := fcs_cells hP1.r
  have gb := hP1.b.cell (i := 0) rfl
  have gf := hP1.r.free
  have gl := hP1.r.lt
  have hle := hP1.le
  clear hb hP
  go_upto_region 5 with (first | (go_at_call 39; refine (between_any _ _ _ _).mono ?_; rintro e w' ⟨rfl, rfl⟩) | fail)
  go_wp2_with fail
  refine (msf_any lba _ (by omega) (by omega)).mono ?_
  rintro e w2 ⟨rfl, hb2⟩
  have hP2 := hP1.call hb2
  clear hP1 g0 g1 g2 g3 g4 g5 g6 g7 g8 gb gf gl hle hb2
  have hQ : Bx (w2.alloc (fobj ⟨ctl, 170, 1, 0, 0, 0, Q.mM (lba + 150), Q.mS (lba + 150), Q.mF (lba + 150)⟩)) w2.heap.size 38 (fcs ⟨ctl, 170, 1, 0, 0, 0, Q.mM (lba + 150), Q.mS (lba + 150), Q.mF (lba + 150)⟩) := Bx.new _ _ _
  have hbq := (Below.refl w2.heap.size w2).alloc (Nat.le_refl _) (fobj ⟨ctl, 170, 1, 0, 0, 0, Q.mM (lba + 150), Q.mS (lba + 150), Q.mF (lba + 150)⟩)
  have hP3 := hP2.call hbq
  obtain ⟨gq, hgq⟩ : ∃ gq, gq = w2.heap.size := ⟨_, rfl⟩
  have hqg : w.heap.size + 1 < gq := by rw [hgq]; exact hP2.r.lt
  rw [← hgq] at hQ
  have gb := hP2.b.cell (i := 0) rfl
  have gl := hP2.r.lt
  go_wp2_with fail
  simp only [← hgq]
  clear gb gl
  generalize w2.alloc (fobj ⟨ctl, 170, 1, 0, 0, 0, Q.mM (lba + 150), Q.mS (lba + 150), Q.mF (lba + 150)⟩) = w3 at hQ hbq hP3 ⊢
  clear hbq hP2 hgq
  refine (first_any _ l w3 (hP3.rd HR.out) hn (fun i hi => by have := HSS.out.at hi; unfold Fine; omega) w.heap.size lba (hP3.b.cell (i := 0) rfl)).mono ?_
  have hix : idxV l lba = (i : Int) := by unfold idxV; rw [hi]
  rw [hix]
  clear hix
  have Hi := Lib.hid hi; clear hi
  rintro e w4 ⟨rfl, hb4⟩
  have hP4 := hP3.call hb4
  have hQ4 := hQ.call hb4
  clear hP3 hQ hb4
  obtain ⟨b, off, hcell0⟩ := RdK.cells HR.out
  have hcell : ∀ i, i < l.length → a = some ⟨b, off, none⟩ ∧ w4.rangeAt b (off + i * 7) (tcs (T.tr l i)) := fun i hi => ⟨(hcell0 i hi).1, fun j u hu => (hP4.le.cell (p := ⟨b, off + i * 7 + j, none⟩) (World.block_lt_of_cell? w _ ((hcell0 i hi).2 j u hu))).trans ((hcell0 i hi).2 j u hu)⟩
  obtain ⟨ha, hrg⟩ := hcell i hil
  obtain ⟨hat1, hat2, hat3, hat4, hat5, hat6⟩ := HSS.out.at hil
  have HEnd : Hid (Q.en l i = (T.tr l i).st + (T.tr l i).len) := Lib.hid rfl
  rw [HEnd.out] at hen
  have hcw := (rd7 (hcell0 i hil).2).1
  clear hcell hcell0
  have HPF : Hid (Q.progF l ctl lba (some i) = ⟨ctl, (T.tr l i).num, 0, Q.mM ((T.tr l i).st - lba), Q.mS ((T.tr l i).st - lba), Q.mF ((T.tr l i).st - lba), Q.mM (lba + 150), Q.mS (lba + 150), Q.mF (lba + 150)⟩) := Lib.hid (by show (if lba < (T.tr l i).st then _ else _) = _; rw [if_pos hgap])
  generalize T.tr l i = x at hrg hcw hat1 hat2 hat3 hat4 hat5 hat6 HEnd hen hgap HPF
  obtain ⟨hc0, hc1, hc2, hc3, hc4, hc5, hc6⟩ := rd7 hrg
  have hi120 : i ≤ 120 := by omega
  have hi0 : (0 : Int) ≤ i := by omega
  have hsw : IntKind.i64.wrap (x.st - lba) = x.st - lba := IntWalk.i64_in _ (by omega)
  have hix := fun w' => run_idxS Tryz.underlying22 Tryz.sizeTrack (cap := c) ha hil (i : Int) rfl w'
  have Ha := Lib.hid ha; clear ha hrg
  have hbl : b < w4.heap.size := World.block_lt_of_cell? w4 _ hc0
  have gb := hP4.b.cell (i := 0) rfl
  go_upto_region 10 with (fail)
  go_quiet (fail)
  have hP5 := hP4.call (Go.Proofs.YtflmjdjkfognjaaGreat.Below.drewN (Below.refl _ w4) nq)
  have hQ5 := hQ4.drewN nq
  replace hc0 : (w4.drewN nq).cell? _ = _ := hc0
  replace hc1 : (w4.drewN nq).cell? _ = _ := hc1
  replace hc2 : (w4.drewN nq).cell? _ = _ := hc2
  replace hc3 : (w4.drewN nq).cell? _ = _ := hc3
  replace hc4 : (w4.drewN nq).cell? _ = _ := hc4
  replace hc5 : (w4.drewN nq).cell? _ = _ := hc5
  replace hc6 : (w4.drewN nq).cell? _ = _ := hc6
  replace gb : (w4.drewN nq).cell? _ = _ := gb
  clear hP4 hQ4 hbl
  generalize w4.drewN nq = w4' at hP5 hQ5 hc0 hc1 hc2 hc3 hc4 hc5 hc6 gb ⊢
  clear w4
  obtain ⟨w4, rfl⟩ : ∃ w4, w4 = w4' := ⟨_, rfl⟩
  have hP4 := hP5
  have hQ4 := hQ5
  clear hP5 hQ5
  have gq1 := hQ4.lt
  go_wp2_with fail
  have hbq : b < gq := by have := World.block_lt_of_cell? w _ hcw; simp only at this; omega
  have HS : Hid (∀ W', Below gq w4 W' → Below gq w4 W' ∧ W'.cell? ⟨w.heap.size, 0, none⟩ = some (.int .i64 lba) ∧ W'.cell? ⟨b, off + i * 7, none⟩ = some (.int .i64 x.num) ∧ W'.cell? ⟨b, off + i * 7 + 1, none⟩ = some (.int .i64 x.ses) ∧ W'.cell? ⟨b, off + i * 7 + 2, none⟩ = some (.int .i64 x.st) ∧ W'.cell? ⟨b, off + i * 7 + 3, none⟩ = some (.int .i64 x.len) ∧ W'.cell? ⟨b, off + i * 7 + 4, none⟩ = some (.int .i64 x.nx) ∧ W'.cell? ⟨b, off + i * 7 + 5, none⟩ = some (.int .i64 x.sta) ∧ W'.cell? ⟨b, off + i * 7 + 6, none⟩ = some (.int .i64 x.pk)) := Lib.hid fun W' hW => by
    have k : ∀ i, W'.cell? ⟨b, i, none⟩ = w4.cell? ⟨b, i, none⟩ := fun i => hW.cell (p := ⟨b, i, none⟩) hbq
    exact ⟨hW, (hW.cell (p := ⟨w.heap.size, 0, none⟩) (by simp only; omega)).trans gb, (k _).trans hc0, (k _).trans hc1, (k _).trans hc2, (k _).trans hc3, (k _).trans hc4, (k _).trans hc5, (k _).trans hc6⟩
  clear hc0 hc1 hc2 hc3 hc4 hc5 hc6 gb hcw
  go_region_held3 (fun W' => Below gq w4 W' ∧ W'.cell? ⟨w.heap.size, 0, none⟩ = some (.int .i64 lba) ∧ W'.cell? ⟨b, off + i * 7, none⟩ = some (.int .i64 x.num) ∧ W'.cell? ⟨b, off + i * 7 + 1, none⟩ = some (.int .i64 x.ses) ∧ W'.cell? ⟨b, off + i * 7 + 2, none⟩ = some (.int .i64 x.st) ∧ W'.cell? ⟨b, off + i * 7 + 3, none⟩ = some (.int .i64 x.len) ∧ W'.cell? ⟨b, off + i * 7 + 4, none⟩ = some (.int .i64 x.nx) ∧ W'.cell? ⟨b, off + i * 7 + 5, none⟩ = some (.int .i64 x.sta) ∧ W'.cell? ⟨b, off + i * 7 + 6, none⟩ = some (.int .i64 x.pk))
    (first | exact HS.out _ ((Below.refl _ _).drew) | exact HS.out _ ‹Below gq w4 _› | exact HS.out _ ((And.left ‹Below gq w4 _ ∧ _›).setCell (Nat.le_refl _) _) | exact HS.out _ ((((And.left ‹Below gq w4 _ ∧ _›).setCell (Nat.le_refl _) _).setCell (Nat.le_refl _) _).setCell (Nat.le_refl _) _))
    (first
      | (go_at_call 45; refine (relative_any _ _ (by omega) (by omega)).mono ?_; rintro e w6 ⟨rfl, hb6⟩; have hb9 := (And.left ‹Below gq w4 _ ∧ _›).trans (hb6.mono (Nat.le_trans (Nat.le_of_lt gq1) (And.left ‹Below gq w4 _ ∧ _›).size)); have hQ6 := Bx.call (W := _) (g := gq) (by first | exact hQ4 | exact Bx.alloc hQ4 _) hb6; have q1 := hQ6.cell (i := 1) rfl; have q2 := hQ6.cell (i := 2) rfl; have q3 := hQ6.cell (i := 3) rfl; have q4 := hQ6.cell (i := 4) rfl; have q5 := hQ6.cell (i := 5) rfl; have qf := hQ6.free))
  all_goals
    have hbF := And.left ‹Below gq w4 _ ∧ _›
    have hQF : Bx ((((((w6.setCell ⟨gq, 1, none⟩ (.int .i64 x.num)).setCell ⟨gq, 2, none⟩ (.int .i64 0)).setCell ⟨gq, 3, none⟩ (.int .i64 (Q.mM (x.st - lba)))).setCell ⟨gq, 4, none⟩ (.int .i64 (Q.mS (x.st - lba)))).setCell ⟨gq, 5, none⟩ (.int .i64 (Q.mF (x.st - lba))))) gq 38 (fcs ⟨ctl, x.num, 0, Q.mM (x.st - lba), Q.mS (x.st - lba), Q.mF (x.st - lba), Q.mM (lba + 150), Q.mS (lba + 150), Q.mF (lba + 150)⟩) := (((((hQ6.set 1 (.int .i64 x.num)).set 2 (.int .i64 0)).set 3 (.int .i64 (Q.mM (x.st - lba)))).set 4 (.int .i64 (Q.mS (x.st - lba)))).set 5 (.int .i64 (Q.mF (x.st - lba))))
    have hrF := hP4.r.keepB hbF hqg
    have hleF := hP4.le.trans (hbF.mono (by omega))
    clear hQ6 q1 q2 q3 q4 q5 qf
    generalize (((((w6.setCell ⟨gq, 1, none⟩ (.int .i64 x.num)).setCell ⟨gq, 2, none⟩ (.int .i64 0)).setCell ⟨gq, 3, none⟩ (.int .i64 (Q.mM (x.st - lba)))).setCell ⟨gq, 4, none⟩ (.int .i64 (Q.mS (x.st - lba)))).setCell ⟨gq, 5, none⟩ (.int .i64 (Q.mF (x.st - lba)))) = W10 at hbF hQF hrF hleF ⊢
    obtain ⟨q0, q1, q2, q3, q4, q5, q6, q7, q8⟩ := fcs_cells hQF
    obtain ⟨g0, g1, g2, g3, g4, g5, g6, g7, g8⟩ := fcs_cells hrF
    have gf := hrF.free
    have glr := hrF.lt
    simp only at q0 q1 q2 q3 q4 q5 q6 q7 q8
    go_wp2_with fail
    have hB9 := put9_box hrF ⟨ctl, x.num, 0, Q.mM (x.st - lba), Q.mS (x.st - lba), Q.mF (x.st - lba), Q.mM (lba + 150), Q.mS (lba + 150), Q.mF (lba + 150)⟩
    have hb9 := put9_below hleF (Nat.le_succ _) ⟨ctl, x.num, 0, Q.mM (x.st - lba), Q.mS (x.st - lba), Q.mF (x.st - lba), Q.mM (lba + 150), Q.mS (lba + 150), Q.mF (lba + 150)⟩
    change bodyPost _ _ _ _ _ (put9 W10 (w.heap.size + 1) ⟨ctl, x.num, 0, Q.mM (x.st - lba), Q.mS (x.st - lba), Q.mF (x.st - lba), Q.mM (lba + 150), Q.mS (lba + 150), Q.mF (lba + 150)⟩)
    generalize put9 W10 (w.heap.size + 1) ⟨ctl, x.num, 0, Q.mM (x.st - lba), Q.mS (x.st - lba), Q.mF (x.st - lba), Q.mM (lba + 150), Q.mS (lba + 150), Q.mF (lba + 150)⟩ = W9 at hB9 hb9 ⊢
    clear g0 g1 g2 g3 g4 g5 g6 g7 g8 gf glr q0 q1 q2 q3 q4 q5 q6 q7 q8
    obtain ⟨g0, g1, g2, g3, g4, g5, g6, g7, g8⟩ := fcs_cells hB9
    refine bodyPost_ret (v := .tuple #[fagg ⟨ctl, x.num, 0, Q.mM (x.st - lba), Q.mS (x.st - lba), Q.mF (x.st - lba), Q.mM (lba + 150), Q.mS (lba + 150), Q.mF (lba + 150)⟩, .int .i64 0]) (by simp [results, Tryz.results11, go_sem, g0, g1, g2, g3, g4, g5, g6, g7, g8]) rfl ⟨?_, hb9⟩
    show _ = Ending.returned (.tuple #[fagg (Q.progF l ctl lba (some i)), .int .i64 0])
    rw [HPF.out]
set_option maxRecDepth 100000 in
set_option maxHeartbeats 2000000 in
theorem program_6 (v : Value) (l : List T.Trk) (ctl lba : Int) (w : World) (hr : RdK w v l) (hn : l.length ≤ 120) (hwf : WfL l) (hS : Q.sessB l = true) (hc : 0 ≤ ctl ∧ ctl ≤ 15) (hl : 0 ≤ lba ∧ lba ≤ 449849) (i : Nat) (hi : Q.firstP l lba l.length = some i) (hil : i < l.length) (hen : lba < Q.en l i) (hgap : (T.tr l i).st ≤ lba) :
    Calls Tryz.prog 11 #[v, .int .i64 ctl, .int .i64 lba] w (FP (Q.progF l ctl lba (some i), 0) w) := by
  have hP := PB.new w lba
  have hRK := hP.rd hr
  have HSe := Lib.hid (session_any v l (pbox w lba) hRK hn hwf)
  have HS := Lib.hid hS; clear hwf
  have HSS := Lib.hid (Q.sessB_true.1 hS); clear hS
  have HR := Lib.hid hr
  obtain ⟨a, c, rfl, hac⟩ := RdS.form hr
  clear hr hRK
  have d1 := btw_t hc.1 hc.2; clear hc
  have d2 := btw_t hl.1 hl.2
  obtain ⟨hl1, hl2⟩ := hl
  go_enter Tryz.func11, Tryz.ntmps11
  go_wp2_with fail
  refine HSe.out.mono ?_
  rw [HS.out]
  rintro e w1 ⟨rfl, hb⟩
  have hP1 := hP.call hb
  obtain ⟨g0, g1, g2, g3, g4, g5, g6, g7, g8⟩ := fcs_cells hP1.r
  have gb := hP1.b.cell (i := 0) rfl
  have gf := hP1.r.free
  have gl := hP1.r.lt
  have hle := hP1.le
  clear hb hP
  go_upto_region 5 with (first | (go_at_call 39; refine (between_any _ _ _ _).mono ?_; rintro e w' ⟨rfl, rfl⟩) | fail)
  go_wp2_with fail
  refine (msf_any lba _ (by omega) (by omega)).mono ?_
  rintro e w2 ⟨rfl, hb2⟩
  have hP2 := hP1.call hb2
  clear hP1 g0 g1 g2 g3 g4 g5 g6 g7 g8 gb gf gl hle hb2
  have hQ : Bx (w2.alloc (fobj ⟨ctl, 170, 1, 0, 0, 0, Q.mM (lba + 150), Q.mS (lba + 150), Q.mF (lba + 150)⟩)) w2.heap.size 38 (fcs ⟨ctl, 170, 1, 0, 0, 0, Q.mM (lba + 150), Q.mS (lba + 150), Q.mF (lba + 150)⟩) := Bx.new _ _ _
  have hbq := (Below.refl w2.heap.size w2).alloc (Nat.le_refl _) (fobj ⟨ctl, 170, 1, 0, 0, 0, Q.mM (lba + 150), Q.mS (lba + 150), Q.mF (lba + 150)⟩)
  have hP3 := hP2.call hbq
  obtain ⟨gq, hgq⟩ : ∃ gq, gq = w2.heap.size := ⟨_, rfl⟩
  have hqg : w.heap.size + 1 < gq := by rw [hgq]; exact hP2.r.lt
  rw [← hgq] at hQ
  have gb := hP2.b.cell (i := 0) rfl
  have gl := hP2.r.lt
  go_wp2_with fail
  simp only [← hgq]
  clear gb gl
  generalize w2.alloc (fobj ⟨ctl, 170, 1, 0, 0, 0, Q.mM (lba + 150), Q.mS (lba + 150), Q.mF (lba + 150)⟩) = w3 at hQ hbq hP3 ⊢
  clear hbq hP2 hgq
  refine (first_any _ l w3 (hP3.rd HR.out) hn (fun i hi => by have := HSS.out.at hi; unfold Fine; omega) w.heap.size lba (hP3.b.cell (i := 0) rfl)).mono ?_
  have hix : idxV l lba = (i : Int) := by unfold idxV; rw [hi]
  rw [hix]
  clear hix
  have Hi := Lib.hid hi; clear hi
  rintro e w4 ⟨rfl, hb4⟩
  have hP4 := hP3.call hb4
  have hQ4 := hQ.call hb4
  clear hP3 hQ hb4
  obtain ⟨b, off, hcell0⟩ := RdK.cells HR.out
  have hcell : ∀ i, i < l.length → a = some ⟨b, off, none⟩ ∧ w4.rangeAt b (off + i * 7) (tcs (T.tr l i)) := fun i hi => ⟨(hcell0 i hi).1, fun j u hu => (hP4.le.cell (p := ⟨b, off + i * 7 + j, none⟩) (World.block_lt_of_cell? w _ ((hcell0 i hi).2 j u hu))).trans ((hcell0 i hi).2 j u hu)⟩
  obtain ⟨ha, hrg⟩ := hcell i hil
  obtain ⟨hat1, hat2, hat3, hat4, hat5, hat6⟩ := HSS.out.at hil
  have HEnd : Hid (Q.en l i = (T.tr l i).st + (T.tr l i).len) := Lib.hid rfl
  rw [HEnd.out] at hen
  have hcw := (rd7 (hcell0 i hil).2).1
  clear hcell hcell0
  have HPF : Hid (Q.progF l ctl lba (some i) = ⟨ctl, (T.tr l i).num, 1, Q.mM (lba - (T.tr l i).st), Q.mS (lba - (T.tr l i).st), Q.mF (lba - (T.tr l i).st), Q.mM (lba + 150), Q.mS (lba + 150), Q.mF (lba + 150)⟩) := Lib.hid (by show (if lba < (T.tr l i).st then _ else _) = _; rw [if_neg (by omega)])
  generalize T.tr l i = x at hrg hcw hat1 hat2 hat3 hat4 hat5 hat6 HEnd hen hgap HPF
  obtain ⟨hc0, hc1, hc2, hc3, hc4, hc5, hc6⟩ := rd7 hrg
  have hi120 : i ≤ 120 := by omega
  have hi0 : (0 : Int) ≤ i := by omega
  have hsw : IntKind.i64.wrap (lba - x.st) = lba - x.st := IntWalk.i64_in _ (by omega)
  have hix := fun w' => run_idxS Tryz.underlying22 Tryz.sizeTrack (cap := c) ha hil (i : Int) rfl w'
  have Ha := Lib.hid ha; clear ha hrg
  have hbl : b < w4.heap.size := World.block_lt_of_cell? w4 _ hc0
  have gb := hP4.b.cell (i := 0) rfl
  go_upto_region 10 with (fail)
  go_quiet (fail)
  have hP5 := hP4.call (Go.Proofs.YtflmjdjkfognjaaGreat.Below.drewN (Below.refl _ w4) nq)
  have hQ5 := hQ4.drewN nq
  replace hc0 : (w4.drewN nq).cell? _ = _ := hc0
  replace hc1 : (w4.drewN nq).cell? _ = _ := hc1
  replace hc2 : (w4.drewN nq).cell? _ = _ := hc2
  replace hc3 : (w4.drewN nq).cell? _ = _ := hc3
  replace hc4 : (w4.drewN nq).cell? _ = _ := hc4
  replace hc5 : (w4.drewN nq).cell? _ = _ := hc5
  replace hc6 : (w4.drewN nq).cell? _ = _ := hc6
  replace gb : (w4.drewN nq).cell? _ = _ := gb
  clear hP4 hQ4 hbl
  generalize w4.drewN nq = w4' at hP5 hQ5 hc0 hc1 hc2 hc3 hc4 hc5 hc6 gb ⊢
  clear w4
  obtain ⟨w4, rfl⟩ : ∃ w4, w4 = w4' := ⟨_, rfl⟩
  have hP4 := hP5
  have hQ4 := hQ5
  clear hP5 hQ5
  have gq1 := hQ4.lt
  go_wp2_with fail
  have hbq : b < gq := by have := World.block_lt_of_cell? w _ hcw; simp only at this; omega
  have HS : Hid (∀ W', Below gq w4 W' → Below gq w4 W' ∧ W'.cell? ⟨w.heap.size, 0, none⟩ = some (.int .i64 lba) ∧ W'.cell? ⟨b, off + i * 7, none⟩ = some (.int .i64 x.num) ∧ W'.cell? ⟨b, off + i * 7 + 1, none⟩ = some (.int .i64 x.ses) ∧ W'.cell? ⟨b, off + i * 7 + 2, none⟩ = some (.int .i64 x.st) ∧ W'.cell? ⟨b, off + i * 7 + 3, none⟩ = some (.int .i64 x.len) ∧ W'.cell? ⟨b, off + i * 7 + 4, none⟩ = some (.int .i64 x.nx) ∧ W'.cell? ⟨b, off + i * 7 + 5, none⟩ = some (.int .i64 x.sta) ∧ W'.cell? ⟨b, off + i * 7 + 6, none⟩ = some (.int .i64 x.pk)) := Lib.hid fun W' hW => by
    have k : ∀ i, W'.cell? ⟨b, i, none⟩ = w4.cell? ⟨b, i, none⟩ := fun i => hW.cell (p := ⟨b, i, none⟩) hbq
    exact ⟨hW, (hW.cell (p := ⟨w.heap.size, 0, none⟩) (by simp only; omega)).trans gb, (k _).trans hc0, (k _).trans hc1, (k _).trans hc2, (k _).trans hc3, (k _).trans hc4, (k _).trans hc5, (k _).trans hc6⟩
  clear hc0 hc1 hc2 hc3 hc4 hc5 hc6 gb hcw
  go_region_held3 (fun W' => Below gq w4 W' ∧ W'.cell? ⟨w.heap.size, 0, none⟩ = some (.int .i64 lba) ∧ W'.cell? ⟨b, off + i * 7, none⟩ = some (.int .i64 x.num) ∧ W'.cell? ⟨b, off + i * 7 + 1, none⟩ = some (.int .i64 x.ses) ∧ W'.cell? ⟨b, off + i * 7 + 2, none⟩ = some (.int .i64 x.st) ∧ W'.cell? ⟨b, off + i * 7 + 3, none⟩ = some (.int .i64 x.len) ∧ W'.cell? ⟨b, off + i * 7 + 4, none⟩ = some (.int .i64 x.nx) ∧ W'.cell? ⟨b, off + i * 7 + 5, none⟩ = some (.int .i64 x.sta) ∧ W'.cell? ⟨b, off + i * 7 + 6, none⟩ = some (.int .i64 x.pk))
    (first | exact HS.out _ ((Below.refl _ _).drew) | exact HS.out _ ‹Below gq w4 _› | exact HS.out _ ((And.left ‹Below gq w4 _ ∧ _›).setCell (Nat.le_refl _) _) | exact HS.out _ ((((And.left ‹Below gq w4 _ ∧ _›).setCell (Nat.le_refl _) _).setCell (Nat.le_refl _) _).setCell (Nat.le_refl _) _))
    (first
      | (go_at_call 45; refine (relative_any _ _ (by omega) (by omega)).mono ?_; rintro e w6 ⟨rfl, hb6⟩; have hb9 := (And.left ‹Below gq w4 _ ∧ _›).trans (hb6.mono (Nat.le_trans (Nat.le_of_lt gq1) (And.left ‹Below gq w4 _ ∧ _›).size)); have hQ6 := Bx.call (W := _) (g := gq) (by first | exact hQ4 | exact Bx.alloc hQ4 _) hb6; have q1 := hQ6.cell (i := 1) rfl; have q2 := hQ6.cell (i := 2) rfl; have q3 := hQ6.cell (i := 3) rfl; have q4 := hQ6.cell (i := 4) rfl; have q5 := hQ6.cell (i := 5) rfl; have qf := hQ6.free))
  all_goals
    have hbF := And.left ‹Below gq w4 _ ∧ _›
    have hQF : Bx (((((w6.setCell ⟨gq, 1, none⟩ (.int .i64 x.num)).setCell ⟨gq, 3, none⟩ (.int .i64 (Q.mM (lba - x.st)))).setCell ⟨gq, 4, none⟩ (.int .i64 (Q.mS (lba - x.st)))).setCell ⟨gq, 5, none⟩ (.int .i64 (Q.mF (lba - x.st))))) gq 38 (fcs ⟨ctl, x.num, 1, Q.mM (lba - x.st), Q.mS (lba - x.st), Q.mF (lba - x.st), Q.mM (lba + 150), Q.mS (lba + 150), Q.mF (lba + 150)⟩) := ((((hQ6.set 1 (.int .i64 x.num)).set 3 (.int .i64 (Q.mM (lba - x.st)))).set 4 (.int .i64 (Q.mS (lba - x.st)))).set 5 (.int .i64 (Q.mF (lba - x.st))))
    have hrF := hP4.r.keepB hbF hqg
    have hleF := hP4.le.trans (hbF.mono (by omega))
    clear hQ6 q1 q2 q3 q4 q5 qf
    generalize ((((w6.setCell ⟨gq, 1, none⟩ (.int .i64 x.num)).setCell ⟨gq, 3, none⟩ (.int .i64 (Q.mM (lba - x.st)))).setCell ⟨gq, 4, none⟩ (.int .i64 (Q.mS (lba - x.st)))).setCell ⟨gq, 5, none⟩ (.int .i64 (Q.mF (lba - x.st)))) = W10 at hbF hQF hrF hleF ⊢
    obtain ⟨q0, q1, q2, q3, q4, q5, q6, q7, q8⟩ := fcs_cells hQF
    obtain ⟨g0, g1, g2, g3, g4, g5, g6, g7, g8⟩ := fcs_cells hrF
    have gf := hrF.free
    have glr := hrF.lt
    simp only at q0 q1 q2 q3 q4 q5 q6 q7 q8
    go_wp2_with fail
    have hB9 := put9_box hrF ⟨ctl, x.num, 1, Q.mM (lba - x.st), Q.mS (lba - x.st), Q.mF (lba - x.st), Q.mM (lba + 150), Q.mS (lba + 150), Q.mF (lba + 150)⟩
    have hb9 := put9_below hleF (Nat.le_succ _) ⟨ctl, x.num, 1, Q.mM (lba - x.st), Q.mS (lba - x.st), Q.mF (lba - x.st), Q.mM (lba + 150), Q.mS (lba + 150), Q.mF (lba + 150)⟩
    change bodyPost _ _ _ _ _ (put9 W10 (w.heap.size + 1) ⟨ctl, x.num, 1, Q.mM (lba - x.st), Q.mS (lba - x.st), Q.mF (lba - x.st), Q.mM (lba + 150), Q.mS (lba + 150), Q.mF (lba + 150)⟩)
    generalize put9 W10 (w.heap.size + 1) ⟨ctl, x.num, 1, Q.mM (lba - x.st), Q.mS (lba - x.st), Q.mF (lba - x.st), Q.mM (lba + 150), Q.mS (lba + 150), Q.mF (lba + 150)⟩ = W9 at hB9 hb9 ⊢
    clear g0 g1 g2 g3 g4 g5 g6 g7 g8 gf glr q0 q1 q2 q3 q4 q5 q6 q7 q8
    obtain ⟨g0, g1, g2, g3, g4, g5, g6, g7, g8⟩ := fcs_cells hB9
    refine bodyPost_ret (v := .tuple #[fagg ⟨ctl, x.num, 1, Q.mM (lba - x.st), Q.mS (lba - x.st), Q.mF (lba - x.st), Q.mM (lba + 150), Q.mS (lba + 150), Q.mF (lba + 150)⟩, .int .i64 0]) (by simp [results, Tryz.results11, go_sem, g0, g1, g2, g3, g4, g5, g6, g7, g8]) rfl ⟨?_, hb9⟩
    show _ = Ending.returned (.tuple #[fagg (Q.progF l ctl lba (some i)), .int .i64 0])
    rw [HPF.out]
theorem firstP_spec {l : List T.Trk} {lba : Int} {n i : Nat} (h : Q.firstP l lba n = some i) : i < n ∧ lba < Q.en l i ∧ ∀ j, j < i → ¬ lba < Q.en l j := by
  unfold Q.firstP at h
  rw [List.find?_range_eq_some] at h
  obtain ⟨h1, h2, h3⟩ := h
  exact ⟨by simpa using h2, by simpa using h1, fun j hj => by simpa using h3 j hj⟩
theorem firstP_spec' {l : List T.Trk} {lba : Int} {n : Nat} (h : Q.firstP l lba n = none) : ∀ j, j < n → ¬ lba < Q.en l j := by
  unfold Q.firstP at h
  rw [List.find?_range_eq_none] at h
  exact fun j hj => by simpa using h j hj
theorem program_any (v : Value) (l : List T.Trk) (ctl lba : Int) (w : World) (hr : RdK w v l) (hn : l.length ≤ 120) (hwf : WfL l) :
    Calls Tryz.prog 11 #[v, .int .i64 ctl, .int .i64 lba] w (FP (Q.progR l ctl lba) w) := by
  unfold Q.progR
  cases hS : Q.sessB l with
  | false => rw [if_pos (.inl rfl)]; exact program_1 v l ctl lba w hr hn hwf hS
  | true =>
    by_cases hc : 0 ≤ ctl ∧ ctl ≤ 15
    · rw [if_neg (fun h => h.elim (fun h => by cases h) (fun h => by omega))]
      by_cases hl : 0 ≤ lba ∧ lba ≤ 449849
      · rw [if_neg (by omega)]
        cases hi : Q.firstP l lba l.length with
        | none =>
          have h := firstP_spec' hi (l.length - 1) (by have := (Q.sessB_true.1 hS).1; omega)
          exact program_4 v l ctl lba w hr hn hwf hS hc hl hi (by unfold Q.endL; omega)
        | some i =>
          obtain ⟨h1, h2, _⟩ := firstP_spec hi
          by_cases hg : lba < (T.tr l i).st
          · exact program_5 v l ctl lba w hr hn hwf hS hc hl i hi h1 h2 hg
          · exact program_6 v l ctl lba w hr hn hwf hS hc hl i hi h1 h2 (by omega)
      · rw [if_pos (by omega)]; exact program_3 v l ctl lba w hr hn hwf hS hc hl
    · rw [if_pos (.inr (by omega))]; exact program_2 v l ctl lba w hr hn hwf hS hc
end Go.Proofs.YtflmjdjkfognjaaGreat.W10
