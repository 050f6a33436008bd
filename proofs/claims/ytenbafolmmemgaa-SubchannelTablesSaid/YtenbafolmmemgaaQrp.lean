/- Chapter 10: Program of the reference walked. -/
import Derived.Test.YtenbafolmmemgaaQr
import Derived.Test.YtenbafolmmemgaaQp
namespace Go.Proofs.Ytenbafolmmemgaa.W10
open Go.RowKit
set_option linter.unusedVariables false

/-- every block but N is as it was -/
def KeptB (N : Nat) (w W : World) : Prop := w.heap.size ≤ W.heap.size ∧ ∀ k, k ≠ N → k < w.heap.size → W.heap[k]? = w.heap[k]?
section
variable {N : Nat} {w W W' : World}
theorem KeptB.refl (N : Nat) (w : World) : KeptB N w w := ⟨Nat.le_refl _, fun _ _ _ => rfl⟩
theorem KeptB.drew (h : KeptB N w W) : KeptB N w W.drew := h
theorem KeptB.call (h : KeptB N w W) (hb : Below W.heap.size W W') : KeptB N w W' := ⟨Nat.le_trans h.1 hb.size, fun k h1 h2 => (hb.block k (Nat.lt_of_lt_of_le h2 h.1)).trans (h.2 k h1 h2)⟩
theorem KeptB.set (h : KeptB N w W) (i : Nat) (u : Value) : KeptB N w (W.setCell ⟨N, i, none⟩ u) := ⟨by simpa using h.1, fun k h1 h2 => (Below.heap_setCell W _ u k h1).trans (h.2 k h1 h2)⟩
theorem KeptB.put9 (h : KeptB N w W) (f : Q.Fr) : KeptB N w (put9 W N f) := (((((((((h.set 0 _).set 1 _).set 2 _).set 3 _).set 4 _).set 5 _).set 6 _).set 7 _).set 8 _)
theorem bx_kept {g : Nat} {t : TypeId} {cs : List Value} (h : Bx w g t cs) (hk : KeptB N w W) (hg : g ≠ N) : Bx W g t cs := (hk.2 g hg h.lt).trans h
end
/-- the box of the result -/
structure PR (w0 : World) (W : World) : Prop where
  r : Bx W w0.heap.size 27 (fcs Q.z)
  le : Below w0.heap.size w0 W
theorem PR.new (w : World) : PR w (w.alloc (fobj Q.z)) := ⟨heap_alloc_new _ _, (Below.refl _ _).alloc (Nat.le_refl _) _⟩
theorem PR.call {w0 W W' : World} (h : PR w0 W) (hb : Below W.heap.size W W') : PR w0 W' := ⟨h.r.call hb, h.le.trans (hb.mono h.le.size)⟩

set_option maxRecDepth 100000 in
set_option maxHeartbeats 4000000 in
theorem rprogram_1 (v : Value) (l : List T.Trk) (ctl lba : Int) (w : World) (hr : RdK w v l) (hn : l.length ≤ 120) (hwf : WfL l) (hS : Q.sessB l = false)  :
    Calls Try.prog 12 #[v, .int .i64 ctl, .int .i64 lba] w (FP (Q.z, 1) w) := by
  have hP := PR.new w
  have HSe := Lib.hid (rsession_any v l (w.alloc (fobj Q.z)) (hr.keep hP.le) hn hwf)
  have HS := Lib.hid hS; clear hwf
  have HR := Lib.hid hr
  obtain ⟨a, c, rfl, hac⟩ := RdS.form hr
  clear hr
  clear hS
  go_enter Try.func12, Try.ntmps12
  go_wp2_with fail
  refine HSe.out.mono ?_
  rw [HS.out]
  rintro e w1 ⟨rfl, hb⟩
  have hP1 := hP.call hb
  clear hb hP
  obtain ⟨g0, g1, g2, g3, g4, g5, g6, g7, g8⟩ := fcs_cells hP1.r
  have gf := hP1.r.free
  have gl := hP1.r.lt
  have hle := hP1.le
  go_wp2_with fail
  have hB9 := put9_box hP1.r Q.z
  have hb9 := put9_below hle (Nat.le_refl _) Q.z
  change bodyPost _ _ _ _ _ (put9 w1 w.heap.size Q.z)
  generalize put9 w1 w.heap.size Q.z = W9 at hB9 hb9 ⊢
  clear g0 g1 g2 g3 g4 g5 g6 g7 g8 gf gl
  obtain ⟨g0, g1, g2, g3, g4, g5, g6, g7, g8⟩ := fcs_cells hB9
  exact bodyPost_ret (v := .tuple #[fagg Q.z, .int .i64 1]) (by simp [results, Try.results12, go_sem, g0, g1, g2, g3, g4, g5, g6, g7, g8]) rfl ⟨rfl, hb9⟩
set_option maxRecDepth 100000 in
set_option maxHeartbeats 4000000 in
theorem rprogram_2 (v : Value) (l : List T.Trk) (ctl lba : Int) (w : World) (hr : RdK w v l) (hn : l.length ≤ 120) (hwf : WfL l) (hS : Q.sessB l = true) (hc : ¬ (0 ≤ ctl ∧ ctl ≤ 15)) :
    Calls Try.prog 12 #[v, .int .i64 ctl, .int .i64 lba] w (FP (Q.z, 1) w) := by
  have hP := PR.new w
  have HSe := Lib.hid (rsession_any v l (w.alloc (fobj Q.z)) (hr.keep hP.le) hn hwf)
  have HS := Lib.hid hS; clear hwf
  have HR := Lib.hid hr
  obtain ⟨a, c, rfl, hac⟩ := RdS.form hr
  clear hr
  have HSS := Lib.hid (Q.sessB_true.1 hS); clear hS
  by_cases h0 : 0 ≤ ctl
  · have h1 : 15 < ctl := by omega
    clear hc
    go_enter Try.func12, Try.ntmps12
    go_wp2_with fail
    refine HSe.out.mono ?_
    rw [HS.out]
    rintro e w1 ⟨rfl, hb⟩
    have hP1 := hP.call hb
    clear hb hP
    obtain ⟨g0, g1, g2, g3, g4, g5, g6, g7, g8⟩ := fcs_cells hP1.r
    have gf := hP1.r.free
    have gl := hP1.r.lt
    have hle := hP1.le
    go_wp2_with fail
    have hB9 := put9_box hP1.r Q.z
    have hb9 := put9_below hle (Nat.le_refl _) Q.z
    change bodyPost _ _ _ _ _ (put9 w1 w.heap.size Q.z)
    generalize put9 w1 w.heap.size Q.z = W9 at hB9 hb9 ⊢
    clear g0 g1 g2 g3 g4 g5 g6 g7 g8 gf gl
    obtain ⟨g0, g1, g2, g3, g4, g5, g6, g7, g8⟩ := fcs_cells hB9
    exact bodyPost_ret (v := .tuple #[fagg Q.z, .int .i64 1]) (by simp [results, Try.results12, go_sem, g0, g1, g2, g3, g4, g5, g6, g7, g8]) rfl ⟨rfl, hb9⟩
  · clear hc
    go_enter Try.func12, Try.ntmps12
    go_wp2_with fail
    refine HSe.out.mono ?_
    rw [HS.out]
    rintro e w1 ⟨rfl, hb⟩
    have hP1 := hP.call hb
    clear hb hP
    obtain ⟨g0, g1, g2, g3, g4, g5, g6, g7, g8⟩ := fcs_cells hP1.r
    have gf := hP1.r.free
    have gl := hP1.r.lt
    have hle := hP1.le
    go_wp2_with fail
    have hB9 := put9_box hP1.r Q.z
    have hb9 := put9_below hle (Nat.le_refl _) Q.z
    change bodyPost _ _ _ _ _ (put9 w1 w.heap.size Q.z)
    generalize put9 w1 w.heap.size Q.z = W9 at hB9 hb9 ⊢
    clear g0 g1 g2 g3 g4 g5 g6 g7 g8 gf gl
    obtain ⟨g0, g1, g2, g3, g4, g5, g6, g7, g8⟩ := fcs_cells hB9
    exact bodyPost_ret (v := .tuple #[fagg Q.z, .int .i64 1]) (by simp [results, Try.results12, go_sem, g0, g1, g2, g3, g4, g5, g6, g7, g8]) rfl ⟨rfl, hb9⟩
set_option maxRecDepth 100000 in
set_option maxHeartbeats 4000000 in
theorem rprogram_3 (v : Value) (l : List T.Trk) (ctl lba : Int) (w : World) (hr : RdK w v l) (hn : l.length ≤ 120) (hwf : WfL l) (hS : Q.sessB l = true) (hc : 0 ≤ ctl ∧ ctl ≤ 15) (hl : ¬ (0 ≤ lba ∧ lba ≤ 449849)) :
    Calls Try.prog 12 #[v, .int .i64 ctl, .int .i64 lba] w (FP (Q.z, 2) w) := by
  have hP := PR.new w
  have HSe := Lib.hid (rsession_any v l (w.alloc (fobj Q.z)) (hr.keep hP.le) hn hwf)
  have HS := Lib.hid hS; clear hwf
  have HR := Lib.hid hr
  obtain ⟨a, c, rfl, hac⟩ := RdS.form hr
  clear hr
  have HSS := Lib.hid (Q.sessB_true.1 hS); clear hS
  obtain ⟨hc1, hc2⟩ := hc
  by_cases h0 : lba < -150 ∨ 449849 < lba
  · clear hl
    have H0 := Lib.hid h0; clear h0
    go_enter Try.func12, Try.ntmps12
    go_wp2_with fail
    refine HSe.out.mono ?_
    rw [HS.out]
    rintro e w1 ⟨rfl, hb⟩
    have hP1 := hP.call hb
    clear hb hP
    go_wp2_with fail
    refine (rtomsf_no lba _ H0.out).mono ?_
    rintro e w2 ⟨rfl, hb2⟩
    have hP2 := hP1.call hb2
    clear hP1 hb2
    obtain ⟨g0, g1, g2, g3, g4, g5, g6, g7, g8⟩ := fcs_cells hP2.r
    have gf := hP2.r.free
    have gl := hP2.r.lt
    have hle := hP2.le
    go_wp2_with fail
    have hB9 := (put9_box hP2.r Q.z).call ((Below.refl _ (put9 w2 w.heap.size Q.z)).alloc (Nat.le_refl _) (.cells #[.int .i64 (0), .int .i64 (0), .int .i64 (0)] 25))
    have hb8 := put9_below hle (Nat.le_refl _) Q.z
    have hb9 := hb8.alloc hb8.size (.cells #[.int .i64 (0), .int .i64 (0), .int .i64 (0)] 25)
    change bodyPost _ _ _ _ _ ((put9 w2 w.heap.size Q.z).alloc (.cells #[.int .i64 (0), .int .i64 (0), .int .i64 (0)] 25))
    generalize (put9 w2 w.heap.size Q.z).alloc (.cells #[.int .i64 (0), .int .i64 (0), .int .i64 (0)] 25) = W9 at hB9 hb9 ⊢
    clear g0 g1 g2 g3 g4 g5 g6 g7 g8 gf gl hb8
    obtain ⟨g0, g1, g2, g3, g4, g5, g6, g7, g8⟩ := fcs_cells hB9
    exact bodyPost_ret (v := .tuple #[fagg Q.z, .int .i64 2]) (by simp [results, Try.results12, go_sem, g0, g1, g2, g3, g4, g5, g6, g7, g8]) rfl ⟨rfl, hb9⟩
  · have h1 : -150 ≤ lba := by omega
    have h2 : lba < 0 := by omega
    clear hl h0
    go_enter Try.func12, Try.ntmps12
    go_wp2_with fail
    refine HSe.out.mono ?_
    rw [HS.out]
    rintro e w1 ⟨rfl, hb⟩
    have hP1 := hP.call hb
    clear hb hP
    go_wp2_with fail
    refine (rtomsf_ok lba _ (by omega) (by omega)).mono ?_
    rintro e w2 ⟨rfl, hb2⟩
    have hP2 := hP1.call hb2
    clear hP1 hb2
    obtain ⟨g0, g1, g2, g3, g4, g5, g6, g7, g8⟩ := fcs_cells hP2.r
    have gf := hP2.r.free
    have gl := hP2.r.lt
    have hle := hP2.le
    go_wp2_with fail
    have hB9 := (put9_box hP2.r Q.z).call ((Below.refl _ (put9 w2 w.heap.size Q.z)).alloc (Nat.le_refl _) (.cells #[.int .i64 (Q.mM (lba + 150)), .int .i64 (Q.mS (lba + 150)), .int .i64 (Q.mF (lba + 150))] 25))
    have hb8 := put9_below hle (Nat.le_refl _) Q.z
    have hb9 := hb8.alloc hb8.size (.cells #[.int .i64 (Q.mM (lba + 150)), .int .i64 (Q.mS (lba + 150)), .int .i64 (Q.mF (lba + 150))] 25)
    change bodyPost _ _ _ _ _ ((put9 w2 w.heap.size Q.z).alloc (.cells #[.int .i64 (Q.mM (lba + 150)), .int .i64 (Q.mS (lba + 150)), .int .i64 (Q.mF (lba + 150))] 25))
    generalize (put9 w2 w.heap.size Q.z).alloc (.cells #[.int .i64 (Q.mM (lba + 150)), .int .i64 (Q.mS (lba + 150)), .int .i64 (Q.mF (lba + 150))] 25) = W9 at hB9 hb9 ⊢
    clear g0 g1 g2 g3 g4 g5 g6 g7 g8 gf gl hb8
    obtain ⟨g0, g1, g2, g3, g4, g5, g6, g7, g8⟩ := fcs_cells hB9
    exact bodyPost_ret (v := .tuple #[fagg Q.z, .int .i64 2]) (by simp [results, Try.results12, go_sem, g0, g1, g2, g3, g4, g5, g6, g7, g8]) rfl ⟨rfl, hb9⟩
end Go.Proofs.Ytenbafolmmemgaa.W10
