/- Chapter 10: Program of the reference walked, the loop. -/
import Derived.Test.YtenbafolmmemgaaQrp
namespace Go.Proofs.Ytenbafolmmemgaa.W10
open Go.RowKit
set_option linter.unusedVariables false

theorem KeptB.drewN {N : Nat} {w W : World} (h : KeptB N w W) (n : Nat) : KeptB N w (W.drewN n) := h
set_option maxRecDepth 100000 in
set_option maxHeartbeats 4000000 in
theorem rprogram_4 (v : Value) (l : List T.Trk) (ctl lba : Int) (w : World) (hr : RdK w v l) (hn : l.length ≤ 120) (hwf : WfL l) (hS : Q.sessB l = true) (hc : 0 ≤ ctl ∧ ctl ≤ 15) (hl : 0 ≤ lba ∧ lba ≤ 449849) :
    Calls Try.prog 12 #[v, .int .i64 ctl, .int .i64 lba] w (FP (Q.progF l ctl lba (Q.firstP l lba l.length), 0) w) := by
  have hP := PR.new w
  have HSe := Lib.hid (rsession_any v l (w.alloc (fobj Q.z)) (hr.keep hP.le) hn hwf)
  have HS := Lib.hid hS; clear hwf
  have HR := Lib.hid hr
  obtain ⟨a, c, rfl, hac⟩ := RdS.form hr
  clear hr
  have HSS := Lib.hid (Q.sessB_true.1 hS); clear hS
  obtain ⟨hc1, hc2⟩ := hc
  obtain ⟨hl1, hl2⟩ := hl
  go_enter Try.func12, Try.ntmps12
  go_wp2_with fail
  refine HSe.out.mono ?_
  rw [HS.out]
  rintro e w1 ⟨rfl, hb⟩
  have hP1 := hP.call hb
  clear hb hP
  go_wp2_with fail
  refine (rtomsf_ok lba _ (by omega) (by omega)).mono ?_
  rintro e w2 ⟨rfl, hb2⟩
  have hP2 := hP1.call hb2
  clear hP1 hb2
  have gl2 := hP2.r.lt
  have hA : Bx (w2.alloc (.cells #[.int .i64 (Q.mM (lba + 150)), .int .i64 (Q.mS (lba + 150)), .int .i64 (Q.mF (lba + 150))] 25)) w2.heap.size 25 [.int .i64 (Q.mM (lba + 150)), .int .i64 (Q.mS (lba + 150)), .int .i64 (Q.mF (lba + 150))] := Bx.new _ _ _
  have hP3 := hP2.call ((Below.refl w2.heap.size w2).alloc (Nat.le_refl _) (.cells #[.int .i64 (Q.mM (lba + 150)), .int .i64 (Q.mS (lba + 150)), .int .i64 (Q.mF (lba + 150))] 25))
  obtain ⟨gA, hgA⟩ : ∃ gA, gA = w2.heap.size := ⟨_, rfl⟩
  have hNA : w.heap.size < gA := by omega
  rw [← hgA] at hA
  go_wp2_with fail
  simp only [← hgA]
  clear gl2 hgA
  generalize w2.alloc (.cells #[.int .i64 (Q.mM (lba + 150)), .int .i64 (Q.mS (lba + 150)), .int .i64 (Q.mF (lba + 150))] 25) = w3 at hA hP3 ⊢
  clear hP2
  go_loopw [10] (fun vi wr => ∃ (k : Nat), k ≤ l.length ∧ vi = .int .i64 k ∧ Hid (Behind l lba k) ∧ Below w3.heap.size w3 wr) (fun vi _ => l.length - (intOf vi).toNat)
  case atStart => exact ⟨0, by omega, rfl, Lib.hid fun m hm => by omega, Below.refl _ _⟩
  case round =>
    obtain ⟨k, hk, rfl, HO, hb⟩ := hrel
    have hPr := hP3.call hb
    have hAr := hA.call hb
    by_cases hlt : k < l.length
    · obtain ⟨b, off, hcell⟩ := RdK.cells (HR.out.keep hPr.le)
      obtain ⟨ha, hrg⟩ := hcell k hlt
      clear hcell
      obtain ⟨hat1, hat2, hat3, hat4, hat5, hat6⟩ := HSS.out.at hlt
      have HFst : Hid (lba < (T.tr l k).st + (T.tr l k).len → Q.firstP l lba l.length = some k) := Lib.hid fun h => Q.firstP_some hlt h HO.out
      have HG : Hid (lba < (T.tr l k).st → Q.progF l ctl lba (some k) = ⟨ctl, (T.tr l k).num, 0, Q.mM ((T.tr l k).st - lba), Q.mS ((T.tr l k).st - lba), Q.mF ((T.tr l k).st - lba), Q.mM (lba + 150), Q.mS (lba + 150), Q.mF (lba + 150)⟩) := Lib.hid fun h => by show (if lba < (T.tr l k).st then _ else _) = _; rw [if_pos h]
      have HI : Hid (¬ lba < (T.tr l k).st → Q.progF l ctl lba (some k) = ⟨ctl, (T.tr l k).num, 1, Q.mM (lba - (T.tr l k).st), Q.mS (lba - (T.tr l k).st), Q.mF (lba - (T.tr l k).st), Q.mM (lba + 150), Q.mS (lba + 150), Q.mF (lba + 150)⟩) := Lib.hid fun h => by show (if lba < (T.tr l k).st then _ else _) = _; rw [if_neg h]
      have HEn : Hid (Q.en l k = (T.tr l k).st + (T.tr l k).len) := Lib.hid rfl
      generalize T.tr l k = x at hrg hat1 hat2 hat3 hat4 hat5 hat6 HFst HG HI HEn
      obtain ⟨hc0, hc1, hc2, hc3, hc4, hc5, hc6⟩ := rd7 hrg
      have hix := fun w' => run_idxS Try.underlying22 Try.sizeTrack (cap := c) ha hlt (k : Int) rfl w'
      have Ha := Lib.hid ha; clear ha hrg
      by_cases hg : lba < x.st
      · have HPF : Hid (Q.progF l ctl lba (Q.firstP l lba l.length) = ⟨ctl, x.num, 0, Q.mM (x.st - lba), Q.mS (x.st - lba), Q.mF (x.st - lba), Q.mM (lba + 150), Q.mS (lba + 150), Q.mF (lba + 150)⟩) := Lib.hid (by rw [HFst.out (by omega)]; exact HG.out hg)
        have hsw : IntKind.i64.wrap (x.st - lba) = x.st - lba := IntWalk.i64_in _ (by omega)
        go_upto_region 11 with (fail)
        have hX : Bx (wr.alloc (tobj x)) wr.heap.size 53 (tcs x) := Bx.new _ _ _
        have hbe := (Below.refl wr.heap.size wr).alloc (Nat.le_refl _) (tobj x)
        have hPW := hPr.call hbe
        have hAW := hAr.call hbe
        obtain ⟨gx, hgx⟩ : ∃ gx, gx = wr.heap.size := ⟨_, rfl⟩
        have hNx : w.heap.size < gx := by have := hPr.r.lt; omega
        rw [← hgx] at hX
        simp only [← hgx]
        clear hc0 hc1 hc2 hc3 hc4 hc5 hc6
        generalize wr.alloc (tobj x) = W at hX hPW hAW hbe ⊢
        clear hbe hgx hPr hAr
        have HS : Hid (∀ W', KeptB w.heap.size W W' → KeptB w.heap.size W W' ∧ W'.cell? ⟨gA, 0, none⟩ = some (.int .i64 (Q.mM (lba + 150))) ∧ W'.cell? ⟨gA, 1, none⟩ = some (.int .i64 (Q.mS (lba + 150))) ∧ W'.cell? ⟨gA, 2, none⟩ = some (.int .i64 (Q.mF (lba + 150))) ∧ W'.cell? ⟨gx, 0, none⟩ = some (.int .i64 x.num) ∧ W'.cell? ⟨gx, 1, none⟩ = some (.int .i64 x.ses) ∧ W'.cell? ⟨gx, 2, none⟩ = some (.int .i64 x.st) ∧ W'.cell? ⟨gx, 3, none⟩ = some (.int .i64 x.len) ∧ W'.cell? ⟨gx, 4, none⟩ = some (.int .i64 x.nx) ∧ W'.cell? ⟨gx, 5, none⟩ = some (.int .i64 x.sta) ∧ W'.cell? ⟨gx, 6, none⟩ = some (.int .i64 x.pk)) := Lib.hid fun W' hW => by
          have q := bx_kept hX hW (by omega)
          have r := bx_kept hAW hW (by omega)
          exact ⟨hW, r.cell (i := 0) rfl, r.cell (i := 1) rfl, r.cell (i := 2) rfl, q.cell (i := 0) rfl, q.cell (i := 1) rfl, q.cell (i := 2) rfl, q.cell (i := 3) rfl, q.cell (i := 4) rfl, q.cell (i := 5) rfl, q.cell (i := 6) rfl⟩
        go_region_held3 (fun W' => KeptB w.heap.size W W' ∧ W'.cell? ⟨gA, 0, none⟩ = some (.int .i64 (Q.mM (lba + 150))) ∧ W'.cell? ⟨gA, 1, none⟩ = some (.int .i64 (Q.mS (lba + 150))) ∧ W'.cell? ⟨gA, 2, none⟩ = some (.int .i64 (Q.mF (lba + 150))) ∧ W'.cell? ⟨gx, 0, none⟩ = some (.int .i64 x.num) ∧ W'.cell? ⟨gx, 1, none⟩ = some (.int .i64 x.ses) ∧ W'.cell? ⟨gx, 2, none⟩ = some (.int .i64 x.st) ∧ W'.cell? ⟨gx, 3, none⟩ = some (.int .i64 x.len) ∧ W'.cell? ⟨gx, 4, none⟩ = some (.int .i64 x.nx) ∧ W'.cell? ⟨gx, 5, none⟩ = some (.int .i64 x.sta) ∧ W'.cell? ⟨gx, 6, none⟩ = some (.int .i64 x.pk))
          (first | with_reducible exact HS.out _ hb9 | with_reducible exact HS.out _ (KeptB.set (KeptB.set (KeptB.set (KeptB.set (KeptB.set (KeptB.set (KeptB.set (KeptB.set (KeptB.set hb9 0 _) 1 _) 2 _) 3 _) 4 _) 5 _) 6 _) 7 _) 8 _) | with_reducible exact HS.out _ (KeptB.drew (KeptB.refl _ _)))
          (first
            | (go_at_call 34; refine (raddr_any _ _ (by omega) (by omega)).mono ?_; rintro e w6 ⟨rfl, hb6⟩; have hb9 := KeptB.call (And.left ‹KeptB w.heap.size W _ ∧ _›) hb6; have hle6 := hPW.le.drew.trans (hb6.mono hPW.le.size); have hR6 := Bx.call (W := _) (g := w.heap.size) (by first | exact hPW.r | exact hPW.r.drewN _) hb6; obtain ⟨q0, q1, q2, q3, q4, q5, q6, q7, q8⟩ := fcs_cells hR6; have qf := hR6.free; have ql := hR6.lt))
        all_goals
          go_wp2_with fail
          have hB9 := put9_box hR6 ⟨ctl, x.num, 0, Q.mM (x.st - lba), Q.mS (x.st - lba), Q.mF (x.st - lba), Q.mM (lba + 150), Q.mS (lba + 150), Q.mF (lba + 150)⟩
          have hb8 := put9_below hle6 (Nat.le_refl _) ⟨ctl, x.num, 0, Q.mM (x.st - lba), Q.mS (x.st - lba), Q.mF (x.st - lba), Q.mM (lba + 150), Q.mS (lba + 150), Q.mF (lba + 150)⟩
          change bodyPost _ _ _ _ _ (put9 w6 w.heap.size ⟨ctl, x.num, 0, Q.mM (x.st - lba), Q.mS (x.st - lba), Q.mF (x.st - lba), Q.mM (lba + 150), Q.mS (lba + 150), Q.mF (lba + 150)⟩)
          generalize put9 w6 w.heap.size ⟨ctl, x.num, 0, Q.mM (x.st - lba), Q.mS (x.st - lba), Q.mF (x.st - lba), Q.mM (lba + 150), Q.mS (lba + 150), Q.mF (lba + 150)⟩ = W9 at hB9 hb8 ⊢
          clear q0 q1 q2 q3 q4 q5 q6 q7 q8 qf
          obtain ⟨g0, g1, g2, g3, g4, g5, g6, g7, g8⟩ := fcs_cells hB9
          refine bodyPost_ret (v := .tuple #[fagg ⟨ctl, x.num, 0, Q.mM (x.st - lba), Q.mS (x.st - lba), Q.mF (x.st - lba), Q.mM (lba + 150), Q.mS (lba + 150), Q.mF (lba + 150)⟩, .int .i64 0]) (by simp [results, Try.results12, go_sem, g0, g1, g2, g3, g4, g5, g6, g7, g8]) rfl ⟨?_, hb8⟩
          show _ = Ending.returned (.tuple #[fagg (Q.progF l ctl lba (Q.firstP l lba l.length)), .int .i64 0])
          rw [HPF.out]
      · by_cases he : lba < x.st + x.len
        · have HPF : Hid (Q.progF l ctl lba (Q.firstP l lba l.length) = ⟨ctl, x.num, 1, Q.mM (lba - x.st), Q.mS (lba - x.st), Q.mF (lba - x.st), Q.mM (lba + 150), Q.mS (lba + 150), Q.mF (lba + 150)⟩) := Lib.hid (by rw [HFst.out he]; exact HI.out hg)
          have hsw : IntKind.i64.wrap (lba - x.st) = lba - x.st := IntWalk.i64_in _ (by omega)
          go_upto_region 13 with (fail)
          have hX : Bx (wr.alloc (tobj x)) wr.heap.size 53 (tcs x) := Bx.new _ _ _
          have hbe := (Below.refl wr.heap.size wr).alloc (Nat.le_refl _) (tobj x)
          have hPW := hPr.call hbe
          have hAW := hAr.call hbe
          obtain ⟨gx, hgx⟩ : ∃ gx, gx = wr.heap.size := ⟨_, rfl⟩
          have hNx : w.heap.size < gx := by have := hPr.r.lt; omega
          rw [← hgx] at hX
          simp only [← hgx]
          clear hc0 hc1 hc2 hc3 hc4 hc5 hc6
          generalize wr.alloc (tobj x) = W at hX hPW hAW hbe ⊢
          clear hbe hgx hPr hAr
          have HS : Hid (∀ W', KeptB w.heap.size W W' → KeptB w.heap.size W W' ∧ W'.cell? ⟨gA, 0, none⟩ = some (.int .i64 (Q.mM (lba + 150))) ∧ W'.cell? ⟨gA, 1, none⟩ = some (.int .i64 (Q.mS (lba + 150))) ∧ W'.cell? ⟨gA, 2, none⟩ = some (.int .i64 (Q.mF (lba + 150))) ∧ W'.cell? ⟨gx, 0, none⟩ = some (.int .i64 x.num) ∧ W'.cell? ⟨gx, 1, none⟩ = some (.int .i64 x.ses) ∧ W'.cell? ⟨gx, 2, none⟩ = some (.int .i64 x.st) ∧ W'.cell? ⟨gx, 3, none⟩ = some (.int .i64 x.len) ∧ W'.cell? ⟨gx, 4, none⟩ = some (.int .i64 x.nx) ∧ W'.cell? ⟨gx, 5, none⟩ = some (.int .i64 x.sta) ∧ W'.cell? ⟨gx, 6, none⟩ = some (.int .i64 x.pk)) := Lib.hid fun W' hW => by
            have q := bx_kept hX hW (by omega)
            have r := bx_kept hAW hW (by omega)
            exact ⟨hW, r.cell (i := 0) rfl, r.cell (i := 1) rfl, r.cell (i := 2) rfl, q.cell (i := 0) rfl, q.cell (i := 1) rfl, q.cell (i := 2) rfl, q.cell (i := 3) rfl, q.cell (i := 4) rfl, q.cell (i := 5) rfl, q.cell (i := 6) rfl⟩
          go_region_held3 (fun W' => KeptB w.heap.size W W' ∧ W'.cell? ⟨gA, 0, none⟩ = some (.int .i64 (Q.mM (lba + 150))) ∧ W'.cell? ⟨gA, 1, none⟩ = some (.int .i64 (Q.mS (lba + 150))) ∧ W'.cell? ⟨gA, 2, none⟩ = some (.int .i64 (Q.mF (lba + 150))) ∧ W'.cell? ⟨gx, 0, none⟩ = some (.int .i64 x.num) ∧ W'.cell? ⟨gx, 1, none⟩ = some (.int .i64 x.ses) ∧ W'.cell? ⟨gx, 2, none⟩ = some (.int .i64 x.st) ∧ W'.cell? ⟨gx, 3, none⟩ = some (.int .i64 x.len) ∧ W'.cell? ⟨gx, 4, none⟩ = some (.int .i64 x.nx) ∧ W'.cell? ⟨gx, 5, none⟩ = some (.int .i64 x.sta) ∧ W'.cell? ⟨gx, 6, none⟩ = some (.int .i64 x.pk))
            (first | with_reducible exact HS.out _ hb9 | with_reducible exact HS.out _ (KeptB.set (KeptB.set (KeptB.set (KeptB.set (KeptB.set (KeptB.set (KeptB.set (KeptB.set (KeptB.set hb9 0 _) 1 _) 2 _) 3 _) 4 _) 5 _) 6 _) 7 _) 8 _) | with_reducible exact HS.out _ (KeptB.drew (KeptB.refl _ _)))
            (first
              | (go_at_call 34; refine (raddr_any _ _ (by omega) (by omega)).mono ?_; rintro e w6 ⟨rfl, hb6⟩; have hb9 := KeptB.call (And.left ‹KeptB w.heap.size W _ ∧ _›) hb6; have hle6 := hPW.le.drew.trans (hb6.mono hPW.le.size); have hR6 := Bx.call (W := _) (g := w.heap.size) (by first | exact hPW.r | exact hPW.r.drewN _) hb6; obtain ⟨q0, q1, q2, q3, q4, q5, q6, q7, q8⟩ := fcs_cells hR6; have qf := hR6.free; have ql := hR6.lt))
          all_goals
            go_wp2_with fail
            have hB9 := put9_box hR6 ⟨ctl, x.num, 1, Q.mM (lba - x.st), Q.mS (lba - x.st), Q.mF (lba - x.st), Q.mM (lba + 150), Q.mS (lba + 150), Q.mF (lba + 150)⟩
            have hb8 := put9_below hle6 (Nat.le_refl _) ⟨ctl, x.num, 1, Q.mM (lba - x.st), Q.mS (lba - x.st), Q.mF (lba - x.st), Q.mM (lba + 150), Q.mS (lba + 150), Q.mF (lba + 150)⟩
            change bodyPost _ _ _ _ _ (put9 w6 w.heap.size ⟨ctl, x.num, 1, Q.mM (lba - x.st), Q.mS (lba - x.st), Q.mF (lba - x.st), Q.mM (lba + 150), Q.mS (lba + 150), Q.mF (lba + 150)⟩)
            generalize put9 w6 w.heap.size ⟨ctl, x.num, 1, Q.mM (lba - x.st), Q.mS (lba - x.st), Q.mF (lba - x.st), Q.mM (lba + 150), Q.mS (lba + 150), Q.mF (lba + 150)⟩ = W9 at hB9 hb8 ⊢
            clear q0 q1 q2 q3 q4 q5 q6 q7 q8 qf
            obtain ⟨g0, g1, g2, g3, g4, g5, g6, g7, g8⟩ := fcs_cells hB9
            refine bodyPost_ret (v := .tuple #[fagg ⟨ctl, x.num, 1, Q.mM (lba - x.st), Q.mS (lba - x.st), Q.mF (lba - x.st), Q.mM (lba + 150), Q.mS (lba + 150), Q.mF (lba + 150)⟩, .int .i64 0]) (by simp [results, Try.results12, go_sem, g0, g1, g2, g3, g4, g5, g6, g7, g8]) rfl ⟨?_, hb8⟩
            show _ = Ending.returned (.tuple #[fagg (Q.progF l ctl lba (Q.firstP l lba l.length)), .int .i64 0])
            rw [HPF.out]
        · have HQ : Hid (Past x lba) := Lib.hid he
          go_wp2_with fail
          go_roundw
          case rel =>
            refine ⟨k + 1, by omega, by go_num, Lib.hid fun m hm => ?_, hb.alloc hb.size _⟩
            by_cases e9 : m < k
            · exact HO.out m e9
            · have e8 : m = k := by omega
              rw [e8, HEn.out]; exact HQ.out
          case measure => simp [intOf]; omega
    · obtain rfl : k = l.length := by omega
      have hE := (HSS.out.at (i := l.length - 1) (by have := HSS.out.1; omega))
      have hE2 := HO.out (l.length - 1) (by have := HSS.out.1; omega)
      have hE0 : 0 ≤ Q.endL l := by show 0 ≤ (T.tr l (l.length - 1)).st + (T.tr l (l.length - 1)).len; omega
      have hE1 : Q.endL l ≤ lba := by show Q.en l (l.length - 1) ≤ lba; omega
      clear hE hE2
      have hsw : IntKind.i64.wrap (lba - Q.endL l) = lba - Q.endL l := IntWalk.i64_in _ (by omega)
      have HPF : Hid (Q.progF l ctl lba (Q.firstP l lba l.length) = ⟨ctl, 170, 1, Q.mM (lba - Q.endL l), Q.mS (lba - Q.endL l), Q.mF (lba - Q.endL l), Q.mM (lba + 150), Q.mS (lba + 150), Q.mF (lba + 150)⟩) := Lib.hid (by rw [Q.firstP_none HO.out]; rfl)
      go_upto_region 14 with (fail)
      have HS : Hid (∀ W', KeptB w.heap.size wr W' → KeptB w.heap.size wr W' ∧ W'.cell? ⟨gA, 0, none⟩ = some (.int .i64 (Q.mM (lba + 150))) ∧ W'.cell? ⟨gA, 1, none⟩ = some (.int .i64 (Q.mS (lba + 150))) ∧ W'.cell? ⟨gA, 2, none⟩ = some (.int .i64 (Q.mF (lba + 150)))) := Lib.hid fun W' hW => by
        have r := bx_kept hAr hW (by omega)
        exact ⟨hW, r.cell (i := 0) rfl, r.cell (i := 1) rfl, r.cell (i := 2) rfl⟩
      go_region_held3 (fun W' => KeptB w.heap.size wr W' ∧ W'.cell? ⟨gA, 0, none⟩ = some (.int .i64 (Q.mM (lba + 150))) ∧ W'.cell? ⟨gA, 1, none⟩ = some (.int .i64 (Q.mS (lba + 150))) ∧ W'.cell? ⟨gA, 2, none⟩ = some (.int .i64 (Q.mF (lba + 150))))
        (first | with_reducible exact HS.out _ hb9 | with_reducible exact HS.out _ (KeptB.set (KeptB.set (KeptB.set (KeptB.set (KeptB.set (KeptB.set (KeptB.set (KeptB.set (KeptB.set hb9 0 _) 1 _) 2 _) 3 _) 4 _) 5 _) 6 _) 7 _) 8 _) | with_reducible exact HS.out _ (KeptB.drew (KeptB.refl _ _)))
        (first
          | (go_at_call 35; refine (rend_any _ l _ (HR.out.keep (by first | exact hPr.le.drew | exact hPr.le)) HSS.out).mono ?_; rintro e w6 ⟨rfl, nq, rfl⟩; have hb9 := KeptB.drewN (KeptB.drew (KeptB.refl w.heap.size wr)) nq)
          | (go_at_call 34; refine (raddr_any _ _ (by omega) (by omega)).mono ?_; rintro e w6 ⟨rfl, hb6⟩; have hb9 := KeptB.call (And.left ‹KeptB w.heap.size wr _ ∧ _›) hb6; have hle6 := Below.trans (B := w.heap.size) (a := w) (by first | exact hPr.le.drew | exact Go.Proofs.Ytenbafolmmemgaa.Below.drewN hPr.le _) (hb6.mono hPr.le.size); have hR6 := Bx.call (W := _) (g := w.heap.size) (by first | exact hPr.r | exact hPr.r.drewN _) hb6; obtain ⟨q0, q1, q2, q3, q4, q5, q6, q7, q8⟩ := fcs_cells hR6; have qf := hR6.free; have ql := hR6.lt))
      all_goals
        go_wp2_with fail
        have hB9 := put9_box hR6 ⟨ctl, 170, 1, Q.mM (lba - Q.endL l), Q.mS (lba - Q.endL l), Q.mF (lba - Q.endL l), Q.mM (lba + 150), Q.mS (lba + 150), Q.mF (lba + 150)⟩
        have hb8 := put9_below hle6 (Nat.le_refl _) ⟨ctl, 170, 1, Q.mM (lba - Q.endL l), Q.mS (lba - Q.endL l), Q.mF (lba - Q.endL l), Q.mM (lba + 150), Q.mS (lba + 150), Q.mF (lba + 150)⟩
        change bodyPost _ _ _ _ _ (put9 w6 w.heap.size ⟨ctl, 170, 1, Q.mM (lba - Q.endL l), Q.mS (lba - Q.endL l), Q.mF (lba - Q.endL l), Q.mM (lba + 150), Q.mS (lba + 150), Q.mF (lba + 150)⟩)
        generalize put9 w6 w.heap.size ⟨ctl, 170, 1, Q.mM (lba - Q.endL l), Q.mS (lba - Q.endL l), Q.mF (lba - Q.endL l), Q.mM (lba + 150), Q.mS (lba + 150), Q.mF (lba + 150)⟩ = W9 at hB9 hb8 ⊢
        clear q0 q1 q2 q3 q4 q5 q6 q7 q8 qf
        obtain ⟨g0, g1, g2, g3, g4, g5, g6, g7, g8⟩ := fcs_cells hB9
        refine bodyPost_ret (v := .tuple #[fagg ⟨ctl, 170, 1, Q.mM (lba - Q.endL l), Q.mS (lba - Q.endL l), Q.mF (lba - Q.endL l), Q.mM (lba + 150), Q.mS (lba + 150), Q.mF (lba + 150)⟩, .int .i64 0]) (by simp [results, Try.results12, go_sem, g0, g1, g2, g3, g4, g5, g6, g7, g8]) rfl ⟨?_, hb8⟩
        show _ = Ending.returned (.tuple #[fagg (Q.progF l ctl lba (Q.firstP l lba l.length)), .int .i64 0])
        rw [HPF.out]
theorem rprogram_any (v : Value) (l : List T.Trk) (ctl lba : Int) (w : World) (hr : RdK w v l) (hn : l.length ≤ 120) (hwf : WfL l) :
    Calls Try.prog 12 #[v, .int .i64 ctl, .int .i64 lba] w (FP (Q.progR l ctl lba) w) := by
  unfold Q.progR
  cases hS : Q.sessB l with
  | false => rw [if_pos (.inl rfl)]; exact rprogram_1 v l ctl lba w hr hn hwf hS
  | true =>
    by_cases hc : 0 ≤ ctl ∧ ctl ≤ 15
    · rw [if_neg (fun h => h.elim (fun h => by cases h) (fun h => by omega))]
      by_cases hl : 0 ≤ lba ∧ lba ≤ 449849
      · rw [if_neg (by omega)]; exact rprogram_4 v l ctl lba w hr hn hwf hS hc hl
      · rw [if_pos (by omega)]; exact rprogram_3 v l ctl lba w hr hn hwf hS hc hl
    · rw [if_pos (.inr (by omega))]; exact rprogram_2 v l ctl lba w hr hn hwf hS hc
end Go.Proofs.Ytenbafolmmemgaa.W10
