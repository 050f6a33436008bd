/- Shaken out of XQw XQi -/
import Derived.Test.YtflmjdjkfognjaaGreatTp08
import Derived.Test.YtflmjdjkfognjaaGreatTp21
namespace Go.Proofs.YtflmjdjkfognjaaGreat.W10
open Go.RowKit
set_option linter.unusedVariables false
theorem wpStill_skip {P : Program} {ops : Array Oper} {w : World} {Q : Act → Prop} {a : Act} {o : Oper} {rest : List Oper} (hw : Region.wanted o (yielded ops a.tmps) = false) (h : wpStill P ops w Q rest (a.put o.dst undef)) : wpStill P ops w Q (o :: rest) a := by
  unfold wpStill
  rw [if_neg (by simp [hw])]
  exact h
set_option maxRecDepth 100000 in
set_option maxHeartbeats 2000000 in
theorem session_any (v : Value) (l : List T.Trk) (w : World) (hr : RdK w v l) (hn : l.length ≤ 120) (hwf : WfL l) :
    Calls Tryz.prog 38 #[v] w (RB (Q.sessB l) w) := by
  obtain ⟨a, c, rfl, hac⟩ := RdS.form hr
  obtain ⟨b, off, hcell⟩ := RdK.cells hr
  have HC := Lib.hid hcell; clear hcell
  have HWF := Lib.hid hwf; clear hwf
  by_cases hlen : 1 ≤ l.length ∧ l.length ≤ 99
  · obtain ⟨hl1, hl2⟩ := hlen
    have HR := Lib.hid hr; clear hr
    go_enter Tryz.func38, Tryz.ntmps38
    go_wp2_with fail
    go_loopw [3, 16] (fun ve vi wr => ∃ (k : Nat), k ≤ l.length ∧ ve = .int .i64 (T.eB l k) ∧ vi = .int .i64 k ∧ Hid (∀ i, i < k → Q.okS l i) ∧ Below w.heap.size w wr) (fun _ vi _ => l.length - (intOf vi).toNat)
    case atStart => exact ⟨0, by omega, rfl, rfl, Lib.hid fun i hi => by omega, Below.refl _ _⟩
    case round =>
      obtain ⟨k, hk, rfl, rfl, HO, hb⟩ := hrel
      by_cases hlt : k < l.length
      · obtain ⟨ha, hrange⟩ := HC.out k hlt
        have hrg : wr.rangeAt b (off + k * 7) (tcs (T.tr l k)) := fun j u hu => (hb.cell (p := ⟨b, off + k * 7 + j, none⟩) (World.block_lt_of_cell? w _ (hrange j u hu))).trans (hrange j u hu)
        clear hrange
        have hix := fun w' => run_idxS Tryz.underlying22 Tryz.sizeTrack (cap := c) ha hlt (k : Int) rfl w'
        have he := Q.okS.ends HO.out k (by omega)
        obtain ⟨wf0, _, wf2, wf3, _⟩ := HWF.out k hlt
        unfold In64 at wf0 wf2 wf3
        have HB : Hid (∀ p, ¬ p → (Q.okS l k → p) → Q.sessB l = false) := Lib.hid fun p hp hh => Q.sessB_false.2 fun h => hp (hh (h.2.2 k hlt))
        have HE : Hid (T.eB l (k + 1) = (T.tr l k).st + (T.tr l k).len) := Lib.hid (T.eB_succ l k)
        have HPrev : Hid (∀ j, k = j + 1 → wr.rangeAt b (off + j * 7) (tcs (T.tr l j)) ∧ Q.okS l j) := Lib.hid fun j e => by
          obtain ⟨_, hr9⟩ := HC.out j (by omega)
          exact ⟨fun j' u hu => (hb.cell (p := ⟨b, off + j * 7 + j', none⟩) (World.block_lt_of_cell? w _ (hr9 j' u hu))).trans (hr9 j' u hu), HO.out j (by omega)⟩
        obtain ⟨x, hx⟩ : ∃ x, x = T.tr l k := ⟨_, rfl⟩
        have HX := Lib.hid hx.symm
        rw [← hx] at hrg wf0 wf2 wf3 HE
        clear hx
        obtain ⟨hc0, hc1, hc2, hc3, hc4, hc5, hc6⟩ := rd7 hrg
        clear hrg
        by_cases c1 : 1 ≤ x.num ∧ x.num ≤ 99
        · have d1 := btw_t c1.1 c1.2
          by_cases hk0 : k = 0
          · have dk : decide (0 < k) = false := decide_eq_false (by omega)
            have Hk0 := Lib.hid hk0; clear hk0
            have Ha := Lib.hid ha; clear ha
            by_cases c3 : T.eB l k ≤ x.st ∧ x.st ≤ 449849
            · have d3 := btw_t c3.1 c3.2
              by_cases c4 : 1 ≤ x.len ∧ x.len ≤ 449849
              · have d4 := btw_t c4.1 c4.2
                by_cases c5 : x.st + x.len ≤ 449849
                · have hok : Q.okS l k := by unfold Q.okS; rw [HX.out]; exact ⟨c1.1, c1.2, fun h => absurd Hk0.out (by omega), c3.1, c3.2, c4.1, by omega⟩
                  have HOk := Lib.hid hok; clear hok
                  have d5 : decide (449849 < x.st + x.len) = false := decide_eq_false (by omega)
                  obtain ⟨c31, c32⟩ := c3
                  obtain ⟨c41, c42⟩ := c4
                  have c30 : 0 ≤ x.st := by have := he.1; omega
                  have C31 := Lib.hid c31; clear c31
                  go_upto_region 7 with (fail)
                  have hX : Bx (wr.alloc (tobj x)) wr.heap.size 28 (tcs x) := Bx.new _ _ _
                  have hbW := hb.alloc hb.size (tobj x)
                  have hbe := (Below.refl wr.heap.size wr).alloc (Nat.le_refl _) (tobj x)
                  obtain ⟨gx, hgx⟩ : ∃ gx, gx = wr.heap.size := ⟨_, rfl⟩
                  rw [← hgx] at hX
                  simp only [← hgx]
                  clear hc0 hc1 hc2 hc3 hc4 hc5 hc6
                  generalize wr.alloc (tobj x) = W at hX hbW hbe  ⊢
                  clear hbe hgx
                  have hx0 := hX.cell (i := 0) rfl
                  have hx1 := hX.cell (i := 1) rfl
                  have hx2 := hX.cell (i := 2) rfl
                  have hx3 := hX.cell (i := 3) rfl
                  have hx4 := hX.cell (i := 4) rfl
                  have hx5 := hX.cell (i := 5) rfl
                  have hx6 := hX.cell (i := 6) rfl
                  have hc1' := flipW (between_any x.num 1 99 W.drew)
                  rw [d1] at hc1'
                  have hc2' := flipW (between_any x.st (T.eB l k) 449849 W.drew)
                  rw [d3] at hc2'
                  have hc3' := flipW (between_any x.len 1 449849 W.drew)
                  rw [d4] at hc3'
                  go_still_tail 35, (by kernel_rfl)
                  still_call hc1'
                  iterate 5 still_step
                  iterate 10 (refine @wpStill_skip _ _ _ _ _ _ _ ?hw ?_; (case hw => kernel_rfl); simp only [Act.put, List.setIfInBounds_toArray, List.set_cons_zero, List.set_cons_succ])
                  repeat still_step
                  still_call hc2'
                  repeat still_step
                  still_call hc3'
                  repeat still_step
                  refine wpStill_nil ?_
                  change wpList _ _ _ _ _ W.drew
                  have hX2 : Bx W.drew gx 28 (tcs x) := hX
                  have hbW2 := hbW.drew
                  generalize W.drew = W2 at hX2 hbW2 ⊢
                  clear hX hbW hx0 hx1 hx2 hx3 hx4 hx5 hx6 hc1' hc2' hc3'
                  go_wp2_with (go_at_call 42; refine (send_any x _ (by omega) (by omega) (by omega) (by omega)).mono ?_; rintro e w1 ⟨rfl, rfl⟩; have hX3 := hX2.call ((Below.refl _ W2).alloc (Nat.le_refl _) (tobj x)); have hx0 := hX3.cell (i := 0) rfl; have hx1 := hX3.cell (i := 1) rfl; have hx2 := hX3.cell (i := 2) rfl; have hx3 := hX3.cell (i := 3) rfl; have hx4 := hX3.cell (i := 4) rfl; have hx5 := hX3.cell (i := 5) rfl; have hx6 := hX3.cell (i := 6) rfl)
                  have hbs := hbW2.size
                  refine ⟨⟨k + 1, by omega, by rw [HE.out], by go_num, Lib.hid fun i hi => ?_, ?_⟩, by simp [intOf]; omega⟩
                  · by_cases e9 : i < k
                    · exact HO.out i e9
                    · have e8 : i = k := by omega
                      rw [e8]; exact HOk.out
                  · repeat (first | exact hbW2 | refine Below.alloc ?_ (by first | omega | (simp; omega) | simp) _)
                · have d5 : decide (449849 < x.st + x.len) = true := decide_eq_true (by omega)
                  have hF := HB.out _ c5 (fun h => by obtain ⟨_, _, _, _, _, g6, g7⟩ := h; rw [HX.out] at g6 g7; omega)
                  rw [hF]
                  clear hF c5
                  obtain ⟨c31, c32⟩ := c3
                  obtain ⟨c41, c42⟩ := c4
                  have c30 : 0 ≤ x.st := by have := he.1; omega
                  have C31 := Lib.hid c31; clear c31
                  go_upto_region 7 with (fail)
                  have hX : Bx (wr.alloc (tobj x)) wr.heap.size 28 (tcs x) := Bx.new _ _ _
                  have hbW := hb.alloc hb.size (tobj x)
                  have hbe := (Below.refl wr.heap.size wr).alloc (Nat.le_refl _) (tobj x)
                  obtain ⟨gx, hgx⟩ : ∃ gx, gx = wr.heap.size := ⟨_, rfl⟩
                  rw [← hgx] at hX
                  simp only [← hgx]
                  clear hc0 hc1 hc2 hc3 hc4 hc5 hc6
                  generalize wr.alloc (tobj x) = W at hX hbW hbe  ⊢
                  clear hbe hgx
                  have hx0 := hX.cell (i := 0) rfl
                  have hx1 := hX.cell (i := 1) rfl
                  have hx2 := hX.cell (i := 2) rfl
                  have hx3 := hX.cell (i := 3) rfl
                  have hx4 := hX.cell (i := 4) rfl
                  have hx5 := hX.cell (i := 5) rfl
                  have hx6 := hX.cell (i := 6) rfl
                  have hc1' := flipW (between_any x.num 1 99 W.drew)
                  rw [d1] at hc1'
                  have hc2' := flipW (between_any x.st (T.eB l k) 449849 W.drew)
                  rw [d3] at hc2'
                  have hc3' := flipW (between_any x.len 1 449849 W.drew)
                  rw [d4] at hc3'
                  go_still_tail 35, (by kernel_rfl)
                  still_call hc1'
                  iterate 5 still_step
                  iterate 10 (refine @wpStill_skip _ _ _ _ _ _ _ ?hw ?_; (case hw => kernel_rfl); simp only [Act.put, List.setIfInBounds_toArray, List.set_cons_zero, List.set_cons_succ])
                  repeat still_step
                  still_call hc2'
                  repeat still_step
                  still_call hc3'
                  repeat still_step
                  refine wpStill_nil ?_
                  change wpList _ _ _ _ _ W.drew
                  have hX2 : Bx W.drew gx 28 (tcs x) := hX
                  have hbW2 := hbW.drew
                  generalize W.drew = W2 at hX2 hbW2 ⊢
                  clear hX hbW hx0 hx1 hx2 hx3 hx4 hx5 hx6 hc1' hc2' hc3'
                  go_wp2_with (go_at_call 42; refine (send_any x _ (by omega) (by omega) (by omega) (by omega)).mono ?_; rintro e w1 ⟨rfl, rfl⟩; have hX3 := hX2.call ((Below.refl _ W2).alloc (Nat.le_refl _) (tobj x)); have hx0 := hX3.cell (i := 0) rfl; have hx1 := hX3.cell (i := 1) rfl; have hx2 := hX3.cell (i := 2) rfl; have hx3 := hX3.cell (i := 3) rfl; have hx4 := hX3.cell (i := 4) rfl; have hx5 := hX3.cell (i := 5) rfl; have hx6 := hX3.cell (i := 6) rfl)
                  go_ret
                  have hbs := hbW2.size
                  refine ⟨rfl, ?_⟩
                  repeat (first | exact hbW2 | refine Below.alloc ?_ (by first | omega | (simp; omega) | simp) _)
              · have d4 := btw_f c4
                have hF := HB.out _ c4 (fun h => by obtain ⟨_, _, _, _, g5, g6, g7⟩ := h; rw [HX.out] at g5 g6 g7; have := c3.1; omega)
                rw [hF]
                clear hF c4
                go_upto_region 7 with (fail)
                go_quiet ((go_at_call 39; exact Calls.quiet_of_same (flipW (between_any _ _ _ _))))
                go_wp2_with fail
                go_ret
                exact ⟨rfl, Go.Proofs.YtflmjdjkfognjaaGreat.Below.drewN (hb.alloc hb.size _) _⟩
            · have d3 := btw_f c3
              have hF := HB.out _ c3 (fun h => by obtain ⟨_, _, _, g4, g5, _⟩ := h; rw [HX.out] at g4 g5; exact ⟨g4, g5⟩)
              rw [hF]
              clear hF c3
              go_upto_region 7 with (fail)
              go_quiet ((go_at_call 39; exact Calls.quiet_of_same (flipW (between_any _ _ _ _))))
              go_wp2_with fail
              go_ret
              exact ⟨rfl, Go.Proofs.YtflmjdjkfognjaaGreat.Below.drewN (hb.alloc hb.size _) _⟩
          · have dk : decide (0 < k) = true := decide_eq_true (by omega)
            obtain ⟨p, hp⟩ : ∃ p, k = p + 1 := ⟨k - 1, by omega⟩
            obtain ⟨hpr, hpo⟩ := HPrev.out p hp
            have hixp := fun w' => run_idxS Tryz.underlying22 Tryz.sizeTrack (cap := c) ha (by omega : p < l.length) ((k : Int) - 1) (by omega) w'
            have Ha := Lib.hid ha; clear ha
            have hp1 := (rd7 hpr).1
            have hbl : b < wr.heap.size := World.block_lt_of_cell? wr _ hp1
            have hpn := hpo.1
            have hpn2 := hpo.2.1
            have hpe : p = k - 1 := by omega
            have Hpe := Lib.hid hpe; clear hpe
            have Hp := Lib.hid hp; clear hp hpo hpr
            generalize hy : T.tr l p = y at hp1 hpn hpn2
            have HY := Lib.hid hy; clear hy
            have hkw : IntKind.i64.wrap ((k : Int) - 1) = (k : Int) - 1 := IntWalk.i64_in _ (by omega)
            have hnw : IntKind.i64.wrap (y.num + 1) = y.num + 1 := IntWalk.i64_in _ (by omega)
            have Hk0 := Lib.hid hk0; clear hk0
            by_cases c2 : x.num = y.num + 1
            · have d2 : (x.num != y.num + 1) = false := by rw [bne_eq_false_iff_eq]; exact c2
              have C2 := Lib.hid c2; clear c2
              by_cases c3 : T.eB l k ≤ x.st ∧ x.st ≤ 449849
              · have d3 := btw_t c3.1 c3.2
                by_cases c4 : 1 ≤ x.len ∧ x.len ≤ 449849
                · have d4 := btw_t c4.1 c4.2
                  by_cases c5 : x.st + x.len ≤ 449849
                  · have hok : Q.okS l k := by unfold Q.okS; rw [HX.out]; exact ⟨c1.1, c1.2, fun _ => by rw [← Hpe.out, HY.out]; exact C2.out, c3.1, c3.2, c4.1, by omega⟩
                    have HOk := Lib.hid hok; clear hok
                    have d5 : decide (449849 < x.st + x.len) = false := decide_eq_false (by omega)
                    obtain ⟨c31, c32⟩ := c3
                    obtain ⟨c41, c42⟩ := c4
                    have c30 : 0 ≤ x.st := by have := he.1; omega
                    have C31 := Lib.hid c31; clear c31
                    go_upto_region 7 with (fail)
                    have hX : Bx (wr.alloc (tobj x)) wr.heap.size 28 (tcs x) := Bx.new _ _ _
                    have hbW := hb.alloc hb.size (tobj x)
                    have hbe := (Below.refl wr.heap.size wr).alloc (Nat.le_refl _) (tobj x)
                    have hp1 := (hbe.cell (p := ⟨b, off + p * 7, none⟩) hbl).trans hp1
                    obtain ⟨gx, hgx⟩ : ∃ gx, gx = wr.heap.size := ⟨_, rfl⟩
                    rw [← hgx] at hX
                    simp only [← hgx]
                    clear hc0 hc1 hc2 hc3 hc4 hc5 hc6
                    generalize wr.alloc (tobj x) = W at hX hbW hbe hp1 ⊢
                    clear hbe hgx
                    have hx0 := hX.cell (i := 0) rfl
                    have hx1 := hX.cell (i := 1) rfl
                    have hx2 := hX.cell (i := 2) rfl
                    have hx3 := hX.cell (i := 3) rfl
                    have hx4 := hX.cell (i := 4) rfl
                    have hx5 := hX.cell (i := 5) rfl
                    have hx6 := hX.cell (i := 6) rfl
                    have hc1' := flipW (between_any x.num 1 99 W.drew)
                    rw [d1] at hc1'
                    have hc2' := flipW (between_any x.st (T.eB l k) 449849 W.drew)
                    rw [d3] at hc2'
                    have hc3' := flipW (between_any x.len 1 449849 W.drew)
                    rw [d4] at hc3'
                    go_still_tail 35, (by kernel_rfl)
                    still_call hc1'
                    repeat still_step
                    still_call hc2'
                    repeat still_step
                    still_call hc3'
                    repeat still_step
                    refine wpStill_nil ?_
                    change wpList _ _ _ _ _ W.drew
                    have hX2 : Bx W.drew gx 28 (tcs x) := hX
                    have hbW2 := hbW.drew
                    generalize W.drew = W2 at hX2 hbW2 ⊢
                    clear hX hbW hx0 hx1 hx2 hx3 hx4 hx5 hx6 hc1' hc2' hc3'
                    go_wp2_with (go_at_call 42; refine (send_any x _ (by omega) (by omega) (by omega) (by omega)).mono ?_; rintro e w1 ⟨rfl, rfl⟩; have hX3 := hX2.call ((Below.refl _ W2).alloc (Nat.le_refl _) (tobj x)); have hx0 := hX3.cell (i := 0) rfl; have hx1 := hX3.cell (i := 1) rfl; have hx2 := hX3.cell (i := 2) rfl; have hx3 := hX3.cell (i := 3) rfl; have hx4 := hX3.cell (i := 4) rfl; have hx5 := hX3.cell (i := 5) rfl; have hx6 := hX3.cell (i := 6) rfl)
                    have hbs := hbW2.size
                    refine ⟨⟨k + 1, by omega, by rw [HE.out], by go_num, Lib.hid fun i hi => ?_, ?_⟩, by simp [intOf]; omega⟩
                    · by_cases e9 : i < k
                      · exact HO.out i e9
                      · have e8 : i = k := by omega
                        rw [e8]; exact HOk.out
                    · repeat (first | exact hbW2 | refine Below.alloc ?_ (by first | omega | (simp; omega) | simp) _)
                  · have d5 : decide (449849 < x.st + x.len) = true := decide_eq_true (by omega)
                    have hF := HB.out _ c5 (fun h => by obtain ⟨_, _, _, _, _, g6, g7⟩ := h; rw [HX.out] at g6 g7; omega)
                    rw [hF]
                    clear hF c5
                    obtain ⟨c31, c32⟩ := c3
                    obtain ⟨c41, c42⟩ := c4
                    have c30 : 0 ≤ x.st := by have := he.1; omega
                    have C31 := Lib.hid c31; clear c31
                    go_upto_region 7 with (fail)
                    have hX : Bx (wr.alloc (tobj x)) wr.heap.size 28 (tcs x) := Bx.new _ _ _
                    have hbW := hb.alloc hb.size (tobj x)
                    have hbe := (Below.refl wr.heap.size wr).alloc (Nat.le_refl _) (tobj x)
                    have hp1 := (hbe.cell (p := ⟨b, off + p * 7, none⟩) hbl).trans hp1
                    obtain ⟨gx, hgx⟩ : ∃ gx, gx = wr.heap.size := ⟨_, rfl⟩
                    rw [← hgx] at hX
                    simp only [← hgx]
                    clear hc0 hc1 hc2 hc3 hc4 hc5 hc6
                    generalize wr.alloc (tobj x) = W at hX hbW hbe hp1 ⊢
                    clear hbe hgx
                    have hx0 := hX.cell (i := 0) rfl
                    have hx1 := hX.cell (i := 1) rfl
                    have hx2 := hX.cell (i := 2) rfl
                    have hx3 := hX.cell (i := 3) rfl
                    have hx4 := hX.cell (i := 4) rfl
                    have hx5 := hX.cell (i := 5) rfl
                    have hx6 := hX.cell (i := 6) rfl
                    have hc1' := flipW (between_any x.num 1 99 W.drew)
                    rw [d1] at hc1'
                    have hc2' := flipW (between_any x.st (T.eB l k) 449849 W.drew)
                    rw [d3] at hc2'
                    have hc3' := flipW (between_any x.len 1 449849 W.drew)
                    rw [d4] at hc3'
                    go_still_tail 35, (by kernel_rfl)
                    still_call hc1'
                    repeat still_step
                    still_call hc2'
                    repeat still_step
                    still_call hc3'
                    repeat still_step
                    refine wpStill_nil ?_
                    change wpList _ _ _ _ _ W.drew
                    have hX2 : Bx W.drew gx 28 (tcs x) := hX
                    have hbW2 := hbW.drew
                    generalize W.drew = W2 at hX2 hbW2 ⊢
                    clear hX hbW hx0 hx1 hx2 hx3 hx4 hx5 hx6 hc1' hc2' hc3'
                    go_wp2_with (go_at_call 42; refine (send_any x _ (by omega) (by omega) (by omega) (by omega)).mono ?_; rintro e w1 ⟨rfl, rfl⟩; have hX3 := hX2.call ((Below.refl _ W2).alloc (Nat.le_refl _) (tobj x)); have hx0 := hX3.cell (i := 0) rfl; have hx1 := hX3.cell (i := 1) rfl; have hx2 := hX3.cell (i := 2) rfl; have hx3 := hX3.cell (i := 3) rfl; have hx4 := hX3.cell (i := 4) rfl; have hx5 := hX3.cell (i := 5) rfl; have hx6 := hX3.cell (i := 6) rfl)
                    go_ret
                    have hbs := hbW2.size
                    refine ⟨rfl, ?_⟩
                    repeat (first | exact hbW2 | refine Below.alloc ?_ (by first | omega | (simp; omega) | simp) _)
                · have d4 := btw_f c4
                  have hF := HB.out _ c4 (fun h => by obtain ⟨_, _, _, _, g5, g6, g7⟩ := h; rw [HX.out] at g5 g6 g7; have := c3.1; omega)
                  rw [hF]
                  clear hF c4
                  go_upto_region 7 with (fail)
                  go_quiet ((go_at_call 39; exact Calls.quiet_of_same (flipW (between_any _ _ _ _))))
                  go_wp2_with fail
                  go_ret
                  exact ⟨rfl, Go.Proofs.YtflmjdjkfognjaaGreat.Below.drewN (hb.alloc hb.size _) _⟩
              · have d3 := btw_f c3
                have hF := HB.out _ c3 (fun h => by obtain ⟨_, _, _, g4, g5, _⟩ := h; rw [HX.out] at g4 g5; exact ⟨g4, g5⟩)
                rw [hF]
                clear hF c3
                go_upto_region 7 with (fail)
                go_quiet ((go_at_call 39; exact Calls.quiet_of_same (flipW (between_any _ _ _ _))))
                go_wp2_with fail
                go_ret
                exact ⟨rfl, Go.Proofs.YtflmjdjkfognjaaGreat.Below.drewN (hb.alloc hb.size _) _⟩
            · have d2 : (x.num != y.num + 1) = true := by rw [bne_iff_ne]; exact c2
              have hF := HB.out _ c2 (fun h => by have := h.2.2.1 (by have := Hk0.out; omega); rw [← Hpe.out, HX.out, HY.out] at this; exact this)
              rw [hF]
              clear hF c2
              go_upto_region 7 with (fail)
              go_quiet ((go_at_call 39; exact Calls.quiet_of_same (flipW (between_any _ _ _ _))))
              go_wp2_with fail
              go_ret
              exact ⟨rfl, Go.Proofs.YtflmjdjkfognjaaGreat.Below.drewN (hb.alloc hb.size _) _⟩
        · have d1 := btw_f c1
          have Ha := Lib.hid ha; clear ha
          have hF := HB.out _ c1 (fun h => by have g := And.intro h.1 h.2.1; rw [HX.out] at g; exact g)
          rw [hF]
          clear hF c1
          go_upto_region 7 with (fail)
          go_quiet ((go_at_call 39; exact Calls.quiet_of_same (flipW (between_any _ _ _ _))))
          go_wp2_with fail
          go_ret
          exact ⟨rfl, Go.Proofs.YtflmjdjkfognjaaGreat.Below.drewN (hb.alloc hb.size _) _⟩
      · obtain rfl : k = l.length := by omega
        go_wp2_with fail
        go_ret
        exact ⟨retB (Q.sessB_true.2 ⟨hl1, hl2, HO.out⟩).symm, hb⟩
  · have hF : Q.sessB l = false := Q.sessB_false.2 fun h => hlen ⟨h.1, h.2.1⟩
    rw [hF]
    clear hF
    by_cases h1 : 1 ≤ l.length
    · have h2 : ¬ l.length ≤ 99 := fun h2 => hlen ⟨h1, h2⟩
      clear hlen hr
      go_enter Tryz.func38, Tryz.ntmps38
      go_wp2_with fail
      go_ret
      exact ⟨rfl, Below.refl _ _⟩
    · clear hlen hr
      go_enter Tryz.func38, Tryz.ntmps38
      go_wp2_with fail
      go_ret
      exact ⟨rfl, Below.refl _ _⟩
end Go.Proofs.YtflmjdjkfognjaaGreat.W10
namespace Go.Proofs.YtflmjdjkfognjaaGreat.W10
open Go.RowKit
set_option linter.unusedVariables false
/-- tracks that are those of a session -/
def Fine (x : T.Trk) : Prop := 0 ≤ x.st ∧ x.st ≤ 449849 ∧ 1 ≤ x.len ∧ x.len ≤ 449849
theorem ends_any (x : T.Trk) (g : Nat) (lba : Int) (w : World) (hg : w.cell? ⟨g, 0, none⟩ = some (.int .i64 lba)) (hf : Fine x) :
    Calls Tryz.prog 44 #[tagg x, .pointer (some ⟨g, 0, none⟩)] w (RB (decide (lba < x.st + x.len)) w) := by
  have hlt : g < w.heap.size := World.block_lt_of_cell? w _ hg
  obtain ⟨f1, f2, f3, f4⟩ := hf
  go_enter Tryz.func44, Tryz.ntmps44
  go_wp2_with fail
  have hX : Bx (w.alloc (tobj x)) w.heap.size 28 (tcs x) := Bx.new _ _ _
  have hbe := (Below.refl w.heap.size w).alloc (Nat.le_refl _) (tobj x)
  have hg2 : (w.alloc (tobj x)).cell? ⟨g, 0, none⟩ = some (.int .i64 lba) := (hbe.cell (p := ⟨g, 0, none⟩) hlt).trans hg
  generalize w.alloc (tobj x) = W at hX hbe hg2 ⊢
  have hgW : g < W.heap.size := World.block_lt_of_cell? W _ hg2
  have hx0 := hX.cell (i := 0) rfl
  have hx1 := hX.cell (i := 1) rfl
  have hx2 := hX.cell (i := 2) rfl
  have hx3 := hX.cell (i := 3) rfl
  have hx4 := hX.cell (i := 4) rfl
  have hx5 := hX.cell (i := 5) rfl
  have hx6 := hX.cell (i := 6) rfl
  have hxl := hX.lt
  clear hg
  first | go_region_with (go_at_call 42; refine (send_any x _ f1 f2 f3 f4).mono ?_; rintro e w1 ⟨rfl, rfl⟩) | fail
  all_goals
    go_wp2_with fail
    go_ret
    have hbs := hbe.size
    refine ⟨rfl, ?_⟩
    repeat (first | exact hbe | refine Below.alloc ?_ (by first | omega | (simp; omega) | simp) _ | refine Below.drew ?_)
def idxV (l : List T.Trk) (lba : Int) : Int := match Q.firstP l lba l.length with
  | none => -1
  | some i => i
def Behind (l : List T.Trk) (lba : Int) (i : Nat) : Prop := ∀ m, m < i → ¬ lba < Q.en l m
def Past (x : T.Trk) (lba : Int) : Prop := ¬ lba < x.st + x.len
set_option maxRecDepth 100000 in
set_option maxHeartbeats 2000000 in
theorem first_any (v : Value) (l : List T.Trk) (w : World) (hr : RdK w v l) (hn : l.length ≤ 120) (hf : ∀ i, i < l.length → Fine (T.tr l i)) (g : Nat) (lba : Int) (hg : w.cell? ⟨g, 0, none⟩ = some (.int .i64 lba)) :
    Calls Tryz.prog 43 #[v, .func (.func 44) #[] #[.pointer (some ⟨g, 0, none⟩)]] w (RV (.int .i64 (idxV l lba)) w) := by
  have hg2 : g < w.heap.size := World.block_lt_of_cell? w _ hg
  obtain ⟨a, c, b, off, rfl, hac, hcell⟩ := hr
  have HC := Lib.hid hcell; clear hcell
  have HF := Lib.hid hf; clear hf
  go_enter Tryz.func43, Tryz.ntmps43
  go_wp2_with fail
  go_loopw [8] (fun vi wr => ∃ (i : Nat), i ≤ l.length ∧ vi = .int .i64 i ∧ Hid (Behind l lba i) ∧ Below w.heap.size w wr) (fun vi _ => l.length - (intOf vi).toNat)
  case atStart => exact ⟨0, by omega, rfl, Lib.hid fun m hm => by omega, Below.refl _ _⟩
  case round =>
    obtain ⟨i, hi, rfl, HO, hb⟩ := hrel
    have hbs := hb.size
    have hgr : wr.cell? ⟨g, 0, none⟩ = some (.int .i64 lba) := (hb.cell (p := ⟨g, 0, none⟩) hg2).trans hg
    by_cases hlt : i < l.length
    · obtain ⟨ha, hrange⟩ := HC.out i hlt
      have hfx := HF.out i hlt
      have HE : Hid (Q.en l i = (T.tr l i).st + (T.tr l i).len) := Lib.hid rfl
      replace hrange : w.rangeAt b (off + i * 7) (tcs (T.tr l i)) := hrange
      generalize T.tr l i = x at hrange hfx HE
      have hix := fun w' => run_idxS Tryz.underlying22 Tryz.sizeTrack (cap := c) ha hlt (i : Int) rfl w'
      have hrg : wr.rangeAt b (off + i * 7) (tcs x) := fun j u hu => (hb.cell (p := ⟨b, off + i * 7 + j, none⟩) (World.block_lt_of_cell? w _ (hrange j u hu))).trans (hrange j u hu)
      clear hrange
      obtain ⟨hc0, hc1, hc2, hc3, hc4, hc5, hc6⟩ := rd7 hrg
      clear hrg
      have Ha := Lib.hid ha; clear ha
      have HFx := Lib.hid hfx; clear hfx
      go_wp2_with fail
      refine (ends_any x g lba _ (by exact hgr) HFx.out).mono ?_
      rintro e w1 ⟨rfl, hb1⟩
      have hbb := hb.trans (hb1.mono hbs)
      by_cases hq : lba < x.st + x.len
      · have HI : Hid (idxV l lba = i) := Lib.hid (by unfold idxV; rw [Q.firstP_some hlt (by rw [HE.out]; exact hq) HO.out])
        rw [decide_eq_true hq]
        clear hq hb1
        go_wp2_with fail
        go_ret
        exact ⟨retI HI.out.symm, hbb⟩
      · have HQ : Hid (Past x lba) := Lib.hid hq
        rw [decide_eq_false hq]
        clear hq hb1
        go_wp2_with fail
        go_roundw
        case rel =>
          refine ⟨i + 1, by omega, by go_num, Lib.hid fun m hm => ?_, hbb⟩
          by_cases e9 : m < i
          · exact HO.out m e9
          · have e8 : m = i := by omega
            rw [e8, HE.out]; exact HQ.out
        case measure => simp [intOf] <;> omega
    · obtain rfl : i = l.length := by omega
      have HI : Hid (idxV l lba = -1) := Lib.hid (by unfold idxV; rw [Q.firstP_none HO.out])
      go_wp2_with fail
      go_ret
      exact ⟨retI HI.out.symm, hb⟩
end Go.Proofs.YtflmjdjkfognjaaGreat.W10
