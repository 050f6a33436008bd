/- Parts: XFh -/
import Derived.Test.YtflmjdjkfognjaaGreatTe34
import Derived.Deep.Cut
import Derived.Deep.CutRange
import Derived.StillTailTactics
namespace Go.Proofs.YtflmjdjkfognjaaGreat.D12
open Go.RowKit Go.Maps C9
open W8 (is)
set_option linter.unusedVariables false
theorem mapNil (p : Option Nat) (w : World) : (binOp .eql 52 (.map p) (.map none)).run Tryz.prog w = .ok (.bool p.isNone) w := by
  have h : ∀ (d : Nat) (w : World), (Op.equalIn (d + 1) 52 (.map p) (.map none)).run Tryz.prog w = .ok p.isNone w := fun d w => by
    cases p <;> simp [Op.equalIn, run_underlying Tryz.underlying52]
  simp only [binOp]
  simp [show Op.equal 52 (.map p) (.map none) = Op.equalIn (9999 + 1) 52 (.map p) (.map none) from rfl, h 9999 w]
theorem mapNil8 (p : Option Nat) (w : World) : (binOp .eql 201 (.map p) (.map none)).run Tryz.prog w = .ok (.bool p.isNone) w := by
  have h : ∀ (d : Nat) (w : World), (Op.equalIn (d + 1) 201 (.map p) (.map none)).run Tryz.prog w = .ok p.isNone w := fun d w => by
    cases p <;> simp [Op.equalIn, run_underlying Tryz.underlying201]
  simp only [binOp]
  simp [show Op.equal 201 (.map p) (.map none) = Op.equalIn (9999 + 1) 201 (.map p) (.map none) from rfl, h 9999 w]
theorem rdc {w : World} {b o : Nat} {x : Int × Int} (h : w.rangeAt b o (chc x)) : w.cell? ⟨b, o, none⟩ = some (.int .i64 x.1) ∧ w.cell? ⟨b, o + 1, none⟩ = some (.int .i64 x.2) := ⟨h 0 _ rfl, h 1 _ rfl⟩
def chK (l : List (Int × Int)) (k : Nat) : Prop := ∀ i, i < k → chOk1 (chA l i)
theorem chK_all {l : List (Int × Int)} (h : chK l l.length) : ∀ c ∈ l, chOk1 c := fun c hc => by
  obtain ⟨i, hi, rfl⟩ := List.getElem_of_mem hc
  have := h i hi
  simpa [chA, atD, hi] using this
theorem chK_not {l : List (Int × Int)} {k : Nat} (hk : k < l.length) (h : ¬ chOk1 (chA l k)) : ¬ ∀ c ∈ l, chOk1 c := fun h2 => h (h2 _ (atD_mem hk))
theorem Tryz.sizeCh12 : (Tryz.prog.info? 221).map (·.size) = some 2 := by kernel_rfl
set_option maxRecDepth 100000 in
set_option maxHeartbeats 4000000 in
theorem damage12 {w : World} {g : Nat} {M : Med} {X R : Nat → Prop} {N : Nat} (h : MedW w g M X R) (ho : M.Ok N) (vE vC : Value) (d : Dam) {w0 : World} (hd : DamV w0 vE vC d) (h0 : Below w0.heap.size w0 w) (hX : ∀ b, X b → w0.heap.size ≤ b) :
    Calls Tryz.prog 67 #[.pointer (some ⟨g, 0, none⟩), damv vE vC d] w (WrP (M.damage d) g X R w) := by
  obtain ⟨L, hc⟩ := h
  obtain ⟨hE, hC, hlba, hlen, hwf⟩ := hd
  obtain ⟨lba, E, C⟩ := d
  simp only at hE hC hlba hlen hwf
  have hE0 := hE
  have hC0 := hC
  obtain ⟨hEl, ⟨aE, cE, bE, oE, rfl, hEc, hEr⟩, hEw⟩ := hE0
  obtain ⟨aC, cC, rfl, hCc⟩ := RdD.form hC0
  obtain ⟨bC, oC, hCr⟩ := RdD.at hC0
  have H0 := Lib.hid h0
  have HX0 := Lib.hid hX
  clear h0 hX
  have HER := Lib.hid hEr
  have HCR := Lib.hid hCr
  have HEW := Lib.hid hEw
  have HCW := Lib.hid hwf
  have hA := (Below.refl w.heap.size w).alloc (Nat.le_refl _) (.cells #[.int .i64 lba, .slice aE E.length cE, .slice aC C.length cC] 56)
  have hB := Bx.new w 56 [.int .i64 lba, .slice aE E.length cE, .slice aC C.length cC]
  have hcA := hc.below hA
  have HH := Lib.hid (has12 hcA ho.n.2 lba)
  have HNO : Hid (∀ w', Below w.heap.size w w' → ¬ (⟨lba, E, C⟩ : Dam).Ok M.n → WrP (M.damage ⟨lba, E, C⟩) g X R w (.returned (.int .i64 1)) w') := Lib.hid fun w' hb hn => by
    unfold Med.damage
    rw [if_neg hn]
    exact WrP.same ⟨L, hc⟩ hb
  have HO := Lib.hid ho
  have HM := Lib.hid hc
  have HE := Lib.hid hE
  have HC := Lib.hid hC
  clear hc ho hE hC hEr hCr hEw hwf
  have b0 := hB.cell (i := 0) rfl
  have b1 := hB.cell (i := 1) rfl
  have b2 := hB.cell (i := 2) rfl
  by_cases hr : 0 ≤ lba ∧ lba < (M.n : Int)
  · rw [decide_eq_true hr] at HH
    obtain ⟨i, rfl⟩ : ∃ i : Nat, lba = i := ⟨lba.toNat, by omega⟩
    go_enter Tryz.func67, Tryz.ntmps67
    unfold damv
    go_wp2_with fail
    refine HH.out.mono ?_
    rintro e w' ⟨rfl, rfl⟩
    clear HH
    have HA := Lib.hid hA
    have HBX := Lib.hid hB
    have HMA := Lib.hid hcA
    clear hA hB hcA
    obtain ⟨w1, hw1⟩ : ∃ w1, w1 = w.alloc (.cells #[.int .i64 i, .slice aE E.length cE, .slice aC C.length cC] 56) := ⟨_, rfl⟩
    change Hid (Bx (w.alloc (.cells #[.int .i64 i, .slice aE E.length cE, .slice aC C.length cC] 56)) _ _ _) at HBX
    rw [← hw1] at HA HBX HMA b0 b1 b2 ⊢
    clear hw1
    go_wp2_with fail
    go_loopw [22] (fun vk wr => ∃ k : Nat, k ≤ E.length ∧ vk = .int .i64 k ∧ Hid (erK E k) ∧ wr = w1) (fun vk _ => E.length - (RowKit.intOf vk).toNat)
    case atStart => exact ⟨0, by omega, rfl, Lib.hid ⟨fun i hi => by omega, fun i hi => by omega⟩, rfl⟩
    case round =>
      obtain ⟨k, hk, rfl, HK, rfl⟩ := hrel
      by_cases hlt : k < E.length
      · obtain ⟨ha, hcell0⟩ := HER.out k hlt
        have hcell := ((H0.out.trans (HA.out.mono H0.out.size)).cell (p := ⟨bE, oE + k, none⟩) (World.block_lt_of_cell? w0 _ hcell0)).trans hcell0
        have hx := HEW.out k hlt
        have Ha := Lib.hid ha
        have hix := fun w' => run_idxS Tryz.underlying53 Tryz.sizeInt9 (cap := cE) ha hlt k rfl w'
        have HOF := Lib.hid (offset12 (ixI E k) wr)
        simp only [Nat.mul_one] at hix
        by_cases hin : 0 ≤ ixI E k ∧ ixI E k < 2352
        · rw [decide_eq_true hin] at HOF
          by_cases h0 : k = 0
          · subst h0
            have HS := Lib.hid ((erK_step HK.out).2 ⟨hin, fun h => by omega⟩)
            have hix0 := fun w' => run_idxS Tryz.underlying53 Tryz.sizeInt9 (cap := cE) ha hlt (0 : Int) rfl w'
            simp only [Nat.zero_mul, Nat.add_zero] at hix0 hcell
            generalize ixI E 0 = x at *
            clear hcell0 hix ha
            go_wp2_with fail
            refine HOF.out.mono ?_
            rintro e w' ⟨rfl, rfl⟩
            go_wp2_with fail
            go_roundw
            case rel => exact ⟨1, by omega, by go_num, HS.out, trivial⟩
            case measure => simp [RowKit.intOf]; omega
          · have hk1 : k - 1 < E.length := by omega
            have hcellp0 := (HER.out (k - 1) hk1).2
            have hcellp := ((H0.out.trans (HA.out.mono H0.out.size)).cell (p := ⟨bE, oE + (k - 1), none⟩) (World.block_lt_of_cell? w0 _ hcellp0)).trans hcellp0
            have hixp := fun w' => run_idxS Tryz.underlying53 Tryz.sizeInt9 (cap := cE) ha hk1 ((k : Int) - 1) (by omega) w'
            simp only [Nat.mul_one] at hixp
            have hxp := HEW.out (k - 1) hk1
            have h0' : 0 < k := by omega
            by_cases hle : ixI E k ≤ ixI E (k - 1)
            · have HR := Lib.hid (HNO.out _ HA.out fun h2 => erK_not hlt (fun h3 => by have := ((erK_step HK.out).1 h3).2 h0'; omega) HK.out h2.2.1)
              generalize ixI E k = x at *
              generalize ixI E (k - 1) = y at *
              clear hcell0 hcellp0 ha
              go_wp2_with fail
              refine HOF.out.mono ?_
              rintro e w' ⟨rfl, rfl⟩
              go_wp2_with fail
              go_ret
              exact HR.out
            · have HS := Lib.hid ((erK_step HK.out).2 ⟨hin, fun _ => by omega⟩)
              generalize ixI E k = x at *
              generalize ixI E (k - 1) = y at *
              clear hcell0 hcellp0 ha
              go_wp2_with fail
              refine HOF.out.mono ?_
              rintro e w' ⟨rfl, rfl⟩
              go_wp2_with fail
              go_roundw
              case rel => exact ⟨k + 1, by omega, by go_num, HS.out, trivial⟩
              case measure => simp [RowKit.intOf]; omega
        · rw [decide_eq_false hin] at HOF
          have HR := Lib.hid (HNO.out _ HA.out fun h2 => erK_not hlt (fun h3 => hin ((erK_step HK.out).1 h3).1) HK.out h2.2.1)
          generalize ixI E k = x at *
          clear hcell0 ha
          go_wp2_with fail
          refine HOF.out.mono ?_
          rintro e w' ⟨rfl, rfl⟩
          go_wp2_with fail
          go_ret
          exact HR.out
      · have hE1 := Lib.hid (erK_all (by have : k = E.length := by omega
                                         subst this; exact HK.out))
        clear HK
        have hke : k = E.length := by omega
        subst hke
        go_wp2_with fail
        go_loopw [48] (fun vk wr2 => ∃ k : Nat, k ≤ C.length ∧ vk = .int .i64 k ∧ Hid (chK C k) ∧ Bx wr2 w.heap.size 56 [.int .i64 i, .slice aE E.length cE, .slice aC C.length cC] ∧ Below w.heap.size w wr2) (fun vk _ => C.length - (RowKit.intOf vk).toNat)
        case atStart => exact ⟨0, by omega, rfl, Lib.hid fun i hi => by omega, HBX.out, HA.out⟩
        case round =>
          clear b0 b1 b2 HMA HA HBX
          obtain ⟨k, hk, rfl, HK, hbx, hb⟩ := hrel
          obtain ⟨wo, rfl⟩ : ∃ wo : World, wo = wr := ⟨_, rfl⟩
          have hbs := hb.size
          by_cases hlt : k < C.length
          · obtain ⟨ha, hrange⟩ := HCR.out k hlt
            have hw9 := HCW.out k hlt
            have HN1 := Lib.hid (fun (h : ¬ chOk1 (chA C k)) w' hw' => HNO.out w' hw' fun h2 => chK_not hlt h h2.2.2)
            have HS : Hid (chOk1 (chA C k) → chK C (k + 1)) := Lib.hid fun h m hm => by
              by_cases e : m < k
              · exact HK.out m e
              · have : m = k := by omega
                rw [this]; exact h
            change w0.rangeAt bC (oC + k * 2) (chc (chA C k)) at hrange
            generalize chA C k = x at *
            obtain ⟨co, cx⟩ := x
            have hrg : wo.rangeAt bC (oC + k * 2) (chc ⟨co, cx⟩) := fun j u hu => ((H0.out.trans (hb.mono H0.out.size)).cell (p := ⟨bC, oC + k * 2 + j, none⟩) (World.block_lt_of_cell? w0 _ (hrange j u hu))).trans (hrange j u hu)
            clear hrange
            obtain ⟨hc0, hc1⟩ := rdc hrg
            clear hrg
            simp only at hc0 hc1 hw9
            have hix := fun w' => run_idxS Tryz.underlying54 Tryz.sizeCh12 (cap := cC) ha hlt k rfl w'
            clear ha
            have hA := (Below.refl wo.heap.size wo).alloc (Nat.le_refl _) (.cells #[.int .i64 co, .int .i64 cx] 221)
            have hb2 := hb.trans (hA.mono hbs)
            have hbx2 := hbx.call hA
            have HOF := Lib.hid (offset12 co (wo.alloc (.cells #[.int .i64 co, .int .i64 cx] 221)))
            have HB2 := Lib.hid hb2
            have HX2 := Lib.hid hbx2
            clear hb2 hbx2 hA
            by_cases hin : 0 ≤ co ∧ co < 2352
            · rw [decide_eq_true hin] at HOF
              by_cases hx1 : cx < 1
              · have HR := Lib.hid (HN1.out (fun h => by unfold chOk1 at h; omega) _ HB2.out)
                go_wp2_with fail
                refine HOF.out.mono ?_
                rintro e w' ⟨rfl, rfl⟩
                go_wp2_with fail
                go_ret
                exact HR.out
              · by_cases hx2 : 255 < cx
                · have HR := Lib.hid (HN1.out (fun h => by unfold chOk1 at h; omega) _ HB2.out)
                  go_wp2_with fail
                  refine HOF.out.mono ?_
                  rintro e w' ⟨rfl, rfl⟩
                  go_wp2_with fail
                  go_ret
                  exact HR.out
                · have HS2 := Lib.hid (HS.out ⟨hin, by simp only; omega, by simp only; omega⟩)
                  go_wp2_with fail
                  refine HOF.out.mono ?_
                  rintro e w' ⟨rfl, rfl⟩
                  go_wp2_with fail
                  go_roundw
                  case rel => exact ⟨k + 1, by omega, by go_num, HS2.out, HX2.out, HB2.out⟩
                  case measure => simp [RowKit.intOf]; omega
            · rw [decide_eq_false hin] at HOF
              have HR := Lib.hid (HN1.out (fun h => hin h.1) _ HB2.out)
              go_wp2_with fail
              refine HOF.out.mono ?_
              rintro e w' ⟨rfl, rfl⟩
              go_wp2_with fail
              go_ret
              exact HR.out
          · have hke : k = C.length := by omega
            subst hke
            have hC1 := Lib.hid (chK_all HK.out)
            clear HK
            have hOk : Hid ((⟨i, E, C⟩ : Dam).Ok M.n) := Lib.hid ⟨hr, hE1.out, hC1.out⟩
            have hcr := HM.out.below hb
            have hiL : i < L.S.length := by rw [hcr.n]; omega
            obtain ⟨_, _, c2, _, _⟩ := hcr.cells
            have b0 := hbx.cell (i := 0) rfl
            have b1 := hbx.cell (i := 1) rfl
            have b2 := hbx.cell (i := 2) rfl
            have HCR2 := Lib.hid hcr
            have HBX := Lib.hid hbx
            have HB := Lib.hid hb
            have hll : L.S.length ≤ 4096 := by rw [hcr.n]; exact HO.out.n.2
            clear hcr hbx hb
            go_wp2_with fail
            go_quiet (fail)
            have hcr3 := HCR2.out.below (Below.drewN (Below.refl wo.heap.size wo) nq)
            have HBX3 := Lib.hid (HBX.out.call (Below.drewN (Below.refl wo.heap.size wo) nq))
            have HB3 := Lib.hid (HB.out.trans ((Below.drewN (Below.refl wo.heap.size wo) nq).mono HB.out.size))
            generalize wo.drewN nq = w3 at *
            clear c2 b0 b1 b2 HCR2 HBX HB
            have q3 := hcr3.surf hiL (j := 3) (by decide)
            have q4 := hcr3.surf hiL (j := 4) (by decide)
            simp only [smD, List.getElem?_cons_zero, List.getElem?_cons_succ] at q3 q4
            have f3 := hcr3.sec.free (i * 5 + 3)
            have f4 := hcr3.sec.free (i * 5 + 4)
            have n3 := mapNil (atD sm0 L.S i).e
            have n4 := mapNil8 (atD sm0 L.S i).c
            have b0 := HBX3.out.cell (i := 0) rfl
            have b1 := HBX3.out.cell (i := 1) rfl
            have b2 := HBX3.out.cell (i := 2) rfl
            rcases he : (atD sm0 L.S i).e with _ | be
            · rcases hc : (atD sm0 L.S i).c with _ | bc
              · skip
                rw [he] at q3 n3
                rw [hc] at q4 n4
                have hal := hcr3.below ((Below.refl w3.heap.size w3).alloc (Nat.le_refl _) (.map #[] 0))
                have a3 := hal.surf hiL (j := 3) (by decide)
                have a4 := hal.surf hiL (j := 4) (by decide)
                simp only [smD, List.getElem?_cons_zero, List.getElem?_cons_succ, he, hc] at a3 a4
                have af3 := hal.sec.free (i * 5 + 3)
                have af4 := hal.sec.free (i * 5 + 4)
                obtain ⟨L4, X4, h4, g4, l4, e4, c4, k4⟩ := hcr3.newMap hiL true he
                change MedC ((w3.alloc (.map #[] 0)).setCell ⟨L.gs, i * 5 + 3, none⟩ (.map (some w3.heap.size))) g L4 M X4 R at h4
                change Ch X R X4 R w3 ((w3.alloc (.map #[] 0)).setCell ⟨L.gs, i * 5 + 3, none⟩ (.map (some w3.heap.size))) at k4
                change (atD sm0 L4.S i).e = some w3.heap.size at e4
                change (atD sm0 L4.S i).c = (atD sm0 L.S i).c at c4
                rw [hc] at c4
                obtain ⟨w4, hw4⟩ : ∃ w4, w4 = (w3.alloc (.map #[] 0)).setCell ⟨L.gs, i * 5 + 3, none⟩ (.map (some w3.heap.size)) := ⟨_, rfl⟩
                rw [← hw4] at h4 k4
                have hi4 : i < L4.S.length := by rw [l4]; exact hiL
                have t4 := h4.surf hi4 (j := 4) (by decide)
                simp only [smD, List.getElem?_cons_zero, List.getElem?_cons_succ, c4, g4] at t4
                rw [hw4] at t4
                have hal4 := h4.below ((Below.refl w4.heap.size w4).alloc (Nat.le_refl _) (.map #[] 0))
                have p4 := hal4.surf hi4 (j := 4) (by decide)
                simp only [smD, List.getElem?_cons_zero, List.getElem?_cons_succ, c4, g4] at p4
                have pf4 := hal4.sec.free (i * 5 + 4)
                rw [g4] at pf4
                obtain ⟨L5, X5, h5, g5, l5, e5, c5, k5⟩ := h4.newMap hi4 false c4
                change MedC ((w4.alloc (.map #[] 0)).setCell ⟨L4.gs, i * 5 + 4, none⟩ (.map (some w4.heap.size))) g L5 M X5 R at h5
                change Ch X4 R X5 R w4 ((w4.alloc (.map #[] 0)).setCell ⟨L4.gs, i * 5 + 4, none⟩ (.map (some w4.heap.size))) at k5
                change (atD sm0 L5.S i).c = some w4.heap.size at e5
                change (atD sm0 L5.S i).e = (atD sm0 L4.S i).e at c5
                rw [e4] at c5
                rw [g4] at h5 k5 g5
                rw [hw4] at p4 pf4
                obtain ⟨w5, hw5⟩ : ∃ w5, w5 = (w4.alloc (.map #[] 0)).setCell ⟨L.gs, i * 5 + 4, none⟩ (.map (some w4.heap.size)) := ⟨_, rfl⟩
                rw [← hw5] at h5 k5
                obtain ⟨bE5, hbE5⟩ : ∃ b, (atD sm0 L5.S i).e = some b := ⟨_, c5⟩
                obtain ⟨bC5, hbC5⟩ : ∃ b, (atD sm0 L5.S i).c = some b := ⟨_, e5⟩
                have K5 := Lib.hid (k4.trans k5)
                have LL5 := Lib.hid (l5.trans l4)
                clear e5 c5 l5 k5 hal4
                have H5 := Lib.hid h5
                have G5 := Lib.hid g5
                have BE5 := Lib.hid hbE5
                have BC5 := Lib.hid hbC5
                have HW4 := Lib.hid hw4
                have HW5 := Lib.hid hw5
                clear he hc hcr3 hal h4 g4 l4 e4 c4 k4 h5 g5 hw4 hw5 hbE5 hbC5
                have hmm := @run_makeMap Tryz.prog
                go_upto_region 20 with (fail)
                have e5 : ((((w3.alloc (.map #[] 0)).setCell ⟨L.gs, i * 5 + 3, none⟩ (.map (some w3.heap.size))).alloc (.map #[] 0)).setCell ⟨L.gs, i * 5 + 4, none⟩ (.map (some (w3.heap.size + 1)))) = w5 := by rw [HW5.out, HW4.out]; simp
                rw [e5]
                clear e5 hmm HW4 HW5 a3 a4 af3 af4 t4 p4 pf4 hi4
                clear b0 b1 b2 q3 q4 n3 n4 f3 f4
                have hbx5 : Bx w5 w.heap.size 56 [.int .i64 i, .slice aE E.length cE, .slice aC C.length cC] := (K5.out.block w.heap.size HBX3.out.lt (fun h => by have := HM.out.lt _ (.inl h); omega)).trans HBX3.out
                have hch5 : Ch X R X5 R w w5 := (Ch.of HB3.out).trans K5.out
                have b1 := hbx5.cell (i := 1) rfl
                have HBX5 := Lib.hid hbx5
                have HCH5 := Lib.hid hch5
                have HE0 : Hid (M.put i { M.sec i with er := erF (M.sec i).er (E.take 0) } = M) := Lib.hid (by rw [List.take_zero, erF_nil]; exact Med.put_self M (by have := H5.out.n; omega))
                have HX5 : Hid (¬ X5 w.heap.size) := Lib.hid fun h => (K5.out.x _ h).elim (fun h2 => by have := HM.out.lt _ (.inl h2); omega) (fun h2 => by have := HBX3.out.lt; omega)
                clear hbx5 hch5
                go_wp2_with fail
                go_loopw [95] (fun vk wr => ∃ k : Nat, k ≤ E.length ∧ vk = .int .i64 k ∧ Hid (∃ L', MedC wr g L' (M.put i { M.sec i with er := erF (M.sec i).er (E.take k) }) X5 R ∧ L'.gs = L.gs ∧ L'.S.length = L.S.length ∧ (atD sm0 L'.S i).e = some bE5 ∧ (atD sm0 L'.S i).c = some bC5) ∧ Hid (Bx wr w.heap.size 56 [.int .i64 i, .slice aE E.length cE, .slice aC C.length cC]) ∧ Hid (Ch X R X5 R w wr)) (fun vk _ => E.length - (RowKit.intOf vk).toNat)
                case atStart => exact ⟨0, by omega, rfl, Lib.hid ⟨L5, by rw [HE0.out]; exact H5.out, G5.out, LL5.out, BE5.out, BC5.out⟩, HBX5, HCH5⟩
                case round =>
                  clear b1
                  obtain ⟨k, hk, rfl, HK, HBK, HCK⟩ := hrel
                  by_cases hlt : k < E.length
                  · obtain ⟨ha, hcell0⟩ := HER.out k hlt
                    obtain ⟨L6, h6, g6, l6, e6, c6⟩ := HK.out
                    have hb0 : Below w0.heap.size w0 wr := H0.out.trans (HCK.out.below w0.heap.size H0.out.size HX0.out)
                    have hcell := (hb0.cell (p := ⟨bE, oE + k, none⟩) (World.block_lt_of_cell? w0 _ hcell0)).trans hcell0
                    have hx := hE1.out.1 (ixI E k) (W8.ixI_mem hlt)
                    have hix := fun w' => run_idxS Tryz.underlying53 Tryz.sizeInt9 (cap := cE) ha hlt k rfl w'
                    simp only [Nat.mul_one] at hix
                    have hi6 : i < L6.S.length := by rw [l6]; exact hiL
                    have hiM : i < M.n := by have := HM.out.n; omega
                    have s3 := h6.surf hi6 (j := 3) (by decide)
                    simp only [smD, List.getElem?_cons_zero, List.getElem?_cons_succ, e6, g6] at s3
                    have hW := h6.maps i true hi6
                    unfold SM.W at hW
                    rw [if_pos rfl, e6, h6.at_ i, Med.put_sec _ _ hiM] at hW
                    have HER6 := Lib.hid hW
                    have HF6 : Hid (∀ j, erF (M.sec i).er (E.take k) j = true → j < 2352) := Lib.hid fun j hj => by
                      simp only [erF, Bool.or_eq_true, decide_eq_true_eq] at hj
                      rcases hj with hj | hj
                      · exact (HO.out.sec i hiM).er j hj
                      · have := hE1.out.1 _ (List.mem_of_mem_take hj); omega
                    have HS6 : Hid (erF (M.sec i).er (E.take (k + 1)) = fun j : Nat => if (j : Int) = ixI E k then true else erF (M.sec i).er (E.take k) j) := Lib.hid (by
                      have e : E.take (k + 1) = E.take k ++ [ixI E k] := by rw [List.take_add_one, List.getElem?_eq_getElem hlt, W8.ixI_get hlt]; rfl
                      rw [e, erF_snoc])
                    have H6 := Lib.hid h6
                    have G6 := Lib.hid g6
                    have L66 := Lib.hid l6
                    have E6 := Lib.hid e6
                    have C6 := Lib.hid c6
                    generalize ixI E k = x at *
                    clear ha hcell0 hb0 hW h6 g6 l6 e6 c6
                    obtain ⟨hx0, hx1⟩ := hx
                    go_wp2_with (refine wpList_erPut rfl _ _ _ rfl HER6.out rfl rfl rfl hx0 hx1 HF6.out ?_; intro w7 hm7 hg7)
                    obtain ⟨L7, h7, g7, l7, e7, c7, k7⟩ := H6.out.erStep (by rw [L66.out]; exact hiL) E6.out hg7 hm7
                    rw [Med.put_put, Med.put_sec _ _ (by have := HM.out.n; omega), ← HS6.out] at h7
                    have H7 := Lib.hid h7
                    have HB7 := Lib.hid ((k7.block w.heap.size HBK.out.lt HX5.out).trans HBK.out)
                    have HC7 := Lib.hid (HCK.out.trans k7)
                    have E7 := Lib.hid (And.intro (g7.trans G6.out) (And.intro (l7.trans L66.out) (And.intro e7 (c7.trans C6.out))))
                    clear h7 g7 l7 e7 c7 k7
                    go_roundw
                    case rel => exact ⟨k + 1, by omega, by go_num, Lib.hid ⟨L7, H7.out, E7.out⟩, HB7, HC7⟩
                    case measure => simp [RowKit.intOf]; omega
                  · have hke : k = E.length := by omega
                    subst hke
                    have hk1 := HK.out
                    rw [List.take_length] at hk1
                    have HK1 := Lib.hid hk1
                    have b2 := HBK.out.cell (i := 2) rfl
                    have hi0 : i < M.n := by have := HM.out.n; omega
                    have HC0 : Hid (chF (M.sec i).ch (C.take 0) = (M.sec i).ch) := Lib.hid rfl
                    clear HK hk1
                    go_wp2_with fail
                    go_loopw [108] (fun vk wr => ∃ k : Nat, k ≤ C.length ∧ vk = .int .i64 k ∧ Hid (∃ L', MedC wr g L' (M.put i { M.sec i with er := erF (M.sec i).er E, ch := chF (M.sec i).ch (C.take k) }) X5 R ∧ L'.gs = L.gs ∧ L'.S.length = L.S.length ∧ (atD sm0 L'.S i).e = some bE5 ∧ (atD sm0 L'.S i).c = some bC5) ∧ Hid (Bx wr w.heap.size 56 [.int .i64 i, .slice aE E.length cE, .slice aC C.length cC]) ∧ Hid (Ch X R X5 R w wr)) (fun vk _ => C.length - (RowKit.intOf vk).toNat)
                    case atStart => exact ⟨0, by omega, rfl, Lib.hid (by rw [HC0.out]; exact HK1.out), HBK, HCK⟩
                    case round =>
                      clear b2 HK1 HBK HCK
                      obtain ⟨k, hk, rfl, HK, HBK, HCK⟩ := hrel
                      obtain ⟨wo, rfl⟩ : ∃ wo : World, wo = wr := ⟨_, rfl⟩
                      by_cases hlt : k < C.length
                      · obtain ⟨ha, hrange⟩ := HCR.out k hlt
                        have hw9 := HCW.out k hlt
                        have hc1 : chOk1 (chA C k) := hC1.out _ (atD_mem hlt)
                        have HS6 : Hid (chF (M.sec i).ch (C.take (k + 1)) = ch1 (chF (M.sec i).ch (C.take k)) (chA C k)) := Lib.hid (by
                          have e : C.take (k + 1) = C.take k ++ [chA C k] := by rw [List.take_add_one, List.getElem?_eq_getElem hlt]; simp [chA, atD, hlt]
                          rw [e, chF_snoc])
                        have hb0 : Below w0.heap.size w0 wo := H0.out.trans (HCK.out.below w0.heap.size H0.out.size HX0.out)
                        change w0.rangeAt bC (oC + k * 2) (chc (chA C k)) at hrange
                        generalize chA C k = x at *
                        obtain ⟨co, cx⟩ := x
                        have hrg : wo.rangeAt bC (oC + k * 2) (chc ⟨co, cx⟩) := fun j u hu => (hb0.cell (p := ⟨bC, oC + k * 2 + j, none⟩) (World.block_lt_of_cell? w0 _ (hrange j u hu))).trans (hrange j u hu)
                        obtain ⟨hc0, hc1'⟩ := rdc hrg
                        clear hrg hrange hb0
                        unfold chOk1 at hc1
                        simp only at hc0 hc1' hw9 hc1
                        obtain ⟨⟨x0, x1⟩, y0, y1⟩ := hc1
                        have hix := fun w' => run_idxS Tryz.underlying54 Tryz.sizeCh12 (cap := cC) ha hlt k rfl w'
                        clear ha
                        obtain ⟨L6, h6, g6, l6, e6, c6⟩ := HK.out
                        have hal := (Below.refl wo.heap.size wo).alloc (Nat.le_refl _) (.cells #[.int .i64 co, .int .i64 cx] 221)
                        have h7 := h6.below hal
                        have hi6 : i < L6.S.length := by rw [l6]; exact hiL
                        have s4 := h7.surf hi6 (j := 4) (by decide)
                        simp only [smD, List.getElem?_cons_zero, List.getElem?_cons_succ, c6, g6] at s4
                        have hW := h7.maps i false hi6
                        unfold SM.W at hW
                        rw [if_neg (by decide), c6, h7.at_ i, Med.put_sec _ _ hi0] at hW
                        change ChM _ _ (chF (M.sec i).ch (C.take k)) at hW
                        have hrun := hW.run co x0 x1
                        have hV : (b8 cx).toNat = cx := by unfold b8; rw [UInt8.toNat_ofNat']; omega
                        have hwr : IntKind.u8.wrap cx = cx := by simp [IntKind.wrap, IntKind.signed, IntKind.bits]; omega
                        have HBA := Lib.hid (HBK.out.call hal)
                        have HCA := Lib.hid (HCK.out.trans (Ch.of (X := X5) (R := R) hal))
                        have HW := Lib.hid hW
                        have H7 := Lib.hid h7
                        have G6 := Lib.hid g6
                        have L66 := Lib.hid l6
                        have E6 := Lib.hid e6
                        have C6 := Lib.hid c6
                        have hxor := xorB (chF (M.sec i).ch (C.take k) co.toNat) (b8 cx)
                        rw [hV] at hxor
                        clear hW h6 h7 g6 l6 e6 c6 hal
                        go_wp2_with fail
                        have HBN := Bx.new wo 221 [.int .i64 co, .int .i64 cx]
                        have v0 := HBN.cell (i := 0) rfl
                        have v1 := HBN.cell (i := 1) rfl
                        clear HBN
                        change (wo.alloc (.cells #[.int .i64 co, .int .i64 cx] 221)).cell? _ = _ at v0
                        change (wo.alloc (.cells #[.int .i64 co, .int .i64 cx] 221)).cell? _ = _ at v1
                        generalize (wo.alloc (.cells #[.int .i64 co, .int .i64 cx] 221)) = wa at *
                        have hWd : ChM wa.drew (some bC5) (chF (M.sec i).ch (C.take k)) := HW.out.kept fun _ _ => rfl
                        have hrun2 := hWd.run co x0 x1
                        have HWD := Lib.hid hWd
                        clear hWd hrun
                        go_still_tail 11, (by kernel_rfl)
                        repeat still_step
                        change wpList _ _ _ _ _ wa.drew
                        have h7d := H7.out.below ((Below.refl wa.heap.size _).drew)
                        have HBD := Lib.hid (HBA.out.call ((Below.refl wa.heap.size _).drew))
                        have HCD := Lib.hid (HCA.out.trans (Ch.of (X := X5) (R := R) ((Below.refl wa.heap.size _).drew)))
                        generalize wa.drew = wd at *
                        refine wpList_chPut rfl _ _ _ rfl HWD.out rfl rfl (chF (M.sec i).ch (C.take k) co.toNat ^^^ b8 cx) (by first | rfl | exact congrArg (Value.int .u8) hxor | (simp [hxor]; done)) x0 x1 ?_
                        intro w8 hm8 hg8
                        obtain ⟨L8, h8, g8, l8, e8, c8, k8⟩ := h7d.chStep hi6 C6.out hg8 hm8
                        have hF8 : (fun j : Nat => if (j : Int) = co then chF (M.sec i).ch (C.take k) co.toNat ^^^ b8 cx else chF (M.sec i).ch (C.take k) j) = chF (M.sec i).ch (C.take (k + 1)) := by
                          rw [HS6.out]
                          funext j
                          unfold ch1
                          by_cases e : (j : Int) = co
                          · have e2 : co.toNat = j := by omega
                            rw [if_pos e, if_pos e, e2]
                          · rw [if_neg e, if_neg e]
                        rw [Med.put_put, Med.put_sec _ _ hi0, hF8] at h8
                        have H8 := Lib.hid h8
                        have HB8 := Lib.hid ((k8.block w.heap.size HBD.out.lt HX5.out).trans HBD.out)
                        have HC8 := Lib.hid (HCD.out.trans k8)
                        have E8 := Lib.hid (And.intro (g8.trans G6.out) (And.intro (l8.trans L66.out) (And.intro (c8.trans E6.out) e8)))
                        clear h8 g8 l8 e8 c8 k8 h7d
                        go_wp2_with fail
                        go_roundw
                        case rel => exact ⟨k + 1, by omega, by go_num, Lib.hid ⟨L8, H8.out, E8.out.1, E8.out.2.1, E8.out.2.2.1, E8.out.2.2.2⟩, HB8, HC8⟩
                        case measure => simp [RowKit.intOf]; omega
                      · have hke : k = C.length := by omega
                        subst hke
                        have hk1 := HK.out
                        rw [List.take_length] at hk1
                        have HD : Hid (M.damage ⟨i, E, C⟩ = (0, M.put i { M.sec i with er := erF (M.sec i).er E, ch := chF (M.sec i).ch C })) := Lib.hid (by
                          unfold Med.damage
                          rw [if_pos hOk.out]
                          rfl)
                        have HZ : Hid (WrP (M.damage ⟨i, E, C⟩) g X R w (.returned (.int .i64 0)) wo) := Lib.hid (by
                          rw [HD.out]
                          obtain ⟨L9, h9, _⟩ := hk1
                          exact ⟨rfl, X5, R, ⟨L9, h9⟩, HCK.out⟩)
                        clear HK hk1 HD
                        go_wp2_with fail
                        go_ret
                        exact HZ.out
              · skip
                rw [he] at q3 n3
                rw [hc] at q4 n4
                have hal := hcr3.below ((Below.refl w3.heap.size w3).alloc (Nat.le_refl _) (.map #[] 0))
                have a3 := hal.surf hiL (j := 3) (by decide)
                have a4 := hal.surf hiL (j := 4) (by decide)
                simp only [smD, List.getElem?_cons_zero, List.getElem?_cons_succ, he, hc] at a3 a4
                have af3 := hal.sec.free (i * 5 + 3)
                have af4 := hal.sec.free (i * 5 + 4)
                obtain ⟨L4, X4, h4, g4, l4, e4, c4, k4⟩ := hcr3.newMap hiL true he
                change MedC ((w3.alloc (.map #[] 0)).setCell ⟨L.gs, i * 5 + 3, none⟩ (.map (some w3.heap.size))) g L4 M X4 R at h4
                change Ch X R X4 R w3 ((w3.alloc (.map #[] 0)).setCell ⟨L.gs, i * 5 + 3, none⟩ (.map (some w3.heap.size))) at k4
                change (atD sm0 L4.S i).e = some w3.heap.size at e4
                change (atD sm0 L4.S i).c = (atD sm0 L.S i).c at c4
                rw [hc] at c4
                obtain ⟨w4, hw4⟩ : ∃ w4, w4 = (w3.alloc (.map #[] 0)).setCell ⟨L.gs, i * 5 + 3, none⟩ (.map (some w3.heap.size)) := ⟨_, rfl⟩
                rw [← hw4] at h4 k4
                have hi4 : i < L4.S.length := by rw [l4]; exact hiL
                have t4 := h4.surf hi4 (j := 4) (by decide)
                simp only [smD, List.getElem?_cons_zero, List.getElem?_cons_succ, c4, g4] at t4
                rw [hw4] at t4
                obtain ⟨w5, hw5⟩ : ∃ w5, w5 = w4 := ⟨_, rfl⟩
                obtain ⟨L5, X5, h5, g5, hl5, bE5, bC5, hbE5, hbC5, k5⟩ : ∃ L5 X5, MedC w5 g L5 M X5 R ∧ L5.gs = L.gs ∧ L5.S.length = L.S.length ∧ ∃ bE5 bC5, (atD sm0 L5.S i).e = some bE5 ∧ (atD sm0 L5.S i).c = some bC5 ∧ Ch X R X5 R w3 w5 := ⟨L4, X4, by rw [hw5]; exact h4, g4, l4, _, _, e4, c4, by rw [hw5]; exact k4⟩
                have K5 := Lib.hid k5
                have LL5 := Lib.hid hl5
                clear k5 hl5
                have H5 := Lib.hid h5
                have G5 := Lib.hid g5
                have BE5 := Lib.hid hbE5
                have BC5 := Lib.hid hbC5
                have HW4 := Lib.hid hw4
                have HW5 := Lib.hid hw5
                clear he hc hcr3 hal h4 g4 l4 e4 c4 k4 h5 g5 hw4 hw5 hbE5 hbC5
                have hmm := @run_makeMap Tryz.prog
                go_upto_region 20 with (fail)
                have e5 : ((w3.alloc (.map #[] 0)).setCell ⟨L.gs, i * 5 + 3, none⟩ (.map (some w3.heap.size))) = w5 := by rw [HW5.out, HW4.out]
                rw [e5]
                clear e5 hmm HW4 HW5 a3 a4 af3 af4 t4 hi4
                clear b0 b1 b2 q3 q4 n3 n4 f3 f4
                have hbx5 : Bx w5 w.heap.size 56 [.int .i64 i, .slice aE E.length cE, .slice aC C.length cC] := (K5.out.block w.heap.size HBX3.out.lt (fun h => by have := HM.out.lt _ (.inl h); omega)).trans HBX3.out
                have hch5 : Ch X R X5 R w w5 := (Ch.of HB3.out).trans K5.out
                have b1 := hbx5.cell (i := 1) rfl
                have HBX5 := Lib.hid hbx5
                have HCH5 := Lib.hid hch5
                have HE0 : Hid (M.put i { M.sec i with er := erF (M.sec i).er (E.take 0) } = M) := Lib.hid (by rw [List.take_zero, erF_nil]; exact Med.put_self M (by have := H5.out.n; omega))
                have HX5 : Hid (¬ X5 w.heap.size) := Lib.hid fun h => (K5.out.x _ h).elim (fun h2 => by have := HM.out.lt _ (.inl h2); omega) (fun h2 => by have := HBX3.out.lt; omega)
                clear hbx5 hch5
                go_wp2_with fail
                go_loopw [95] (fun vk wr => ∃ k : Nat, k ≤ E.length ∧ vk = .int .i64 k ∧ Hid (∃ L', MedC wr g L' (M.put i { M.sec i with er := erF (M.sec i).er (E.take k) }) X5 R ∧ L'.gs = L.gs ∧ L'.S.length = L.S.length ∧ (atD sm0 L'.S i).e = some bE5 ∧ (atD sm0 L'.S i).c = some bC5) ∧ Hid (Bx wr w.heap.size 56 [.int .i64 i, .slice aE E.length cE, .slice aC C.length cC]) ∧ Hid (Ch X R X5 R w wr)) (fun vk _ => E.length - (RowKit.intOf vk).toNat)
                case atStart => exact ⟨0, by omega, rfl, Lib.hid ⟨L5, by rw [HE0.out]; exact H5.out, G5.out, LL5.out, BE5.out, BC5.out⟩, HBX5, HCH5⟩
                case round =>
                  clear b1
                  obtain ⟨k, hk, rfl, HK, HBK, HCK⟩ := hrel
                  by_cases hlt : k < E.length
                  · obtain ⟨ha, hcell0⟩ := HER.out k hlt
                    obtain ⟨L6, h6, g6, l6, e6, c6⟩ := HK.out
                    have hb0 : Below w0.heap.size w0 wr := H0.out.trans (HCK.out.below w0.heap.size H0.out.size HX0.out)
                    have hcell := (hb0.cell (p := ⟨bE, oE + k, none⟩) (World.block_lt_of_cell? w0 _ hcell0)).trans hcell0
                    have hx := hE1.out.1 (ixI E k) (W8.ixI_mem hlt)
                    have hix := fun w' => run_idxS Tryz.underlying53 Tryz.sizeInt9 (cap := cE) ha hlt k rfl w'
                    simp only [Nat.mul_one] at hix
                    have hi6 : i < L6.S.length := by rw [l6]; exact hiL
                    have hiM : i < M.n := by have := HM.out.n; omega
                    have s3 := h6.surf hi6 (j := 3) (by decide)
                    simp only [smD, List.getElem?_cons_zero, List.getElem?_cons_succ, e6, g6] at s3
                    have hW := h6.maps i true hi6
                    unfold SM.W at hW
                    rw [if_pos rfl, e6, h6.at_ i, Med.put_sec _ _ hiM] at hW
                    have HER6 := Lib.hid hW
                    have HF6 : Hid (∀ j, erF (M.sec i).er (E.take k) j = true → j < 2352) := Lib.hid fun j hj => by
                      simp only [erF, Bool.or_eq_true, decide_eq_true_eq] at hj
                      rcases hj with hj | hj
                      · exact (HO.out.sec i hiM).er j hj
                      · have := hE1.out.1 _ (List.mem_of_mem_take hj); omega
                    have HS6 : Hid (erF (M.sec i).er (E.take (k + 1)) = fun j : Nat => if (j : Int) = ixI E k then true else erF (M.sec i).er (E.take k) j) := Lib.hid (by
                      have e : E.take (k + 1) = E.take k ++ [ixI E k] := by rw [List.take_add_one, List.getElem?_eq_getElem hlt, W8.ixI_get hlt]; rfl
                      rw [e, erF_snoc])
                    have H6 := Lib.hid h6
                    have G6 := Lib.hid g6
                    have L66 := Lib.hid l6
                    have E6 := Lib.hid e6
                    have C6 := Lib.hid c6
                    generalize ixI E k = x at *
                    clear ha hcell0 hb0 hW h6 g6 l6 e6 c6
                    obtain ⟨hx0, hx1⟩ := hx
                    go_wp2_with (refine wpList_erPut rfl _ _ _ rfl HER6.out rfl rfl rfl hx0 hx1 HF6.out ?_; intro w7 hm7 hg7)
                    obtain ⟨L7, h7, g7, l7, e7, c7, k7⟩ := H6.out.erStep (by rw [L66.out]; exact hiL) E6.out hg7 hm7
                    rw [Med.put_put, Med.put_sec _ _ (by have := HM.out.n; omega), ← HS6.out] at h7
                    have H7 := Lib.hid h7
                    have HB7 := Lib.hid ((k7.block w.heap.size HBK.out.lt HX5.out).trans HBK.out)
                    have HC7 := Lib.hid (HCK.out.trans k7)
                    have E7 := Lib.hid (And.intro (g7.trans G6.out) (And.intro (l7.trans L66.out) (And.intro e7 (c7.trans C6.out))))
                    clear h7 g7 l7 e7 c7 k7
                    go_roundw
                    case rel => exact ⟨k + 1, by omega, by go_num, Lib.hid ⟨L7, H7.out, E7.out⟩, HB7, HC7⟩
                    case measure => simp [RowKit.intOf]; omega
                  · have hke : k = E.length := by omega
                    subst hke
                    have hk1 := HK.out
                    rw [List.take_length] at hk1
                    have HK1 := Lib.hid hk1
                    have b2 := HBK.out.cell (i := 2) rfl
                    have hi0 : i < M.n := by have := HM.out.n; omega
                    have HC0 : Hid (chF (M.sec i).ch (C.take 0) = (M.sec i).ch) := Lib.hid rfl
                    clear HK hk1
                    go_wp2_with fail
                    go_loopw [108] (fun vk wr => ∃ k : Nat, k ≤ C.length ∧ vk = .int .i64 k ∧ Hid (∃ L', MedC wr g L' (M.put i { M.sec i with er := erF (M.sec i).er E, ch := chF (M.sec i).ch (C.take k) }) X5 R ∧ L'.gs = L.gs ∧ L'.S.length = L.S.length ∧ (atD sm0 L'.S i).e = some bE5 ∧ (atD sm0 L'.S i).c = some bC5) ∧ Hid (Bx wr w.heap.size 56 [.int .i64 i, .slice aE E.length cE, .slice aC C.length cC]) ∧ Hid (Ch X R X5 R w wr)) (fun vk _ => C.length - (RowKit.intOf vk).toNat)
                    case atStart => exact ⟨0, by omega, rfl, Lib.hid (by rw [HC0.out]; exact HK1.out), HBK, HCK⟩
                    case round =>
                      clear b2 HK1 HBK HCK
                      obtain ⟨k, hk, rfl, HK, HBK, HCK⟩ := hrel
                      obtain ⟨wo, rfl⟩ : ∃ wo : World, wo = wr := ⟨_, rfl⟩
                      by_cases hlt : k < C.length
                      · obtain ⟨ha, hrange⟩ := HCR.out k hlt
                        have hw9 := HCW.out k hlt
                        have hc1 : chOk1 (chA C k) := hC1.out _ (atD_mem hlt)
                        have HS6 : Hid (chF (M.sec i).ch (C.take (k + 1)) = ch1 (chF (M.sec i).ch (C.take k)) (chA C k)) := Lib.hid (by
                          have e : C.take (k + 1) = C.take k ++ [chA C k] := by rw [List.take_add_one, List.getElem?_eq_getElem hlt]; simp [chA, atD, hlt]
                          rw [e, chF_snoc])
                        have hb0 : Below w0.heap.size w0 wo := H0.out.trans (HCK.out.below w0.heap.size H0.out.size HX0.out)
                        change w0.rangeAt bC (oC + k * 2) (chc (chA C k)) at hrange
                        generalize chA C k = x at *
                        obtain ⟨co, cx⟩ := x
                        have hrg : wo.rangeAt bC (oC + k * 2) (chc ⟨co, cx⟩) := fun j u hu => (hb0.cell (p := ⟨bC, oC + k * 2 + j, none⟩) (World.block_lt_of_cell? w0 _ (hrange j u hu))).trans (hrange j u hu)
                        obtain ⟨hc0, hc1'⟩ := rdc hrg
                        clear hrg hrange hb0
                        unfold chOk1 at hc1
                        simp only at hc0 hc1' hw9 hc1
                        obtain ⟨⟨x0, x1⟩, y0, y1⟩ := hc1
                        have hix := fun w' => run_idxS Tryz.underlying54 Tryz.sizeCh12 (cap := cC) ha hlt k rfl w'
                        clear ha
                        obtain ⟨L6, h6, g6, l6, e6, c6⟩ := HK.out
                        have hal := (Below.refl wo.heap.size wo).alloc (Nat.le_refl _) (.cells #[.int .i64 co, .int .i64 cx] 221)
                        have h7 := h6.below hal
                        have hi6 : i < L6.S.length := by rw [l6]; exact hiL
                        have s4 := h7.surf hi6 (j := 4) (by decide)
                        simp only [smD, List.getElem?_cons_zero, List.getElem?_cons_succ, c6, g6] at s4
                        have hW := h7.maps i false hi6
                        unfold SM.W at hW
                        rw [if_neg (by decide), c6, h7.at_ i, Med.put_sec _ _ hi0] at hW
                        change ChM _ _ (chF (M.sec i).ch (C.take k)) at hW
                        have hrun := hW.run co x0 x1
                        have hV : (b8 cx).toNat = cx := by unfold b8; rw [UInt8.toNat_ofNat']; omega
                        have hwr : IntKind.u8.wrap cx = cx := by simp [IntKind.wrap, IntKind.signed, IntKind.bits]; omega
                        have HBA := Lib.hid (HBK.out.call hal)
                        have HCA := Lib.hid (HCK.out.trans (Ch.of (X := X5) (R := R) hal))
                        have HW := Lib.hid hW
                        have H7 := Lib.hid h7
                        have G6 := Lib.hid g6
                        have L66 := Lib.hid l6
                        have E6 := Lib.hid e6
                        have C6 := Lib.hid c6
                        have hxor := xorB (chF (M.sec i).ch (C.take k) co.toNat) (b8 cx)
                        rw [hV] at hxor
                        clear hW h6 h7 g6 l6 e6 c6 hal
                        go_wp2_with fail
                        have HBN := Bx.new wo 221 [.int .i64 co, .int .i64 cx]
                        have v0 := HBN.cell (i := 0) rfl
                        have v1 := HBN.cell (i := 1) rfl
                        clear HBN
                        change (wo.alloc (.cells #[.int .i64 co, .int .i64 cx] 221)).cell? _ = _ at v0
                        change (wo.alloc (.cells #[.int .i64 co, .int .i64 cx] 221)).cell? _ = _ at v1
                        generalize (wo.alloc (.cells #[.int .i64 co, .int .i64 cx] 221)) = wa at *
                        have hWd : ChM wa.drew (some bC5) (chF (M.sec i).ch (C.take k)) := HW.out.kept fun _ _ => rfl
                        have hrun2 := hWd.run co x0 x1
                        have HWD := Lib.hid hWd
                        clear hWd hrun
                        go_still_tail 11, (by kernel_rfl)
                        repeat still_step
                        change wpList _ _ _ _ _ wa.drew
                        have h7d := H7.out.below ((Below.refl wa.heap.size _).drew)
                        have HBD := Lib.hid (HBA.out.call ((Below.refl wa.heap.size _).drew))
                        have HCD := Lib.hid (HCA.out.trans (Ch.of (X := X5) (R := R) ((Below.refl wa.heap.size _).drew)))
                        generalize wa.drew = wd at *
                        refine wpList_chPut rfl _ _ _ rfl HWD.out rfl rfl (chF (M.sec i).ch (C.take k) co.toNat ^^^ b8 cx) (by first | rfl | exact congrArg (Value.int .u8) hxor | (simp [hxor]; done)) x0 x1 ?_
                        intro w8 hm8 hg8
                        obtain ⟨L8, h8, g8, l8, e8, c8, k8⟩ := h7d.chStep hi6 C6.out hg8 hm8
                        have hF8 : (fun j : Nat => if (j : Int) = co then chF (M.sec i).ch (C.take k) co.toNat ^^^ b8 cx else chF (M.sec i).ch (C.take k) j) = chF (M.sec i).ch (C.take (k + 1)) := by
                          rw [HS6.out]
                          funext j
                          unfold ch1
                          by_cases e : (j : Int) = co
                          · have e2 : co.toNat = j := by omega
                            rw [if_pos e, if_pos e, e2]
                          · rw [if_neg e, if_neg e]
                        rw [Med.put_put, Med.put_sec _ _ hi0, hF8] at h8
                        have H8 := Lib.hid h8
                        have HB8 := Lib.hid ((k8.block w.heap.size HBD.out.lt HX5.out).trans HBD.out)
                        have HC8 := Lib.hid (HCD.out.trans k8)
                        have E8 := Lib.hid (And.intro (g8.trans G6.out) (And.intro (l8.trans L66.out) (And.intro (c8.trans E6.out) e8)))
                        clear h8 g8 l8 e8 c8 k8 h7d
                        go_wp2_with fail
                        go_roundw
                        case rel => exact ⟨k + 1, by omega, by go_num, Lib.hid ⟨L8, H8.out, E8.out.1, E8.out.2.1, E8.out.2.2.1, E8.out.2.2.2⟩, HB8, HC8⟩
                        case measure => simp [RowKit.intOf]; omega
                      · have hke : k = C.length := by omega
                        subst hke
                        have hk1 := HK.out
                        rw [List.take_length] at hk1
                        have HD : Hid (M.damage ⟨i, E, C⟩ = (0, M.put i { M.sec i with er := erF (M.sec i).er E, ch := chF (M.sec i).ch C })) := Lib.hid (by
                          unfold Med.damage
                          rw [if_pos hOk.out]
                          rfl)
                        have HZ : Hid (WrP (M.damage ⟨i, E, C⟩) g X R w (.returned (.int .i64 0)) wo) := Lib.hid (by
                          rw [HD.out]
                          obtain ⟨L9, h9, _⟩ := hk1
                          exact ⟨rfl, X5, R, ⟨L9, h9⟩, HCK.out⟩)
                        clear HK hk1 HD
                        go_wp2_with fail
                        go_ret
                        exact HZ.out
            · rcases hc : (atD sm0 L.S i).c with _ | bc
              · skip
                rw [he] at q3 n3
                rw [hc] at q4 n4
                have hal := hcr3.below ((Below.refl w3.heap.size w3).alloc (Nat.le_refl _) (.map #[] 0))
                have a3 := hal.surf hiL (j := 3) (by decide)
                have a4 := hal.surf hiL (j := 4) (by decide)
                simp only [smD, List.getElem?_cons_zero, List.getElem?_cons_succ, he, hc] at a3 a4
                have af3 := hal.sec.free (i * 5 + 3)
                have af4 := hal.sec.free (i * 5 + 4)
                obtain ⟨w4, hw4⟩ : ∃ w4, w4 = w3 := ⟨_, rfl⟩
                obtain ⟨L4, X4, h4, g4, l4, e4, c4, k4⟩ : ∃ L4 X4, MedC w4 g L4 M X4 R ∧ L4.gs = L.gs ∧ L4.S.length = L.S.length ∧ (atD sm0 L4.S i).e = some be ∧ (atD sm0 L4.S i).c = none ∧ Ch X R X4 R w3 w4 := ⟨L, X, by rw [hw4]; exact hcr3, rfl, rfl, he, hc, by rw [hw4]; exact .refl⟩
                have hi4 : i < L4.S.length := by rw [l4]; exact hiL
                have hal4 := h4.below ((Below.refl w4.heap.size w4).alloc (Nat.le_refl _) (.map #[] 0))
                have p4 := hal4.surf hi4 (j := 4) (by decide)
                simp only [smD, List.getElem?_cons_zero, List.getElem?_cons_succ, c4, g4] at p4
                have pf4 := hal4.sec.free (i * 5 + 4)
                rw [g4] at pf4
                obtain ⟨L5, X5, h5, g5, l5, e5, c5, k5⟩ := h4.newMap hi4 false c4
                change MedC ((w4.alloc (.map #[] 0)).setCell ⟨L4.gs, i * 5 + 4, none⟩ (.map (some w4.heap.size))) g L5 M X5 R at h5
                change Ch X4 R X5 R w4 ((w4.alloc (.map #[] 0)).setCell ⟨L4.gs, i * 5 + 4, none⟩ (.map (some w4.heap.size))) at k5
                change (atD sm0 L5.S i).c = some w4.heap.size at e5
                change (atD sm0 L5.S i).e = (atD sm0 L4.S i).e at c5
                rw [e4] at c5
                rw [g4] at h5 k5 g5
                rw [hw4] at p4 pf4
                obtain ⟨w5, hw5⟩ : ∃ w5, w5 = (w4.alloc (.map #[] 0)).setCell ⟨L.gs, i * 5 + 4, none⟩ (.map (some w4.heap.size)) := ⟨_, rfl⟩
                rw [← hw5] at h5 k5
                obtain ⟨bE5, hbE5⟩ : ∃ b, (atD sm0 L5.S i).e = some b := ⟨_, c5⟩
                obtain ⟨bC5, hbC5⟩ : ∃ b, (atD sm0 L5.S i).c = some b := ⟨_, e5⟩
                have K5 := Lib.hid (k4.trans k5)
                have LL5 := Lib.hid (l5.trans l4)
                clear e5 c5 l5 k5 hal4
                have H5 := Lib.hid h5
                have G5 := Lib.hid g5
                have BE5 := Lib.hid hbE5
                have BC5 := Lib.hid hbC5
                have HW4 := Lib.hid hw4
                have HW5 := Lib.hid hw5
                clear he hc hcr3 hal h4 g4 l4 e4 c4 k4 h5 g5 hw4 hw5 hbE5 hbC5
                have hmm := @run_makeMap Tryz.prog
                go_upto_region 20 with (fail)
                have e5 : ((w3.alloc (.map #[] 0)).setCell ⟨L.gs, i * 5 + 4, none⟩ (.map (some w3.heap.size))) = w5 := by rw [HW5.out, HW4.out]
                rw [e5]
                clear e5 hmm HW4 HW5 a3 a4 af3 af4 p4 pf4 hi4
                clear b0 b1 b2 q3 q4 n3 n4 f3 f4
                have hbx5 : Bx w5 w.heap.size 56 [.int .i64 i, .slice aE E.length cE, .slice aC C.length cC] := (K5.out.block w.heap.size HBX3.out.lt (fun h => by have := HM.out.lt _ (.inl h); omega)).trans HBX3.out
                have hch5 : Ch X R X5 R w w5 := (Ch.of HB3.out).trans K5.out
                have b1 := hbx5.cell (i := 1) rfl
                have HBX5 := Lib.hid hbx5
                have HCH5 := Lib.hid hch5
                have HE0 : Hid (M.put i { M.sec i with er := erF (M.sec i).er (E.take 0) } = M) := Lib.hid (by rw [List.take_zero, erF_nil]; exact Med.put_self M (by have := H5.out.n; omega))
                have HX5 : Hid (¬ X5 w.heap.size) := Lib.hid fun h => (K5.out.x _ h).elim (fun h2 => by have := HM.out.lt _ (.inl h2); omega) (fun h2 => by have := HBX3.out.lt; omega)
                clear hbx5 hch5
                go_wp2_with fail
                go_loopw [95] (fun vk wr => ∃ k : Nat, k ≤ E.length ∧ vk = .int .i64 k ∧ Hid (∃ L', MedC wr g L' (M.put i { M.sec i with er := erF (M.sec i).er (E.take k) }) X5 R ∧ L'.gs = L.gs ∧ L'.S.length = L.S.length ∧ (atD sm0 L'.S i).e = some bE5 ∧ (atD sm0 L'.S i).c = some bC5) ∧ Hid (Bx wr w.heap.size 56 [.int .i64 i, .slice aE E.length cE, .slice aC C.length cC]) ∧ Hid (Ch X R X5 R w wr)) (fun vk _ => E.length - (RowKit.intOf vk).toNat)
                case atStart => exact ⟨0, by omega, rfl, Lib.hid ⟨L5, by rw [HE0.out]; exact H5.out, G5.out, LL5.out, BE5.out, BC5.out⟩, HBX5, HCH5⟩
                case round =>
                  clear b1
                  obtain ⟨k, hk, rfl, HK, HBK, HCK⟩ := hrel
                  by_cases hlt : k < E.length
                  · obtain ⟨ha, hcell0⟩ := HER.out k hlt
                    obtain ⟨L6, h6, g6, l6, e6, c6⟩ := HK.out
                    have hb0 : Below w0.heap.size w0 wr := H0.out.trans (HCK.out.below w0.heap.size H0.out.size HX0.out)
                    have hcell := (hb0.cell (p := ⟨bE, oE + k, none⟩) (World.block_lt_of_cell? w0 _ hcell0)).trans hcell0
                    have hx := hE1.out.1 (ixI E k) (W8.ixI_mem hlt)
                    have hix := fun w' => run_idxS Tryz.underlying53 Tryz.sizeInt9 (cap := cE) ha hlt k rfl w'
                    simp only [Nat.mul_one] at hix
                    have hi6 : i < L6.S.length := by rw [l6]; exact hiL
                    have hiM : i < M.n := by have := HM.out.n; omega
                    have s3 := h6.surf hi6 (j := 3) (by decide)
                    simp only [smD, List.getElem?_cons_zero, List.getElem?_cons_succ, e6, g6] at s3
                    have hW := h6.maps i true hi6
                    unfold SM.W at hW
                    rw [if_pos rfl, e6, h6.at_ i, Med.put_sec _ _ hiM] at hW
                    have HER6 := Lib.hid hW
                    have HF6 : Hid (∀ j, erF (M.sec i).er (E.take k) j = true → j < 2352) := Lib.hid fun j hj => by
                      simp only [erF, Bool.or_eq_true, decide_eq_true_eq] at hj
                      rcases hj with hj | hj
                      · exact (HO.out.sec i hiM).er j hj
                      · have := hE1.out.1 _ (List.mem_of_mem_take hj); omega
                    have HS6 : Hid (erF (M.sec i).er (E.take (k + 1)) = fun j : Nat => if (j : Int) = ixI E k then true else erF (M.sec i).er (E.take k) j) := Lib.hid (by
                      have e : E.take (k + 1) = E.take k ++ [ixI E k] := by rw [List.take_add_one, List.getElem?_eq_getElem hlt, W8.ixI_get hlt]; rfl
                      rw [e, erF_snoc])
                    have H6 := Lib.hid h6
                    have G6 := Lib.hid g6
                    have L66 := Lib.hid l6
                    have E6 := Lib.hid e6
                    have C6 := Lib.hid c6
                    generalize ixI E k = x at *
                    clear ha hcell0 hb0 hW h6 g6 l6 e6 c6
                    obtain ⟨hx0, hx1⟩ := hx
                    go_wp2_with (refine wpList_erPut rfl _ _ _ rfl HER6.out rfl rfl rfl hx0 hx1 HF6.out ?_; intro w7 hm7 hg7)
                    obtain ⟨L7, h7, g7, l7, e7, c7, k7⟩ := H6.out.erStep (by rw [L66.out]; exact hiL) E6.out hg7 hm7
                    rw [Med.put_put, Med.put_sec _ _ (by have := HM.out.n; omega), ← HS6.out] at h7
                    have H7 := Lib.hid h7
                    have HB7 := Lib.hid ((k7.block w.heap.size HBK.out.lt HX5.out).trans HBK.out)
                    have HC7 := Lib.hid (HCK.out.trans k7)
                    have E7 := Lib.hid (And.intro (g7.trans G6.out) (And.intro (l7.trans L66.out) (And.intro e7 (c7.trans C6.out))))
                    clear h7 g7 l7 e7 c7 k7
                    go_roundw
                    case rel => exact ⟨k + 1, by omega, by go_num, Lib.hid ⟨L7, H7.out, E7.out⟩, HB7, HC7⟩
                    case measure => simp [RowKit.intOf]; omega
                  · have hke : k = E.length := by omega
                    subst hke
                    have hk1 := HK.out
                    rw [List.take_length] at hk1
                    have HK1 := Lib.hid hk1
                    have b2 := HBK.out.cell (i := 2) rfl
                    have hi0 : i < M.n := by have := HM.out.n; omega
                    have HC0 : Hid (chF (M.sec i).ch (C.take 0) = (M.sec i).ch) := Lib.hid rfl
                    clear HK hk1
                    go_wp2_with fail
                    go_loopw [108] (fun vk wr => ∃ k : Nat, k ≤ C.length ∧ vk = .int .i64 k ∧ Hid (∃ L', MedC wr g L' (M.put i { M.sec i with er := erF (M.sec i).er E, ch := chF (M.sec i).ch (C.take k) }) X5 R ∧ L'.gs = L.gs ∧ L'.S.length = L.S.length ∧ (atD sm0 L'.S i).e = some bE5 ∧ (atD sm0 L'.S i).c = some bC5) ∧ Hid (Bx wr w.heap.size 56 [.int .i64 i, .slice aE E.length cE, .slice aC C.length cC]) ∧ Hid (Ch X R X5 R w wr)) (fun vk _ => C.length - (RowKit.intOf vk).toNat)
                    case atStart => exact ⟨0, by omega, rfl, Lib.hid (by rw [HC0.out]; exact HK1.out), HBK, HCK⟩
                    case round =>
                      clear b2 HK1 HBK HCK
                      obtain ⟨k, hk, rfl, HK, HBK, HCK⟩ := hrel
                      obtain ⟨wo, rfl⟩ : ∃ wo : World, wo = wr := ⟨_, rfl⟩
                      by_cases hlt : k < C.length
                      · obtain ⟨ha, hrange⟩ := HCR.out k hlt
                        have hw9 := HCW.out k hlt
                        have hc1 : chOk1 (chA C k) := hC1.out _ (atD_mem hlt)
                        have HS6 : Hid (chF (M.sec i).ch (C.take (k + 1)) = ch1 (chF (M.sec i).ch (C.take k)) (chA C k)) := Lib.hid (by
                          have e : C.take (k + 1) = C.take k ++ [chA C k] := by rw [List.take_add_one, List.getElem?_eq_getElem hlt]; simp [chA, atD, hlt]
                          rw [e, chF_snoc])
                        have hb0 : Below w0.heap.size w0 wo := H0.out.trans (HCK.out.below w0.heap.size H0.out.size HX0.out)
                        change w0.rangeAt bC (oC + k * 2) (chc (chA C k)) at hrange
                        generalize chA C k = x at *
                        obtain ⟨co, cx⟩ := x
                        have hrg : wo.rangeAt bC (oC + k * 2) (chc ⟨co, cx⟩) := fun j u hu => (hb0.cell (p := ⟨bC, oC + k * 2 + j, none⟩) (World.block_lt_of_cell? w0 _ (hrange j u hu))).trans (hrange j u hu)
                        obtain ⟨hc0, hc1'⟩ := rdc hrg
                        clear hrg hrange hb0
                        unfold chOk1 at hc1
                        simp only at hc0 hc1' hw9 hc1
                        obtain ⟨⟨x0, x1⟩, y0, y1⟩ := hc1
                        have hix := fun w' => run_idxS Tryz.underlying54 Tryz.sizeCh12 (cap := cC) ha hlt k rfl w'
                        clear ha
                        obtain ⟨L6, h6, g6, l6, e6, c6⟩ := HK.out
                        have hal := (Below.refl wo.heap.size wo).alloc (Nat.le_refl _) (.cells #[.int .i64 co, .int .i64 cx] 221)
                        have h7 := h6.below hal
                        have hi6 : i < L6.S.length := by rw [l6]; exact hiL
                        have s4 := h7.surf hi6 (j := 4) (by decide)
                        simp only [smD, List.getElem?_cons_zero, List.getElem?_cons_succ, c6, g6] at s4
                        have hW := h7.maps i false hi6
                        unfold SM.W at hW
                        rw [if_neg (by decide), c6, h7.at_ i, Med.put_sec _ _ hi0] at hW
                        change ChM _ _ (chF (M.sec i).ch (C.take k)) at hW
                        have hrun := hW.run co x0 x1
                        have hV : (b8 cx).toNat = cx := by unfold b8; rw [UInt8.toNat_ofNat']; omega
                        have hwr : IntKind.u8.wrap cx = cx := by simp [IntKind.wrap, IntKind.signed, IntKind.bits]; omega
                        have HBA := Lib.hid (HBK.out.call hal)
                        have HCA := Lib.hid (HCK.out.trans (Ch.of (X := X5) (R := R) hal))
                        have HW := Lib.hid hW
                        have H7 := Lib.hid h7
                        have G6 := Lib.hid g6
                        have L66 := Lib.hid l6
                        have E6 := Lib.hid e6
                        have C6 := Lib.hid c6
                        have hxor := xorB (chF (M.sec i).ch (C.take k) co.toNat) (b8 cx)
                        rw [hV] at hxor
                        clear hW h6 h7 g6 l6 e6 c6 hal
                        go_wp2_with fail
                        have HBN := Bx.new wo 221 [.int .i64 co, .int .i64 cx]
                        have v0 := HBN.cell (i := 0) rfl
                        have v1 := HBN.cell (i := 1) rfl
                        clear HBN
                        change (wo.alloc (.cells #[.int .i64 co, .int .i64 cx] 221)).cell? _ = _ at v0
                        change (wo.alloc (.cells #[.int .i64 co, .int .i64 cx] 221)).cell? _ = _ at v1
                        generalize (wo.alloc (.cells #[.int .i64 co, .int .i64 cx] 221)) = wa at *
                        have hWd : ChM wa.drew (some bC5) (chF (M.sec i).ch (C.take k)) := HW.out.kept fun _ _ => rfl
                        have hrun2 := hWd.run co x0 x1
                        have HWD := Lib.hid hWd
                        clear hWd hrun
                        go_still_tail 11, (by kernel_rfl)
                        repeat still_step
                        change wpList _ _ _ _ _ wa.drew
                        have h7d := H7.out.below ((Below.refl wa.heap.size _).drew)
                        have HBD := Lib.hid (HBA.out.call ((Below.refl wa.heap.size _).drew))
                        have HCD := Lib.hid (HCA.out.trans (Ch.of (X := X5) (R := R) ((Below.refl wa.heap.size _).drew)))
                        generalize wa.drew = wd at *
                        refine wpList_chPut rfl _ _ _ rfl HWD.out rfl rfl (chF (M.sec i).ch (C.take k) co.toNat ^^^ b8 cx) (by first | rfl | exact congrArg (Value.int .u8) hxor | (simp [hxor]; done)) x0 x1 ?_
                        intro w8 hm8 hg8
                        obtain ⟨L8, h8, g8, l8, e8, c8, k8⟩ := h7d.chStep hi6 C6.out hg8 hm8
                        have hF8 : (fun j : Nat => if (j : Int) = co then chF (M.sec i).ch (C.take k) co.toNat ^^^ b8 cx else chF (M.sec i).ch (C.take k) j) = chF (M.sec i).ch (C.take (k + 1)) := by
                          rw [HS6.out]
                          funext j
                          unfold ch1
                          by_cases e : (j : Int) = co
                          · have e2 : co.toNat = j := by omega
                            rw [if_pos e, if_pos e, e2]
                          · rw [if_neg e, if_neg e]
                        rw [Med.put_put, Med.put_sec _ _ hi0, hF8] at h8
                        have H8 := Lib.hid h8
                        have HB8 := Lib.hid ((k8.block w.heap.size HBD.out.lt HX5.out).trans HBD.out)
                        have HC8 := Lib.hid (HCD.out.trans k8)
                        have E8 := Lib.hid (And.intro (g8.trans G6.out) (And.intro (l8.trans L66.out) (And.intro (c8.trans E6.out) e8)))
                        clear h8 g8 l8 e8 c8 k8 h7d
                        go_wp2_with fail
                        go_roundw
                        case rel => exact ⟨k + 1, by omega, by go_num, Lib.hid ⟨L8, H8.out, E8.out.1, E8.out.2.1, E8.out.2.2.1, E8.out.2.2.2⟩, HB8, HC8⟩
                        case measure => simp [RowKit.intOf]; omega
                      · have hke : k = C.length := by omega
                        subst hke
                        have hk1 := HK.out
                        rw [List.take_length] at hk1
                        have HD : Hid (M.damage ⟨i, E, C⟩ = (0, M.put i { M.sec i with er := erF (M.sec i).er E, ch := chF (M.sec i).ch C })) := Lib.hid (by
                          unfold Med.damage
                          rw [if_pos hOk.out]
                          rfl)
                        have HZ : Hid (WrP (M.damage ⟨i, E, C⟩) g X R w (.returned (.int .i64 0)) wo) := Lib.hid (by
                          rw [HD.out]
                          obtain ⟨L9, h9, _⟩ := hk1
                          exact ⟨rfl, X5, R, ⟨L9, h9⟩, HCK.out⟩)
                        clear HK hk1 HD
                        go_wp2_with fail
                        go_ret
                        exact HZ.out
              · skip
                rw [he] at q3 n3
                rw [hc] at q4 n4
                have hal := hcr3.below ((Below.refl w3.heap.size w3).alloc (Nat.le_refl _) (.map #[] 0))
                have a3 := hal.surf hiL (j := 3) (by decide)
                have a4 := hal.surf hiL (j := 4) (by decide)
                simp only [smD, List.getElem?_cons_zero, List.getElem?_cons_succ, he, hc] at a3 a4
                have af3 := hal.sec.free (i * 5 + 3)
                have af4 := hal.sec.free (i * 5 + 4)
                obtain ⟨w4, hw4⟩ : ∃ w4, w4 = w3 := ⟨_, rfl⟩
                obtain ⟨L4, X4, h4, g4, l4, e4, c4, k4⟩ : ∃ L4 X4, MedC w4 g L4 M X4 R ∧ L4.gs = L.gs ∧ L4.S.length = L.S.length ∧ (atD sm0 L4.S i).e = some be ∧ (atD sm0 L4.S i).c = some bc ∧ Ch X R X4 R w3 w4 := ⟨L, X, by rw [hw4]; exact hcr3, rfl, rfl, he, hc, by rw [hw4]; exact .refl⟩
                have hi4 : i < L4.S.length := by rw [l4]; exact hiL
                obtain ⟨w5, hw5⟩ : ∃ w5, w5 = w4 := ⟨_, rfl⟩
                obtain ⟨L5, X5, h5, g5, hl5, bE5, bC5, hbE5, hbC5, k5⟩ : ∃ L5 X5, MedC w5 g L5 M X5 R ∧ L5.gs = L.gs ∧ L5.S.length = L.S.length ∧ ∃ bE5 bC5, (atD sm0 L5.S i).e = some bE5 ∧ (atD sm0 L5.S i).c = some bC5 ∧ Ch X R X5 R w3 w5 := ⟨L4, X4, by rw [hw5]; exact h4, g4, l4, _, _, e4, c4, by rw [hw5]; exact k4⟩
                have K5 := Lib.hid k5
                have LL5 := Lib.hid hl5
                clear k5 hl5
                have H5 := Lib.hid h5
                have G5 := Lib.hid g5
                have BE5 := Lib.hid hbE5
                have BC5 := Lib.hid hbC5
                have HW4 := Lib.hid hw4
                have HW5 := Lib.hid hw5
                clear he hc hcr3 hal h4 g4 l4 e4 c4 k4 h5 g5 hw4 hw5 hbE5 hbC5
                have hmm := @run_makeMap Tryz.prog
                go_upto_region 20 with (fail)
                have e5 : w3 = w5 := by rw [HW5.out, HW4.out]
                rw [e5]
                clear e5 hmm HW4 HW5 a3 a4 af3 af4 hi4
                clear b0 b1 b2 q3 q4 n3 n4 f3 f4
                have hbx5 : Bx w5 w.heap.size 56 [.int .i64 i, .slice aE E.length cE, .slice aC C.length cC] := (K5.out.block w.heap.size HBX3.out.lt (fun h => by have := HM.out.lt _ (.inl h); omega)).trans HBX3.out
                have hch5 : Ch X R X5 R w w5 := (Ch.of HB3.out).trans K5.out
                have b1 := hbx5.cell (i := 1) rfl
                have HBX5 := Lib.hid hbx5
                have HCH5 := Lib.hid hch5
                have HE0 : Hid (M.put i { M.sec i with er := erF (M.sec i).er (E.take 0) } = M) := Lib.hid (by rw [List.take_zero, erF_nil]; exact Med.put_self M (by have := H5.out.n; omega))
                have HX5 : Hid (¬ X5 w.heap.size) := Lib.hid fun h => (K5.out.x _ h).elim (fun h2 => by have := HM.out.lt _ (.inl h2); omega) (fun h2 => by have := HBX3.out.lt; omega)
                clear hbx5 hch5
                go_wp2_with fail
                go_loopw [95] (fun vk wr => ∃ k : Nat, k ≤ E.length ∧ vk = .int .i64 k ∧ Hid (∃ L', MedC wr g L' (M.put i { M.sec i with er := erF (M.sec i).er (E.take k) }) X5 R ∧ L'.gs = L.gs ∧ L'.S.length = L.S.length ∧ (atD sm0 L'.S i).e = some bE5 ∧ (atD sm0 L'.S i).c = some bC5) ∧ Hid (Bx wr w.heap.size 56 [.int .i64 i, .slice aE E.length cE, .slice aC C.length cC]) ∧ Hid (Ch X R X5 R w wr)) (fun vk _ => E.length - (RowKit.intOf vk).toNat)
                case atStart => exact ⟨0, by omega, rfl, Lib.hid ⟨L5, by rw [HE0.out]; exact H5.out, G5.out, LL5.out, BE5.out, BC5.out⟩, HBX5, HCH5⟩
                case round =>
                  clear b1
                  obtain ⟨k, hk, rfl, HK, HBK, HCK⟩ := hrel
                  by_cases hlt : k < E.length
                  · obtain ⟨ha, hcell0⟩ := HER.out k hlt
                    obtain ⟨L6, h6, g6, l6, e6, c6⟩ := HK.out
                    have hb0 : Below w0.heap.size w0 wr := H0.out.trans (HCK.out.below w0.heap.size H0.out.size HX0.out)
                    have hcell := (hb0.cell (p := ⟨bE, oE + k, none⟩) (World.block_lt_of_cell? w0 _ hcell0)).trans hcell0
                    have hx := hE1.out.1 (ixI E k) (W8.ixI_mem hlt)
                    have hix := fun w' => run_idxS Tryz.underlying53 Tryz.sizeInt9 (cap := cE) ha hlt k rfl w'
                    simp only [Nat.mul_one] at hix
                    have hi6 : i < L6.S.length := by rw [l6]; exact hiL
                    have hiM : i < M.n := by have := HM.out.n; omega
                    have s3 := h6.surf hi6 (j := 3) (by decide)
                    simp only [smD, List.getElem?_cons_zero, List.getElem?_cons_succ, e6, g6] at s3
                    have hW := h6.maps i true hi6
                    unfold SM.W at hW
                    rw [if_pos rfl, e6, h6.at_ i, Med.put_sec _ _ hiM] at hW
                    have HER6 := Lib.hid hW
                    have HF6 : Hid (∀ j, erF (M.sec i).er (E.take k) j = true → j < 2352) := Lib.hid fun j hj => by
                      simp only [erF, Bool.or_eq_true, decide_eq_true_eq] at hj
                      rcases hj with hj | hj
                      · exact (HO.out.sec i hiM).er j hj
                      · have := hE1.out.1 _ (List.mem_of_mem_take hj); omega
                    have HS6 : Hid (erF (M.sec i).er (E.take (k + 1)) = fun j : Nat => if (j : Int) = ixI E k then true else erF (M.sec i).er (E.take k) j) := Lib.hid (by
                      have e : E.take (k + 1) = E.take k ++ [ixI E k] := by rw [List.take_add_one, List.getElem?_eq_getElem hlt, W8.ixI_get hlt]; rfl
                      rw [e, erF_snoc])
                    have H6 := Lib.hid h6
                    have G6 := Lib.hid g6
                    have L66 := Lib.hid l6
                    have E6 := Lib.hid e6
                    have C6 := Lib.hid c6
                    generalize ixI E k = x at *
                    clear ha hcell0 hb0 hW h6 g6 l6 e6 c6
                    obtain ⟨hx0, hx1⟩ := hx
                    go_wp2_with (refine wpList_erPut rfl _ _ _ rfl HER6.out rfl rfl rfl hx0 hx1 HF6.out ?_; intro w7 hm7 hg7)
                    obtain ⟨L7, h7, g7, l7, e7, c7, k7⟩ := H6.out.erStep (by rw [L66.out]; exact hiL) E6.out hg7 hm7
                    rw [Med.put_put, Med.put_sec _ _ (by have := HM.out.n; omega), ← HS6.out] at h7
                    have H7 := Lib.hid h7
                    have HB7 := Lib.hid ((k7.block w.heap.size HBK.out.lt HX5.out).trans HBK.out)
                    have HC7 := Lib.hid (HCK.out.trans k7)
                    have E7 := Lib.hid (And.intro (g7.trans G6.out) (And.intro (l7.trans L66.out) (And.intro e7 (c7.trans C6.out))))
                    clear h7 g7 l7 e7 c7 k7
                    go_roundw
                    case rel => exact ⟨k + 1, by omega, by go_num, Lib.hid ⟨L7, H7.out, E7.out⟩, HB7, HC7⟩
                    case measure => simp [RowKit.intOf]; omega
                  · have hke : k = E.length := by omega
                    subst hke
                    have hk1 := HK.out
                    rw [List.take_length] at hk1
                    have HK1 := Lib.hid hk1
                    have b2 := HBK.out.cell (i := 2) rfl
                    have hi0 : i < M.n := by have := HM.out.n; omega
                    have HC0 : Hid (chF (M.sec i).ch (C.take 0) = (M.sec i).ch) := Lib.hid rfl
                    clear HK hk1
                    go_wp2_with fail
                    go_loopw [108] (fun vk wr => ∃ k : Nat, k ≤ C.length ∧ vk = .int .i64 k ∧ Hid (∃ L', MedC wr g L' (M.put i { M.sec i with er := erF (M.sec i).er E, ch := chF (M.sec i).ch (C.take k) }) X5 R ∧ L'.gs = L.gs ∧ L'.S.length = L.S.length ∧ (atD sm0 L'.S i).e = some bE5 ∧ (atD sm0 L'.S i).c = some bC5) ∧ Hid (Bx wr w.heap.size 56 [.int .i64 i, .slice aE E.length cE, .slice aC C.length cC]) ∧ Hid (Ch X R X5 R w wr)) (fun vk _ => C.length - (RowKit.intOf vk).toNat)
                    case atStart => exact ⟨0, by omega, rfl, Lib.hid (by rw [HC0.out]; exact HK1.out), HBK, HCK⟩
                    case round =>
                      clear b2 HK1 HBK HCK
                      obtain ⟨k, hk, rfl, HK, HBK, HCK⟩ := hrel
                      obtain ⟨wo, rfl⟩ : ∃ wo : World, wo = wr := ⟨_, rfl⟩
                      by_cases hlt : k < C.length
                      · obtain ⟨ha, hrange⟩ := HCR.out k hlt
                        have hw9 := HCW.out k hlt
                        have hc1 : chOk1 (chA C k) := hC1.out _ (atD_mem hlt)
                        have HS6 : Hid (chF (M.sec i).ch (C.take (k + 1)) = ch1 (chF (M.sec i).ch (C.take k)) (chA C k)) := Lib.hid (by
                          have e : C.take (k + 1) = C.take k ++ [chA C k] := by rw [List.take_add_one, List.getElem?_eq_getElem hlt]; simp [chA, atD, hlt]
                          rw [e, chF_snoc])
                        have hb0 : Below w0.heap.size w0 wo := H0.out.trans (HCK.out.below w0.heap.size H0.out.size HX0.out)
                        change w0.rangeAt bC (oC + k * 2) (chc (chA C k)) at hrange
                        generalize chA C k = x at *
                        obtain ⟨co, cx⟩ := x
                        have hrg : wo.rangeAt bC (oC + k * 2) (chc ⟨co, cx⟩) := fun j u hu => (hb0.cell (p := ⟨bC, oC + k * 2 + j, none⟩) (World.block_lt_of_cell? w0 _ (hrange j u hu))).trans (hrange j u hu)
                        obtain ⟨hc0, hc1'⟩ := rdc hrg
                        clear hrg hrange hb0
                        unfold chOk1 at hc1
                        simp only at hc0 hc1' hw9 hc1
                        obtain ⟨⟨x0, x1⟩, y0, y1⟩ := hc1
                        have hix := fun w' => run_idxS Tryz.underlying54 Tryz.sizeCh12 (cap := cC) ha hlt k rfl w'
                        clear ha
                        obtain ⟨L6, h6, g6, l6, e6, c6⟩ := HK.out
                        have hal := (Below.refl wo.heap.size wo).alloc (Nat.le_refl _) (.cells #[.int .i64 co, .int .i64 cx] 221)
                        have h7 := h6.below hal
                        have hi6 : i < L6.S.length := by rw [l6]; exact hiL
                        have s4 := h7.surf hi6 (j := 4) (by decide)
                        simp only [smD, List.getElem?_cons_zero, List.getElem?_cons_succ, c6, g6] at s4
                        have hW := h7.maps i false hi6
                        unfold SM.W at hW
                        rw [if_neg (by decide), c6, h7.at_ i, Med.put_sec _ _ hi0] at hW
                        change ChM _ _ (chF (M.sec i).ch (C.take k)) at hW
                        have hrun := hW.run co x0 x1
                        have hV : (b8 cx).toNat = cx := by unfold b8; rw [UInt8.toNat_ofNat']; omega
                        have hwr : IntKind.u8.wrap cx = cx := by simp [IntKind.wrap, IntKind.signed, IntKind.bits]; omega
                        have HBA := Lib.hid (HBK.out.call hal)
                        have HCA := Lib.hid (HCK.out.trans (Ch.of (X := X5) (R := R) hal))
                        have HW := Lib.hid hW
                        have H7 := Lib.hid h7
                        have G6 := Lib.hid g6
                        have L66 := Lib.hid l6
                        have E6 := Lib.hid e6
                        have C6 := Lib.hid c6
                        have hxor := xorB (chF (M.sec i).ch (C.take k) co.toNat) (b8 cx)
                        rw [hV] at hxor
                        clear hW h6 h7 g6 l6 e6 c6 hal
                        go_wp2_with fail
                        have HBN := Bx.new wo 221 [.int .i64 co, .int .i64 cx]
                        have v0 := HBN.cell (i := 0) rfl
                        have v1 := HBN.cell (i := 1) rfl
                        clear HBN
                        change (wo.alloc (.cells #[.int .i64 co, .int .i64 cx] 221)).cell? _ = _ at v0
                        change (wo.alloc (.cells #[.int .i64 co, .int .i64 cx] 221)).cell? _ = _ at v1
                        generalize (wo.alloc (.cells #[.int .i64 co, .int .i64 cx] 221)) = wa at *
                        have hWd : ChM wa.drew (some bC5) (chF (M.sec i).ch (C.take k)) := HW.out.kept fun _ _ => rfl
                        have hrun2 := hWd.run co x0 x1
                        have HWD := Lib.hid hWd
                        clear hWd hrun
                        go_still_tail 11, (by kernel_rfl)
                        repeat still_step
                        change wpList _ _ _ _ _ wa.drew
                        have h7d := H7.out.below ((Below.refl wa.heap.size _).drew)
                        have HBD := Lib.hid (HBA.out.call ((Below.refl wa.heap.size _).drew))
                        have HCD := Lib.hid (HCA.out.trans (Ch.of (X := X5) (R := R) ((Below.refl wa.heap.size _).drew)))
                        generalize wa.drew = wd at *
                        refine wpList_chPut rfl _ _ _ rfl HWD.out rfl rfl (chF (M.sec i).ch (C.take k) co.toNat ^^^ b8 cx) (by first | rfl | exact congrArg (Value.int .u8) hxor | (simp [hxor]; done)) x0 x1 ?_
                        intro w8 hm8 hg8
                        obtain ⟨L8, h8, g8, l8, e8, c8, k8⟩ := h7d.chStep hi6 C6.out hg8 hm8
                        have hF8 : (fun j : Nat => if (j : Int) = co then chF (M.sec i).ch (C.take k) co.toNat ^^^ b8 cx else chF (M.sec i).ch (C.take k) j) = chF (M.sec i).ch (C.take (k + 1)) := by
                          rw [HS6.out]
                          funext j
                          unfold ch1
                          by_cases e : (j : Int) = co
                          · have e2 : co.toNat = j := by omega
                            rw [if_pos e, if_pos e, e2]
                          · rw [if_neg e, if_neg e]
                        rw [Med.put_put, Med.put_sec _ _ hi0, hF8] at h8
                        have H8 := Lib.hid h8
                        have HB8 := Lib.hid ((k8.block w.heap.size HBD.out.lt HX5.out).trans HBD.out)
                        have HC8 := Lib.hid (HCD.out.trans k8)
                        have E8 := Lib.hid (And.intro (g8.trans G6.out) (And.intro (l8.trans L66.out) (And.intro (c8.trans E6.out) e8)))
                        clear h8 g8 l8 e8 c8 k8 h7d
                        go_wp2_with fail
                        go_roundw
                        case rel => exact ⟨k + 1, by omega, by go_num, Lib.hid ⟨L8, H8.out, E8.out.1, E8.out.2.1, E8.out.2.2.1, E8.out.2.2.2⟩, HB8, HC8⟩
                        case measure => simp [RowKit.intOf]; omega
                      · have hke : k = C.length := by omega
                        subst hke
                        have hk1 := HK.out
                        rw [List.take_length] at hk1
                        have HD : Hid (M.damage ⟨i, E, C⟩ = (0, M.put i { M.sec i with er := erF (M.sec i).er E, ch := chF (M.sec i).ch C })) := Lib.hid (by
                          unfold Med.damage
                          rw [if_pos hOk.out]
                          rfl)
                        have HZ : Hid (WrP (M.damage ⟨i, E, C⟩) g X R w (.returned (.int .i64 0)) wo) := Lib.hid (by
                          rw [HD.out]
                          obtain ⟨L9, h9, _⟩ := hk1
                          exact ⟨rfl, X5, R, ⟨L9, h9⟩, HCK.out⟩)
                        clear HK hk1 HD
                        go_wp2_with fail
                        go_ret
                        exact HZ.out
  · rw [decide_eq_false hr] at HH
    have HR := Lib.hid (HNO.out _ hA fun h2 => hr h2.1)
    clear hA hB hcA HNO
    go_enter Tryz.func67, Tryz.ntmps67
    unfold damv
    go_wp2_with fail
    refine HH.out.mono ?_
    rintro e w' ⟨rfl, rfl⟩
    go_wp2_with fail
    go_ret
    exact HR.out
end Go.Proofs.YtflmjdjkfognjaaGreat.D12
