/- Chapter 10: Collect of the reference walked. -/
import Derived.Test.YtenbafolmmemgaaQcw
import Derived.Test.YtenbafolmmemgaaQre
import Derived.Deep.CutBlock
import Derived.Deep.DeepCutAuto
namespace Go.Proofs.Ytenbafolmmemgaa.W10
open Go.RowKit
set_option linter.unusedVariables false

set_option maxRecDepth 100000 in
set_option maxHeartbeats 2000000 in
theorem rcol_short (v : Value) (l : List Q.Fr) (w : World) (hr : RdF w v l) (hn : l.length < 4) : Calls Try.prog 20 #[v] w (ColP (colR l) w) := by
  have hno := ColP.none w w (Below.refl _ _) (l := l) (fun h => by have := h.1; omega)
  have HNO := Lib.hid hno
  clear hno
  obtain ⟨a, c, rfl, hac⟩ := RdD.form hr
  have hd : decide ((l.length : Int) < 4) = true := decide_eq_true (by omega)
  clear hr
  go_enter Try.func20, Try.ntmps20
  go_wp2_with fail
  go_ret3
  exact HNO.out
set_option maxRecDepth 100000 in
set_option maxHeartbeats 2000000 in
theorem rcol_long (v : Value) (l : List Q.Fr) (w : World) (hr : RdF w v l) (hn : 102 < l.length) (hn2 : l.length ≤ 120) : Calls Try.prog 20 #[v] w (ColP (colR l) w) := by
  have hno := ColP.none w w (Below.refl _ _) (l := l) (fun h => by have := (col_iff l).1 h; have := this.2.1; omega)
  have HNO := Lib.hid hno
  clear hno
  obtain ⟨a, c, rfl, hac⟩ := RdD.form hr
  have hd : decide ((l.length : Int) < 4) = false := decide_eq_false (by omega)
  have hd2 : decide (102 < (l.length : Int)) = true := decide_eq_true (by omega)
  clear hr
  go_enter Try.func20, Try.ntmps20
  go_wp2_with fail
  go_ret3
  exact HNO.out
theorem ownD_keptR {w W : World} {b e sz n : Nat} {v : Value} {xs : List Value} {r : Option Nat} (h : w.ownsRow b e sz v n xs) (hk : KeptR r w W) (hr : ∀ k, v.ownBlock = some k → some k ≠ r) : W.ownsRow b e sz v n xs := by
  refine ⟨h.1, ?_⟩
  rcases h.2 with h | ⟨g, cap, cur, rfl, hb, hh, rest⟩
  · exact .inl h
  · exact .inr ⟨g, cap, cur, rfl, hb, (hk.2 g (Array.getElem?_eq_some_iff.1 hh).1 (hr g rfl)).trans hh, rest⟩
theorem rk_wf {l : List Q.Fr} {m : Nat} : WfL (rkL l m m) := by
  intro i hi
  rw [rkL_length] at hi
  rw [tr_rk l m m i hi]
  have h2 : -150 ≤ stL l i ∧ stL l i ≤ 449849 := lbV_bd _
  have h3 := lnL_bd l m i
  have h1 : -9223372036854775808 ≤ IntKind.i64.wrap ((fr l 0).am + i) ∧ IntKind.i64.wrap ((fr l 0).am + i) ≤ 9223372036854775807 := by
    simp [IntKind.wrap, IntKind.bits, IntKind.signed]
    omega
  unfold WfT rkE In64
  simp only
  omega
set_option maxRecDepth 100000 in
set_option maxHeartbeats 4000000 in
theorem rcol_main (v : Value) (l : List Q.Fr) (w : World) (hr : RdF w v l) (h4 : 4 ≤ l.length) (hn : l.length ≤ 102) : Calls Try.prog 20 #[v] w (ColP (colR l) w) := by
  have HR := Lib.hid hr
  have HNO := Lib.hid (fun w' hb h => ColP.none w w' hb (l := l) h)
  obtain ⟨a, c, rfl, hac⟩ := RdD.form hr
  obtain ⟨b, off, hcell⟩ := RdF.cells hr
  obtain ⟨ha, hrg2⟩ := hcell 2 (by omega)
  have hrg0 := (hcell 0 (by omega)).2
  have HC : Hid (∀ i, i < l.length → w.rangeAt b (off + i * 9) (fcs (fr l i))) := Lib.hid fun i hi => (hcell i hi).2
  subst ha
  have hd : decide ((l.length : Int) < 4) = false := decide_eq_false (by omega)
  have hd2 : decide (102 < (l.length : Int)) = false := decide_eq_false (by omega)
  have hix2 := fun w' => run_idxS Try.underlying31 Try.sizeFr (cap := c) (b := b) (off := off) rfl (by omega : 2 < l.length) 2 rfl w'
  have hix0 := fun w' => run_idxS Try.underlying31 Try.sizeFr (cap := c) (b := b) (off := off) rfl (by omega : 0 < l.length) 0 rfl w'
  obtain ⟨_, _, _, _, _, _, x6, x7, x8⟩ := rd9 hrg2
  have hctl := (rd9 hrg0).1
  have hamm := (rd9 hrg0).2.2.2.2.2.2.1
  simp only [Nat.zero_mul, Nat.add_zero] at hix0 hctl hamm
  have hbl : b < w.heap.size := World.block_lt_of_cell? w _ hctl
  have HCTL := Lib.hid hctl
  have HAM := Lib.hid hamm
  clear hrg2 hrg0 hcell hr hctl hamm
  obtain ⟨m, hm⟩ : ∃ m, m = l.length - 3 := ⟨_, rfl⟩
  have HM := Lib.hid hm
  have hm1 : 1 ≤ m ∧ m ≤ 99 ∧ l.length = m + 3 := by omega
  obtain ⟨hm2, hm3, hm4⟩ := hm1
  have HM4 := Lib.hid hm4
  clear hm hm4
  go_enter Try.func20, Try.ntmps20
  go_wp2_with fail
  refine (rlb_any (fr l 2) _).mono ?_
  rintro e w1 ⟨rfl, hb1⟩
  have HO : Hid (outL l = lbV (fr l 2)) := Lib.hid rfl
  rw [← HO.out]
  have hle1 := hb1
  obtain ⟨B, hB⟩ : ∃ B, B = w.heap.size := ⟨_, rfl⟩
  rw [← hB] at hle1
  have HB := Lib.hid hB
  have hO1 : -150 ≤ outL l ∧ outL l ≤ 449849 := lbV_bd _
  have hw1B : B ≤ w1.heap.size := by have := hb1.size; omega
  clear hb1 x6 x7 x8 hix2 HO hB
  go_wp2_with fail
  have hF : Bx (w1.alloc (.cells #[] 3)) w1.heap.size 3 (flD ic []) := Bx.new w1 _ _
  have hown := own_ofBx (sz := 1) hF (n := 0) rfl (by unfold maxLen; omega)
  have hown7 := own_mono hown hw1B
  have hle2 := hle1.alloc hw1B (.cells #[] 3)
  have hg7 : w1.heap.size < (w1.alloc (.cells #[] 3)).heap.size := by simp
  obtain ⟨g0, hg0⟩ : ∃ g, g = w1.heap.size := ⟨_, rfl⟩
  rw [← hg0] at hown7
  simp only [← hg0]
  clear hg0 hg7 hF hown hle1
  generalize w1.alloc (.cells #[] 3) = w2 at hown7 hle2 ⊢
  go_loopw [7, 8] (fun v7 vj wr => ∃ (j : Nat), 3 ≤ j ∧ j ≤ l.length ∧ vj = .int .i64 j ∧ wr.ownsRow B 3 1 v7 (j - 3) (flD ic (startsL l (j - 3))) ∧ Below B w wr) (fun _ vj _ => l.length - (intOf vj).toNat)
  case atStart => exact ⟨3, by omega, by omega, rfl, hown7, hle2⟩
  case round =>
    clear hown7 hle2 hw1B
    obtain ⟨j, hj3, hjl, rfl, hown7, hle⟩ := hrel
    obtain ⟨a7, c7, rfl⟩ := ownD_form hown7
    have hwr : B ≤ wr.heap.size := Nat.le_trans (Nat.le_of_eq HB.out) hle.size
    by_cases hlt : j < l.length
    · have hrg : wr.rangeAt b (off + j * 9) (fcs (fr l j)) := range_call (HC.out j hlt) (by rw [HB.out] at hle; exact hle)
      obtain ⟨y0, y1, y2, y3, y4, y5, y6, y7, y8⟩ := rd9 hrg
      have hix := fun w' => run_idxS Try.underlying31 Try.sizeFr (cap := c) (b := b) (off := off) rfl hlt (j : Int) rfl w'
      have HLB := Lib.hid (fun W => rlb_any (fr l j) W)
      have HSt : Hid (startsL l (j + 1 - 3) = startsL l (j - 3) ++ [lbV (fr l j)]) := Lib.hid (by
        obtain ⟨i, rfl⟩ : ∃ i, j = i + 3 := ⟨j - 3, by omega⟩
        rw [show i + 3 + 1 - 3 = i + 1 by omega, startsL_succ, show i + 3 - 3 = i by omega]
        rfl)
      have HH7 := Lib.hid hown7
      clear hrg hown7
      generalize fr l j = q at *
      go_wp2_with fail
      refine (HLB.out _).mono ?_
      rintro e w3 ⟨rfl, hb3⟩
      have hle3 := hle.trans (hb3.mono hwr)
      have hw3 := Nat.le_trans hwr hb3.size
      have HB7 := Lib.hid (ownD_keep HH7.out hb3)
      clear hb3 hle y0 y1 y2 y3 y4 y5 y6 y7 y8 HLB HH7
      have hal7 := (Below.refl w3.heap.size w3).alloc (Nat.le_refl _) (.cells (ic (lbV q)).toArray 3)
      have HC7 := Lib.hid (ownD_keep HB7.out hal7)
      have HLE4 := Lib.hid (hle3.trans (hal7.mono hw3))
      clear hal7 hle3 HB7
      go_wp2_with (at_builtin; refine wpList_appD (d := 0) (D := ic) (l := startsL l (j - 3)) (m := [lbV q]) rfl _ _ rfl Try.underlying41 Try.infoInt rfl (by omega) ic_length ic_one HC7.out rfl (RdD.one (by omega) ic_length w3 3 _) rfl (by unfold maxLen; simp only [List.length_singleton]; omega) (by simp only [List.length_singleton]; omega) (by simp only [World.size_alloc]; omega) ?_; intro v7 w5 hown7 hg7)
      have hle6 := HLE4.out.grown hg7 (by simp only [World.size_alloc]; have := HB.out; omega) (fun j hj => by have := ownD_block HC7.out j hj; have := HB.out; omega)
      rw [← HSt.out, List.length_singleton, show j - 3 + 1 = j + 1 - 3 by omega] at hown7
      refine ⟨⟨j + 1, by omega, by omega, by go_num, hown7, hle6⟩, by simp [intOf]; omega⟩
    · obtain rfl : j = l.length := by omega
      rw [← HM.out] at hown7 ⊢
      clear hlt hj3 hjl
      have HW := Lib.hid hwr
      go_upto_region 11 with (fail)
      have hal := (Below.refl wr.heap.size wr).alloc (Nat.le_refl _) (.cells #[] 53)
      have hF : Bx (wr.alloc (.cells #[] 53)) wr.heap.size 53 (flD tcs []) := Bx.new wr _ _
      have hown8 := own_mono (own_ofBx (sz := 7) hF (n := 0) rfl (by unfold maxLen; omega)) hwr
      have HA7 := Lib.hid (ownD_keep hown7 hal)
      have hle2 := hle.trans (hal.mono hwr)
      obtain ⟨g1, hg1⟩ : ∃ g, g = wr.heap.size := ⟨_, rfl⟩
      rw [← hg1] at hown8
      simp only [← hg1]
      clear hg1 hF hal hown7 hle HW hwr
      generalize wr.alloc (.cells #[] 53) = w2 at HA7 hown8 hle2 ⊢
      clear wr
      go_wp2_with fail
      go_loopw [11, 12] (fun v8 vk wr => ∃ (k : Nat), k ≤ m ∧ vk = .int .i64 k ∧ Hid (wr.ownsRow B 3 1 (.slice a7 m c7) m (flD ic (startsL l m))) ∧ wr.ownsRow B 53 7 v8 k (flD tcs (rkL l m k)) ∧ Below B w wr) (fun _ vk _ => m - (intOf vk).toNat)
      case atStart => exact ⟨0, by omega, rfl, HA7, hown8, hle2⟩
      case round =>
        clear HA7 hown8 hle2 w2
        obtain ⟨k, hk, rfl, H7, hown8, hle⟩ := hrel
        obtain ⟨a8, c8, rfl⟩ := ownD_form hown8
        have hwr : B ≤ wr.heap.size := Nat.le_trans (Nat.le_of_eq HB.out) hle.size
        by_cases hlt : k < m
        · obtain ⟨g7, c7', he7, _, hg7l⟩ := ownD_addr H7.out (by omega)
          injection he7 with e1 e2 e3
          subst e1
          clear e2 e3
          have hst : ∀ i, i < m → wr.cell? ⟨g7, i, none⟩ = some (.int .i64 (stL l i)) := fun i hi => by
            have := ownD_cells (d := 0) ic_length H7.out i (by rw [startsL_length]; exact hi) 0 _ rfl
            simp only [Nat.mul_one, Nat.add_zero] at this
            rw [this]
            unfold atD startsL
            rw [List.getElem?_map, List.getElem?_range hi]
            rfl
          have hk0 := hst k hlt
          have HST := Lib.hid hst
          have HH8 := Lib.hid hown8
          have hsb : ∀ i, -150 ≤ stL l i ∧ stL l i ≤ 449849 := fun i => lbV_bd _
          obtain ⟨nx, hnx⟩ : ∃ nx, nx = if k + 1 < m then stL l (k + 1) else outL l := ⟨_, rfl⟩
          have hnb : -150 ≤ nx ∧ nx ≤ 449849 := by
            rw [hnx]; split
            · exact hsb _
            · exact hO1
          have HRK : Hid (rkL l m (k + 1) = rkL l m k ++ [(⟨IntKind.i64.wrap ((fr l 0).am + k), 0, stL l k, nx - stL l k, 0, 0, 0⟩ : T.Trk)]) := Lib.hid (by rw [rkL_succ, hnx]; rfl)
          have HNX := Lib.hid hnx
          have hsk := hsb k
          have hsk1 := hsb (k + 1)
          clear hst hown8 hsb hnx
          go_upto_if 65 with (fail)
          go_cut [13] (fun v wx => v = .int .i64 nx ∧ wr = wx)
          case first =>
            by_cases h1 : k + 1 < m
            · have hk1 := HST.out (k + 1) h1
              have hN : Hid (nx = stL l (k + 1)) := Lib.hid (by rw [HNX.out, if_pos h1])
              have d1 : decide ((k : Int) + 1 < (m : Int)) = true := decide_eq_true (by omega)
              go_wp2_with fail
              go_meet
              case rel => exact ⟨by rw [hN.out], rfl⟩
            · have hN : Hid (nx = outL l) := Lib.hid (by rw [HNX.out, if_neg h1])
              have d1 : decide ((k : Int) + 1 < (m : Int)) = false := decide_eq_false (by omega)
              go_wp2_with fail
              go_meet
              case rel => exact ⟨by rw [hN.out], rfl⟩
          obtain ⟨rfl, hwc⟩ := hcut
          subst hwc
          clear HNX hsk1
          obtain ⟨row, hrow⟩ : ∃ row, row = (Value.slice a8 k c8).ownBlock := ⟨_, rfl⟩
          have hv8 : ∀ j, row = some j → B ≤ j := fun j hj => ownD_block HH8.out j (by rw [← hrow]; exact hj)
          have hv7 : some g7 ≠ row := by rw [hrow]; exact own_apart H7.out HH8.out (by decide) g7 rfl
          have ham : wr.cell? ⟨b, off + 6, none⟩ = some (.int .i64 (fr l 0).am) := (hle.cell (p := ⟨b, off + 6, none⟩) (by have := HB.out; simp only; omega)).trans HAM.out
          have HvS := Lib.hid hv8
          have Hrow := Lib.hid hrow
          have HS : Hid (∀ W', KeptR row wr W' → KeptR row wr W' ∧ W'.cell? ⟨b, off + 6, none⟩ = some (.int .i64 (fr l 0).am) ∧ W'.cell? ⟨g7, k, none⟩ = some (.int .i64 (stL l k))) := Lib.hid fun W' hW =>
            ⟨hW, (hW.cell (p := ⟨b, off + 6, none⟩) (World.block_lt_of_cell? wr _ ham) (fun e => by have h1 : B ≤ b := HvS.out _ e.symm; have h2 := HB.out; omega)).trans ham,
              (hW.cell (p := ⟨g7, k, none⟩) hg7l hv7).trans hk0⟩
          have hsub : IntKind.i64.wrap (nx - stL l k) = nx - stL l k := IntWalk.i64_in _ (by omega)
          have HL8 := Lib.hid (rkL_length l m k)
          have hkn : k < 99 := by omega
          generalize rkL l m k = LL at HH8 HRK HL8
          generalize (fr l 0).am = am at *
          generalize stL l k = st at *
          have HV7 := Lib.hid (fun k hk => by have := own_apart H7.out HH8.out (by decide) k hk; rwa [← hrow] at this : ∀ k, (Value.slice (some ⟨g7, 0, none⟩) m c7).ownBlock = some k → some k ≠ row)
          clear hv8 hv7 hrow ham hk0 HST
          go_upto_region 17 with (fail)
          go_region_held3 (fun W' => KeptR row wr W' ∧ W'.cell? ⟨b, off + 6, none⟩ = some (.int .i64 am) ∧ W'.cell? ⟨g7, k, none⟩ = some (.int .i64 st))
            (first | with_reducible exact HS.out _ hb9 | with_reducible exact HS.out _ (KeptR.alloc (KeptR.drew (KeptR.refl _ _)) _) | with_reducible exact HS.out _ (KeptR.drew (KeptR.alloc (KeptR.refl _ _) _)) | with_reducible exact HS.out _ (KeptR.drew (KeptR.refl _ _)))
            ((refine step_appD (d := T.z) (D := tcs) (l := LL) (m := [(⟨IntKind.i64.wrap (am + k), 0, st, nx - st, 0, 0, 0⟩ : T.Trk)]) (by rfl) (.tmp 71) (.tmp 90) (by rfl) Try.underlying22 Try.infoTrk rfl (by omega) tcs_length tcs_one (by exact ownD_keep HH8.out ((Below.refl _ _).alloc (Nat.le_refl _) _).drew) (by rfl) (by exact RdD.one (by omega) tcs_length wr 53 _) (by rfl) (by unfold maxLen; simp only [List.length_singleton]; omega) (by simp only [List.length_singleton]; omega) (by simp; omega) ?_; intro v9 w9 hown9 hg9; rw [← Hrow.out] at hg9; have hb9 := KeptR.grown (W := _) (by exact KeptR.alloc (KeptR.refl row wr) _) hg9; have hle9 := Below.grown (B := B) (a := w) (w := _) (by exact (hle.alloc hwr _).drew) hg9 (by simp; omega) (fun j hj => HvS.out j hj)))
          all_goals
            go_wp2_with fail
            refine ⟨⟨k + 1, by omega, by go_num, Lib.hid (ownD_keptR H7.out hb9 HV7.out), ?_, hle9⟩, by simp [intOf]; omega⟩
            rw [HRK.out]; simpa using hown9
        · obtain rfl : k = m := by omega
          have hctl : wr.cell? ⟨b, off, none⟩ = some (.int .i64 (fr l 0).ctl) := (hle.cell (p := ⟨b, off, none⟩) (by rw [HB.out] at *; exact hbl)).trans HCTL.out
          have hr8 : RdK wr (.slice a8 k c8) (rkL l k k) := by have := RdD.ofOwn (d := T.z) (l := rkL l k k) tcs_length (by rw [rkL_length]; exact hown8); exact this
          have HT := Lib.hid (rentries_any (.slice a8 k c8) (rkL l k k) (fr l 0).ctl wr hr8 (by rw [rkL_length]; omega) rk_wf)
          have HR' : Hid (RdF wr (.slice (some ⟨b, off, none⟩) l.length c) l) := Lib.hid (RdD.keep HR.out (by rw [HB.out] at hle; exact hle))
          have HR7 : Hid (RdN wr (.slice a7 k c7) (startsL l k)) := Lib.hid (by have := RdD.ofOwn (d := 0) (l := startsL l k) ic_length (by rw [startsL_length]; exact H7.out); exact this)
          have HC2 : Hid (∀ w', Below w.heap.size w w' → RdN w' (.slice a7 k c7) (startsL l k) → colB l → ColP (colR l) w (.returned (.tuple #[.slice a7 k c7, .int .i64 (outL l), .int .i64 0])) w') := Lib.hid fun w' hb h hc => by
            rw [colR_yes hc, ← HM.out]; exact ⟨_, rfl, h, hb⟩
          have HIff : Hid (colB l ↔ Q.entR (rkL l k k) (fr l 0).ctl = (l, 0)) := Lib.hid ⟨fun h => by have := ((col_iff l).1 h).2.2; rwa [← HM.out] at this, fun h => (col_iff l).2 ⟨h4, hn, by rw [← HM.out]; exact h⟩⟩
          have HLen : Hid ((Q.entR (rkL l k k) (fr l 0).ctl).2 = 0 → (Q.entR (rkL l k k) (fr l 0).ctl).1.length = l.length) := Lib.hid fun h => by rw [entR_len h, rkL_length]; exact HM4.out.symm
          have HE1 : Hid ((Q.entR (rkL l k k) (fr l 0).ctl).2 = 0 ∨ (Q.entR (rkL l k k) (fr l 0).ctl).2 = 1) := Lib.hid (by unfold Q.entR; split <;> simp)
          have hle' : Below w.heap.size w wr := by rw [HB.out] at hle; exact hle
          clear hown8 hr8 hle H7 HM HM4
          generalize (fr l 0).ctl = ctl at *
          generalize Q.entR (rkL l k k) ctl = R at HT HIff HLen HE1
          obtain ⟨L, e⟩ := R
          replace HLen : Hid (e = 0 → L.length = l.length) := HLen
          replace HE1 : Hid (e = 0 ∨ e = 1) := HE1
          go_wp2_with fail
          refine HT.out.mono ?_
          rintro e5 w5 ⟨v5, rfl, hr5, hb5⟩
          have hle5 := hle'.trans (hb5.mono hle'.size)
          have HR5 := Lib.hid (RdD.keep HR'.out hb5)
          have HR75 := Lib.hid (RdD.keep HR7.out hb5)
          obtain ⟨a5, c5, rfl, _⟩ := RdD.form hr5
          have Hr5 := Lib.hid hr5
          clear hb5 hle' HR' HR7 hr5 hctl HT
          rcases HE1.out with he | he
          · have hl5 := HLen.out he
            subst he
            have HLM := Lib.hid (fr_list hl5)
            have hr5 := Hr5.out
            obtain ⟨a6, c6, b6, off6, hv6, _, hcell6⟩ := hr5
            injection hv6 with e1 e2 e3
            subst e1
            clear e2 e3
            have HC6 := Lib.hid hcell6
            have HC9 : Hid (∀ i, i < l.length → w5.rangeAt b (off + i * 9) (fcs (fr l i))) := Lib.hid fun i hi => range_call (HC.out i hi) hle5
            clear hcell6
            simp only at HC6 Hr5
            rw [hl5] at *
            have hnn : ((l.length : Int) != (l.length : Int)) = false := by simp
            have HNO2 : Hid (L ≠ l → ¬ colB l) := Lib.hid fun h hc => by
              have := HIff.out.1 hc
              simp only [Prod.mk.injEq, and_true] at this
              exact h this
            have HYES : Hid (L = l → colB l) := Lib.hid fun h => HIff.out.2 (by rw [h])
            clear HIff HLen HE1 hl5
            go_wp2_with fail
            go_loopw [16] (fun vi wr => ∃ (i : Nat), i ≤ l.length ∧ vi = .int .i64 i ∧ Hid (∀ j, j < i → fr L j = fr l j) ∧ ∃ n, wr = w5.drewN n) (fun vi _ => l.length - (intOf vi).toNat)
            case atStart => exact ⟨0, by omega, rfl, Lib.hid fun j hj => by omega, 0, rfl⟩
            case round =>
              obtain ⟨i, hi, rfl, HE, n, rfl⟩ := hrel
              by_cases hlt : i < l.length
              · obtain ⟨ha, hrange⟩ := HC6.out i hlt
                have hrange2 := HC9.out i hlt
                have HF : Hid (fr L i ≠ fr l i → ¬ colB l) := Lib.hid fun h => HNO2.out fun e => h (by rw [e])
                have HT : Hid (fr L i = fr l i → ∀ j, j < i + 1 → fr L j = fr l j) := Lib.hid fun h j hj => by
                  by_cases e : j < i
                  · exact HE.out j e
                  · obtain rfl : j = i := by omega
                    exact h
                replace hrange : w5.rangeAt b6 (off6 + i * 9) (fcs (fr L i)) := hrange
                replace hrange2 : w5.rangeAt b (off + i * 9) (fcs (fr l i)) := hrange2
                generalize fr L i = x at hrange HF HT
                generalize fr l i = y at hrange2 HF HT
                have hix := fun w' => run_idxS Try.underlying31 Try.sizeFr (cap := c5) ha hlt _ rfl w'
                have hix2 := fun w' => run_idxS Try.underlying31 Try.sizeFr (cap := c) (b := b) (off := off) rfl hlt _ rfl w'
                have Ha := Lib.hid ha; clear ha
                rcases fr_cases x y with rfl | h0 | ⟨e0, h1⟩ | ⟨e0, e1, h2⟩ | ⟨e0, e1, e2, h3⟩ | ⟨e0, e1, e2, e3, h4⟩ | ⟨e0, e1, e2, e3, e4, h5⟩ | ⟨e0, e1, e2, e3, e4, e5, h6⟩ | ⟨e0, e1, e2, e3, e4, e5, e6, h7⟩ | ⟨e0, e1, e2, e3, e4, e5, e6, e7, h8⟩
                · obtain ⟨hc0, hc1, hc2, hc3, hc4, hc5, hc6, hc7, hc8⟩ := rd9 hrange
                  obtain ⟨hf0, hf1, hf2, hf3, hf4, hf5, hf6, hf7, hf8⟩ := rd9 hrange2
                  clear hrange hrange2
                  go_wp2_with fail
                  go_quiet (fail)
                  go_wp2_with fail
                  go_roundw
                  case rel => exact ⟨i + 1, by omega, by go_num, Lib.hid (by first | exact HT.out rfl | exact HT.out trivial), _, rfl⟩
                  case measure => simp [intOf]; omega
                · have HN : Hid (x ≠ y) := Lib.hid fun e => by rw [e] at h0; simp at h0
                  obtain ⟨hc0, hc1, hc2, hc3, hc4, hc5, hc6, hc7, hc8⟩ := rd9 hrange
                  obtain ⟨hf0, hf1, hf2, hf3, hf4, hf5, hf6, hf7, hf8⟩ := rd9 hrange2
                  clear hrange hrange2
                  go_wp2_with fail
                  go_quiet (fail)
                  go_wp2_with fail
                  go_ret3
                  exact HNO.out _ (Go.Proofs.Ytenbafolmmemgaa.Below.drewN (Go.Proofs.Ytenbafolmmemgaa.Below.drewN hle5 _) _) (HF.out HN.out)
                · have HN : Hid (x ≠ y) := Lib.hid fun e => by rw [e] at h1; simp at h1
                  obtain ⟨hc0, hc1, hc2, hc3, hc4, hc5, hc6, hc7, hc8⟩ := rd9 hrange
                  obtain ⟨hf0, hf1, hf2, hf3, hf4, hf5, hf6, hf7, hf8⟩ := rd9 hrange2
                  clear hrange hrange2
                  go_wp2_with fail
                  go_quiet (fail)
                  go_wp2_with fail
                  go_ret3
                  exact HNO.out _ (Go.Proofs.Ytenbafolmmemgaa.Below.drewN (Go.Proofs.Ytenbafolmmemgaa.Below.drewN hle5 _) _) (HF.out HN.out)
                · have HN : Hid (x ≠ y) := Lib.hid fun e => by rw [e] at h2; simp at h2
                  obtain ⟨hc0, hc1, hc2, hc3, hc4, hc5, hc6, hc7, hc8⟩ := rd9 hrange
                  obtain ⟨hf0, hf1, hf2, hf3, hf4, hf5, hf6, hf7, hf8⟩ := rd9 hrange2
                  clear hrange hrange2
                  go_wp2_with fail
                  go_quiet (fail)
                  go_wp2_with fail
                  go_ret3
                  exact HNO.out _ (Go.Proofs.Ytenbafolmmemgaa.Below.drewN (Go.Proofs.Ytenbafolmmemgaa.Below.drewN hle5 _) _) (HF.out HN.out)
                · have HN : Hid (x ≠ y) := Lib.hid fun e => by rw [e] at h3; simp at h3
                  obtain ⟨hc0, hc1, hc2, hc3, hc4, hc5, hc6, hc7, hc8⟩ := rd9 hrange
                  obtain ⟨hf0, hf1, hf2, hf3, hf4, hf5, hf6, hf7, hf8⟩ := rd9 hrange2
                  clear hrange hrange2
                  go_wp2_with fail
                  go_quiet (fail)
                  go_wp2_with fail
                  go_ret3
                  exact HNO.out _ (Go.Proofs.Ytenbafolmmemgaa.Below.drewN (Go.Proofs.Ytenbafolmmemgaa.Below.drewN hle5 _) _) (HF.out HN.out)
                · have HN : Hid (x ≠ y) := Lib.hid fun e => by rw [e] at h4; simp at h4
                  obtain ⟨hc0, hc1, hc2, hc3, hc4, hc5, hc6, hc7, hc8⟩ := rd9 hrange
                  obtain ⟨hf0, hf1, hf2, hf3, hf4, hf5, hf6, hf7, hf8⟩ := rd9 hrange2
                  clear hrange hrange2
                  go_wp2_with fail
                  go_quiet (fail)
                  go_wp2_with fail
                  go_ret3
                  exact HNO.out _ (Go.Proofs.Ytenbafolmmemgaa.Below.drewN (Go.Proofs.Ytenbafolmmemgaa.Below.drewN hle5 _) _) (HF.out HN.out)
                · have HN : Hid (x ≠ y) := Lib.hid fun e => by rw [e] at h5; simp at h5
                  obtain ⟨hc0, hc1, hc2, hc3, hc4, hc5, hc6, hc7, hc8⟩ := rd9 hrange
                  obtain ⟨hf0, hf1, hf2, hf3, hf4, hf5, hf6, hf7, hf8⟩ := rd9 hrange2
                  clear hrange hrange2
                  go_wp2_with fail
                  go_quiet (fail)
                  go_wp2_with fail
                  go_ret3
                  exact HNO.out _ (Go.Proofs.Ytenbafolmmemgaa.Below.drewN (Go.Proofs.Ytenbafolmmemgaa.Below.drewN hle5 _) _) (HF.out HN.out)
                · have HN : Hid (x ≠ y) := Lib.hid fun e => by rw [e] at h6; simp at h6
                  obtain ⟨hc0, hc1, hc2, hc3, hc4, hc5, hc6, hc7, hc8⟩ := rd9 hrange
                  obtain ⟨hf0, hf1, hf2, hf3, hf4, hf5, hf6, hf7, hf8⟩ := rd9 hrange2
                  clear hrange hrange2
                  go_wp2_with fail
                  go_quiet (fail)
                  go_wp2_with fail
                  go_ret3
                  exact HNO.out _ (Go.Proofs.Ytenbafolmmemgaa.Below.drewN (Go.Proofs.Ytenbafolmmemgaa.Below.drewN hle5 _) _) (HF.out HN.out)
                · have HN : Hid (x ≠ y) := Lib.hid fun e => by rw [e] at h7; simp at h7
                  obtain ⟨hc0, hc1, hc2, hc3, hc4, hc5, hc6, hc7, hc8⟩ := rd9 hrange
                  obtain ⟨hf0, hf1, hf2, hf3, hf4, hf5, hf6, hf7, hf8⟩ := rd9 hrange2
                  clear hrange hrange2
                  go_wp2_with fail
                  go_quiet (fail)
                  go_wp2_with fail
                  go_ret3
                  exact HNO.out _ (Go.Proofs.Ytenbafolmmemgaa.Below.drewN (Go.Proofs.Ytenbafolmmemgaa.Below.drewN hle5 _) _) (HF.out HN.out)
                · have HN : Hid (x ≠ y) := Lib.hid fun e => by rw [e] at h8; simp at h8
                  obtain ⟨hc0, hc1, hc2, hc3, hc4, hc5, hc6, hc7, hc8⟩ := rd9 hrange
                  obtain ⟨hf0, hf1, hf2, hf3, hf4, hf5, hf6, hf7, hf8⟩ := rd9 hrange2
                  clear hrange hrange2
                  go_wp2_with fail
                  go_quiet (fail)
                  go_wp2_with fail
                  go_ret3
                  exact HNO.out _ (Go.Proofs.Ytenbafolmmemgaa.Below.drewN (Go.Proofs.Ytenbafolmmemgaa.Below.drewN hle5 _) _) (HF.out HN.out)
              · obtain rfl : i = l.length := by omega
                have hcol := HYES.out (HLM.out.2 HE.out)
                have HCol := Lib.hid hcol
                have HLE5 := Lib.hid hle5
                clear hcol hle5
                go_wp2_with fail
                go_ret3
                exact HC2.out _ (Go.Proofs.Ytenbafolmmemgaa.Below.drewN HLE5.out _) HR75.out HCol.out
          · have hcol : ¬ colB l := fun h => by
              have := HIff.out.1 h
              rw [he] at this
              simp at this
            subst he
            have HCol := Lib.hid hcol
            have HLE5 := Lib.hid hle5
            clear hcol hle5
            go_wp2_with fail
            go_ret3
            exact HNO.out _ HLE5.out HCol.out
theorem rcol_any (v : Value) (l : List Q.Fr) (w : World) (hr : RdF w v l) (hn : l.length ≤ 120) : Calls Try.prog 20 #[v] w (ColP (colR l) w) := by
  by_cases h : l.length < 4
  · exact rcol_short v l w hr h
  · by_cases h2 : l.length ≤ 102
    · exact rcol_main v l w hr (by omega) h2
    · exact rcol_long v l w hr (by omega) hn
end Go.Proofs.Ytenbafolmmemgaa.W10
