/- Chapter 10: Entries of the reference walked. -/
import Derived.Test.YtenbafolmmemgaaQen
import Derived.Test.YtenbafolmmemgaaQr
namespace Go.Proofs.Ytenbafolmmemgaa.W10
open Go.RowKit
set_option linter.unusedVariables false

theorem own_ofBx {W : World} {g : Nat} {t : TypeId} {cs : List Value} {sz n : Nat} (h : Bx W g t cs) (hl : cs.length = n * sz) (hn : n ≤ maxLen) : W.ownsRow g t sz (.slice (some ⟨g, 0, none⟩) n n) n cs :=
  ⟨hl, .inr ⟨g, n, cs.toArray, rfl, Nat.le_refl _, h, Nat.le_refl _, hn, by simpa using hl, by simpa using List.take_of_length_le (by omega)⟩⟩
set_option maxRecDepth 100000 in
set_option maxHeartbeats 2000000 in
theorem rentries_1 (v : Value) (l : List T.Trk) (ctl : Int) (w : World) (hr : RdK w v l) (hn : l.length ≤ 120) (hwf : WfL l) (hS : Q.sessB l = false) :
    Calls Try.prog 14 #[v, .int .i64 ctl] w (EntP ([], 1) w) := by
  have HSe := Lib.hid (rsession_any v l w hr hn hwf)
  have HS := Lib.hid hS; clear hS hwf
  obtain ⟨a, c, rfl, hac⟩ := RdS.form hr
  go_enter Try.func14, Try.ntmps14
  go_wp2_with fail
  refine HSe.out.mono ?_
  rw [HS.out]
  rintro e w1 ⟨rfl, hb⟩
  go_wp2_with fail
  go_ret2
  exact ⟨_, rfl, RdD.nil _, hb⟩
set_option maxRecDepth 100000 in
set_option maxHeartbeats 2000000 in
theorem rentries_2 (v : Value) (l : List T.Trk) (ctl : Int) (w : World) (hr : RdK w v l) (hn : l.length ≤ 120) (hwf : WfL l) (hS : Q.sessB l = true) (hc : ¬ (0 ≤ ctl ∧ ctl ≤ 15)) :
    Calls Try.prog 14 #[v, .int .i64 ctl] w (EntP ([], 1) w) := by
  have HSe := Lib.hid (rsession_any v l w hr hn hwf)
  have HS := Lib.hid hS; clear hS hwf
  obtain ⟨a, c, rfl, hac⟩ := RdS.form hr
  by_cases h0 : 0 ≤ ctl
  · have h1 : 15 < ctl := by omega
    clear hc
    go_enter Try.func14, Try.ntmps14
    go_wp2_with fail
    refine HSe.out.mono ?_
    rw [HS.out]
    rintro e w1 ⟨rfl, hb⟩
    go_wp2_with fail
    go_ret2
    exact ⟨_, rfl, RdD.nil _, hb⟩
  · clear hc
    go_enter Try.func14, Try.ntmps14
    go_wp2_with fail
    refine HSe.out.mono ?_
    rw [HS.out]
    rintro e w1 ⟨rfl, hb⟩
    go_wp2_with fail
    go_ret2
    exact ⟨_, rfl, RdD.nil _, hb⟩
set_option maxRecDepth 100000 in
set_option maxHeartbeats 4000000 in
theorem rentries_3 (v : Value) (l : List T.Trk) (ctl : Int) (w : World) (hr : RdK w v l) (hn : l.length ≤ 120) (hwf : WfL l) (hS : Q.sessB l = true) (hc : 0 ≤ ctl ∧ ctl ≤ 15) :
    Calls Try.prog 14 #[v, .int .i64 ctl] w (EntP (Q.entL l ctl l.length, 0) w) := by
  have HSe := Lib.hid (rsession_any v l w hr hn hwf)
  have HS := Lib.hid hS; clear hwf
  have HSS := Lib.hid (Q.sessB_true.1 hS); clear hS
  have HR := Lib.hid hr
  obtain ⟨a, c, rfl, hac⟩ := RdS.form hr
  clear hr
  obtain ⟨hc1, hc2⟩ := hc
  go_enter Try.func14, Try.ntmps14
  go_wp2_with fail
  refine HSe.out.mono ?_
  rw [HS.out]
  rintro e w1 ⟨rfl, hle⟩
  have hl1 := HSS.out.1
  have hl2 := HSS.out.2.1
  obtain ⟨b, off, hcell⟩ := RdK.cells (HR.out.keep hle)
  obtain ⟨ha, hrg⟩ := hcell (l.length - 1) (by omega)
  obtain ⟨ha0, hrg0⟩ := hcell 0 (by omega)
  obtain ⟨hat1, hat2, hat3, hat4, hat5, hat6⟩ := HSS.out.at (i := l.length - 1) (by omega)
  have hE0 : 0 ≤ Q.endL l := by show 0 ≤ (T.tr l (l.length - 1)).st + (T.tr l (l.length - 1)).len; omega
  have hE1 : Q.endL l ≤ 449849 := by show (T.tr l (l.length - 1)).st + (T.tr l (l.length - 1)).len ≤ _; omega
  have HL0 : Hid (Q.entL l ctl 0 = [Q.entF ctl 160 (T.tr l 0).num 0 0, Q.entF ctl 161 (T.tr l (l.length - 1)).num 0 0, Q.entF ctl 162 (Q.mM (Q.endL l + 150)) (Q.mS (Q.endL l + 150)) (Q.mF (Q.endL l + 150))]) := Lib.hid rfl
  clear hcell hat1 hat2 hat3 hat4 hat5 hat6
  have hlw : IntKind.i64.wrap ((l.length : Int) - 1) = (l.length : Int) - 1 := IntWalk.i64_in _ (by omega)
  have hix := fun w' => run_idxS Try.underlying22 Try.sizeTrack (cap := c) ha (by omega : l.length - 1 < l.length) ((l.length : Int) - 1) (by omega) w'
  have hix0 := fun w' => run_idxS Try.underlying22 Try.sizeTrack (cap := c) ha (by omega : 0 < l.length) 0 rfl w'
  simp only [Nat.zero_mul, Nat.add_zero] at hix0 hrg0
  have hn0 := (rd7 hrg0).1
  have hnp := (rd7 hrg).1
  generalize hp : l.length - 1 = p at *
  have Hp := Lib.hid hp; clear hp
  generalize (T.tr l p).num = xn at *
  generalize (T.tr l 0).num = yn at *
  have Ha := Lib.hid ha; clear ha hrg hrg0 ha0
  have hbl := World.block_lt_of_cell? w1 _ hn0
  go_wp2_with fail
  refine (rend_any _ l _ (HR.out.keep hle) HSS.out).mono ?_
  rintro e w2 ⟨rfl, nq, rfl⟩
  have hle2 := Below.drewN hle nq
  replace hn0 : (w1.drewN nq).cell? _ = _ := hn0
  replace hnp : (w1.drewN nq).cell? _ = _ := hnp
  replace hbl : b < (w1.drewN nq).heap.size := hbl
  generalize w1.drewN nq = w2 at hn0 hnp hle2 hbl ⊢
  clear hle
  go_wp2_with fail
  refine (rtomsf_ok _ _ (by omega) (by omega)).mono ?_
  rintro e w3 ⟨rfl, hb3⟩
  have hle3 := hle2.trans (hb3.mono hle2.size)
  replace hn0 := (hb3.cell (p := ⟨b, off, none⟩) hbl).trans hn0
  replace hnp := (hb3.cell (p := ⟨b, off + p * 7, none⟩) hbl).trans hnp
  replace hbl : b < w3.heap.size := Nat.lt_of_lt_of_le hbl hb3.size
  clear hb3 hle2
  go_upto_region 4 with (fail)
  have hM : Bx (w3.alloc (.cells #[.int .i64 (Q.mM (Q.endL l + 150)), .int .i64 (Q.mS (Q.endL l + 150)), .int .i64 (Q.mF (Q.endL l + 150))] 25)) w3.heap.size 25 [.int .i64 (Q.mM (Q.endL l + 150)), .int .i64 (Q.mS (Q.endL l + 150)), .int .i64 (Q.mF (Q.endL l + 150))] := Bx.new _ _ _
  have hb4 := (Below.refl w3.heap.size w3).alloc (Nat.le_refl _) (.cells #[.int .i64 (Q.mM (Q.endL l + 150)), .int .i64 (Q.mS (Q.endL l + 150)), .int .i64 (Q.mF (Q.endL l + 150))] 25)
  have hle4 := hle3.trans (hb4.mono hle3.size)
  replace hn0 := (hb4.cell (p := ⟨b, off, none⟩) hbl).trans hn0
  replace hnp := (hb4.cell (p := ⟨b, off + p * 7, none⟩) hbl).trans hnp
  obtain ⟨gM, hgM⟩ : ∃ gM, gM = w3.heap.size := ⟨_, rfl⟩
  rw [← hgM] at hM
  simp only [← hgM]
  clear hbl
  generalize w3.alloc (.cells #[.int .i64 (Q.mM (Q.endL l + 150)), .int .i64 (Q.mS (Q.endL l + 150)), .int .i64 (Q.mF (Q.endL l + 150))] 25) = w4 at hM hle4 hn0 hnp ⊢
  clear hb4 hgM hle3
  have hm0 := hM.cell (i := 0) rfl
  have hm1 := hM.cell (i := 1) rfl
  have hm2 := hM.cell (i := 2) rfl
  have hl0 : (0 : Int) < l.length := by omega
  go_still_tail 20, (by kernel_rfl)
  change wpList _ _ _ _ _ w4.drew
  go_wp2_with fail
  have hF : Bx ((w4.alloc (.cells (flD fcs (Q.entL l ctl 0)).toArray 27)).drew) w4.heap.size 27 (flD fcs (Q.entL l ctl 0)) := Bx.new w4 _ _
  rw [HL0.out] at hF
  have hb5 := ((Below.refl w4.heap.size w4).alloc (Nat.le_refl _) (.cells (flD fcs [Q.entF ctl 160 yn 0 0, Q.entF ctl 161 xn 0 0, Q.entF ctl 162 (Q.mM (Q.endL l + 150)) (Q.mS (Q.endL l + 150)) (Q.mF (Q.endL l + 150))]).toArray 27)).drew
  have hle5 := hle4.trans (hb5.mono hle4.size)
  change Code.wp _ _ _ _ ((w4.alloc (.cells (flD fcs [Q.entF ctl 160 yn 0 0, Q.entF ctl 161 xn 0 0, Q.entF ctl 162 (Q.mM (Q.endL l + 150)) (Q.mS (Q.endL l + 150)) (Q.mF (Q.endL l + 150))]).toArray 27)).drew)
  obtain ⟨gS, hgS⟩ : ∃ gS, gS = w4.heap.size := ⟨_, rfl⟩
  have hlS : w.heap.size ≤ gS := by rw [hgS]; exact hle4.size
  rw [← hgS] at hF
  simp only [← hgS]
  generalize (w4.alloc (.cells (flD fcs [Q.entF ctl 160 yn 0 0, Q.entF ctl 161 xn 0 0, Q.entF ctl 162 (Q.mM (Q.endL l + 150)) (Q.mS (Q.endL l + 150)) (Q.mF (Q.endL l + 150))]).toArray 27)).drew = w5 at hF hle5 ⊢
  clear hb5 hgS hle4 hM hm0 hm1 hm2 hn0 hnp hix hix0 hlw
  have hown0 := own_ofBx (sz := 9) hF (n := 3) rfl (by unfold maxLen; omega)
  rw [← HL0.out] at hown0
  clear hF HL0
  go_loopw [8, 9] (fun vf vi wr => ∃ (k : Nat), k ≤ l.length ∧ vi = .int .i64 k ∧ wr.ownsRow gS 27 9 vf (Q.entL l ctl k).length (flD fcs (Q.entL l ctl k)) ∧ Below w.heap.size w wr ∧ gS ≤ wr.heap.size) (fun _ vi _ => l.length - (intOf vi).toNat)
  case atStart => exact ⟨0, by omega, rfl, hown0, hle5, by have := (ownD_lt hown0 gS rfl); omega⟩
  case round =>
    clear hown0 hle5
    obtain ⟨k, hk, rfl, hown, hle, hsz⟩ := hrel
    obtain ⟨va, vc, rfl⟩ := ownD_form hown
    by_cases hlt : k < l.length
    · obtain ⟨b, off, hcell⟩ := RdK.cells (HR.out.keep hle)
      obtain ⟨ha, hrg⟩ := hcell k hlt
      obtain ⟨hat1, hat2, hat3, hat4, hat5, hat6⟩ := HSS.out.at hlt
      have HSu : Hid (Q.entL l ctl (k + 1) = Q.entL l ctl k ++ [Q.entF ctl (T.tr l k).num (Q.mM ((T.tr l k).st + 150)) (Q.mS ((T.tr l k).st + 150)) (Q.mF ((T.tr l k).st + 150))]) := Lib.hid (Q.entL_succ l ctl k)
      have HLe := Lib.hid (Q.entL_length l ctl k)
      clear hcell
      generalize T.tr l k = z at *
      obtain ⟨hc0', hc1', hc2', hc3', hc4', hc5', hc6'⟩ := rd7 hrg
      have hix := fun w' => run_idxS Try.underlying22 Try.sizeTrack (cap := c) ha hlt (k : Int) rfl w'
      have hbw : b < w.heap.size := by
        obtain ⟨b2, off2, hcell2⟩ := RdK.cells HR.out
        obtain ⟨ha2, hrg2⟩ := hcell2 k hlt
        have e := ha.symm.trans ha2
        simp only [Option.some.injEq, Addr.mk.injEq] at e
        rw [e.1]
        exact World.block_lt_of_cell? w _ (rd7 hrg2).1
      have Ha := Lib.hid ha; clear ha hrg
      clear hc1' hc3' hc4' hc5' hc6'
      generalize Q.entL l ctl k = LL at hown HSu HLe ⊢
      have Hown := Lib.hid hown; clear hown
      go_wp2_with fail
      refine (rtomsf_ok _ _ (by omega) (by omega)).mono ?_
      rintro e w6 ⟨rfl, hb6⟩
      have hown6 := ownD_keep Hown.out hb6
      have hle6 := hle.trans (hb6.mono hle.size)
      replace hc0' := (hb6.cell (p := ⟨b, off + k * 7, none⟩) (World.block_lt_of_cell? wr _ hc0')).trans hc0'
      have Hown6 := Lib.hid hown6
      have hsz66 := hb6.size
      clear hown6 hb6 Hown hle hc2'
      go_upto_region 9 with (fail)
      have hM : Bx (w6.alloc (.cells #[.int .i64 (Q.mM (z.st + 150)), .int .i64 (Q.mS (z.st + 150)), .int .i64 (Q.mF (z.st + 150))] 25)) w6.heap.size 25 [.int .i64 (Q.mM (z.st + 150)), .int .i64 (Q.mS (z.st + 150)), .int .i64 (Q.mF (z.st + 150))] := Bx.new _ _ _
      have hb7 := (Below.refl w6.heap.size w6).alloc (Nat.le_refl _) (.cells #[.int .i64 (Q.mM (z.st + 150)), .int .i64 (Q.mS (z.st + 150)), .int .i64 (Q.mF (z.st + 150))] 25)
      have hle7 := hle6.trans (hb7.mono hle6.size)
      have Hown7 := Lib.hid (ownD_keep Hown6.out hb7)
      replace hc0' := (hb7.cell (p := ⟨b, off + k * 7, none⟩) (World.block_lt_of_cell? w6 _ hc0')).trans hc0'
      have hsz6 : gS ≤ w6.heap.size := Nat.le_trans hsz hsz66
      obtain ⟨gM, hgM⟩ : ∃ gM, gM = w6.heap.size := ⟨_, rfl⟩
      have hsM : gS ≤ gM := by omega
      have hvM : ∀ j, (Value.slice va LL.length vc).ownBlock = some j → j < gM := fun j hj => by rw [hgM]; exact ownD_lt Hown6.out j hj
      rw [← hgM] at hM
      simp only [← hgM]
      generalize w6.alloc (.cells #[.int .i64 (Q.mM (z.st + 150)), .int .i64 (Q.mS (z.st + 150)), .int .i64 (Q.mF (z.st + 150))] 25) = W at hM hb7 hle7 Hown7 hc0' ⊢
      clear hb7 hgM Hown6 hle6
      have hvS : ∀ j, (Value.slice va LL.length vc).ownBlock = some j → gS ≤ j := fun j hj => ownD_block Hown7.out j hj
      obtain ⟨row, hrow⟩ : ∃ row, row = (Value.slice va LL.length vc).ownBlock := ⟨_, rfl⟩
      rw [← hrow] at hvM hvS
      have Hrow := Lib.hid hrow; clear hrow
      have HvM := Lib.hid hvM
      have HvS := Lib.hid hvS
      clear hvM hvS
      have HS : Hid (∀ W', KeptR row W W' → KeptR row W W' ∧ W'.cell? ⟨b, off + k * 7, none⟩ = some (.int .i64 z.num) ∧ W'.cell? ⟨gM, 0, none⟩ = some (.int .i64 (Q.mM (z.st + 150))) ∧ W'.cell? ⟨gM, 1, none⟩ = some (.int .i64 (Q.mS (z.st + 150))) ∧ W'.cell? ⟨gM, 2, none⟩ = some (.int .i64 (Q.mF (z.st + 150)))) := Lib.hid fun W' hW => by
        have q := hW.bx hM (fun e => by have := HvM.out _ e.symm; omega)
        exact ⟨hW, (hW.cell (p := ⟨b, off + k * 7, none⟩) (World.block_lt_of_cell? W _ hc0') (fun e => by have := HvS.out _ e.symm; simp only at this; omega)).trans hc0', q.cell (i := 0) rfl, q.cell (i := 1) rfl, q.cell (i := 2) rfl⟩
      have hgs := Nat.le_trans hlS (Nat.le_refl _)
      have hS0 := ownD_form Hown7.out
      clear hS0
      have hWS : gS ≤ W.heap.size := by
        have := hM.lt
        omega
      have hcc0 := hc0'
      clear hc0'
      go_region_held3 (fun W' => KeptR row W W' ∧ W'.cell? ⟨b, off + k * 7, none⟩ = some (.int .i64 z.num) ∧ W'.cell? ⟨gM, 0, none⟩ = some (.int .i64 (Q.mM (z.st + 150))) ∧ W'.cell? ⟨gM, 1, none⟩ = some (.int .i64 (Q.mS (z.st + 150))) ∧ W'.cell? ⟨gM, 2, none⟩ = some (.int .i64 (Q.mF (z.st + 150))))
        (first | with_reducible exact HS.out _ hb9 | with_reducible exact HS.out _ (KeptR.alloc (KeptR.drew (KeptR.refl _ _)) _) | with_reducible exact HS.out _ (KeptR.drew (KeptR.alloc (KeptR.refl _ _) _)) | with_reducible exact HS.out _ (KeptR.drew (KeptR.refl _ _)))
        ((refine step_appD (d := Q.z) (D := fcs) (l := LL) (m := [Q.entF ctl z.num (Q.mM (z.st + 150)) (Q.mS (z.st + 150)) (Q.mF (z.st + 150))]) (by rfl) (.tmp 65) (.tmp 74) (by rfl) Try.underlying31 Try.infoFr rfl (by omega) fcs_length fcs_one (by exact ownD_keep Hown7.out ((Below.refl _ _).alloc (Nat.le_refl _) _).drew) (by rfl) (by exact RdD.one (by omega) fcs_length W 27 _) (by rfl) (by have := HLe.out; unfold maxLen; simp only [List.length_singleton]; omega) (by have := HLe.out; simp only [List.length_singleton]; omega) (by simp; omega) ?_; intro v8 w8 hown8 hg8; rw [← Hrow.out] at hg8; have hb9 := KeptR.grown (W := _) (by exact KeptR.alloc (KeptR.refl row W) _) hg8; have hle9 := Below.grown (B := w.heap.size) (a := w) (w := _) (by exact (hle7.alloc hle7.size _).drew) hg8 (by simp; omega) (fun j hj => by have := HvS.out j hj; omega)))
      all_goals
        go_wp2_with fail
        refine ⟨⟨k + 1, by omega, by go_num, ?_, hle9, ?_⟩, by simp [intOf]; omega⟩
        · rw [HSu.out]; simpa using hown8
        · have := hg8.size; simp at this; omega
    · obtain rfl : k = l.length := by omega
      go_wp2_with fail
      go_ret2
      exact ⟨_, rfl, RdD.ofOwn fcs_length hown, hle⟩
theorem rentries_any (v : Value) (l : List T.Trk) (ctl : Int) (w : World) (hr : RdK w v l) (hn : l.length ≤ 120) (hwf : WfL l) :
    Calls Try.prog 14 #[v, .int .i64 ctl] w (EntP (Q.entR l ctl) w) := by
  unfold Q.entR
  cases hS : Q.sessB l with
  | false => rw [if_pos (.inl rfl)]; exact rentries_1 v l ctl w hr hn hwf hS
  | true =>
    by_cases hc : 0 ≤ ctl ∧ ctl ≤ 15
    · rw [if_neg (fun h => h.elim (fun h => by cases h) (fun h => by omega))]; exact rentries_3 v l ctl w hr hn hwf hS hc
    · rw [if_pos (.inr (by omega))]; exact rentries_2 v l ctl w hr hn hwf hS hc
end Go.Proofs.Ytenbafolmmemgaa.W10
