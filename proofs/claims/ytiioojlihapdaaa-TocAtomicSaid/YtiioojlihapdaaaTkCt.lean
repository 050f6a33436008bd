/- CloseTrack of both walked (chapter 14). -/
import Derived.Test.YtiioojlihapdaaaTkRes
import Derived.Deep.RegionHeld3
import Derived.Outline
namespace Go.Proofs.Ytiioojlihapdaaa
open Go.RowKit
set_option linter.unusedVariables false

/-- whether the track 'i' can be closed -/
def shutB (l : List T.Trk) (i : Nat) : Bool := decide ((T.tr l i).sta = 1 ∧ (i + 1 = l.length ∨ (T.tr l i).nx = (T.tr l i).st + (T.tr l i).len))
def closeTrackR (cap cl : Int) (fin : Bool) (l : List T.Trk) (number : Int) : Res :=
  if T.validB cap cl fin l = false then Res.bad 1 else if number < 1 ∨ (l.length : Int) < number then Res.bad 6
  else if shutB l (number.toNat - 1) = false then Res.bad 8 else ⟨cl, fin, l.set (number.toNat - 1) (T.shutT (T.tr l (number.toNat - 1))), 0⟩

set_option maxRecDepth 100000 in
set_option maxHeartbeats 2000000 in
theorem pctrack_1 (cap cl : Int) (fin : Bool) (sv : Value) (l : List T.Trk) (number : Int) (w : World) (hr : RdK w sv l) (hf : Few l) (hV : T.validB cap cl fin l = false) : Calls Try.prog 30 #[.int .i64 cap, tval cl fin sv, .int .i64 number] w (OpP (Res.bad 1) w) := by
  obtain ⟨a, c, rfl, hac⟩ := RdS.form hr
  have hb0 := box2_below w cl fin (.slice a l.length c)
  have hcon := valid_any cap cl fin _ l _ (hr.keep hb0) hf
  have HCON := Lib.hid hcon; clear hcon
  have hst0 := St.new w cl fin (.slice a l.length c)
  have HV := Lib.hid hV; clear hV
  go_enter Try.func30, Try.ntmps30
  go_wp2_with fail
  refine HCON.out.mono ?_
  rintro e w1 ⟨rfl, hb⟩
  rw [HV.out]
  have hst := hst0.call hb
  have hb1 := hb0.trans (hb.mono hb0.size)
  obtain ⟨ht0, ht1, ht2, hs0, hs1, hs2, hf0, hf1⟩ := hst.facts
  have hw1 := hst.lt
  have hw0 : w.heap.size < w1.heap.size := by omega
  clear hb hst0 hb0
  go_wp2_with fail
  refine bodyPost_ret (v := .tuple #[tval 0 false (.slice none 0 0), .int .i64 1]) (by simp [results, Try.results30, go_sem, hs0, hs1, hs2]) rfl ⟨_, rfl, RdK.nil _, ?_⟩
  exact ((hb1.setCell (by simp) _).setCell (by simp) _).setCell (by simp) _
set_option maxRecDepth 100000 in
set_option maxHeartbeats 2000000 in
theorem pctrack_2 (cap cl : Int) (fin : Bool) (sv : Value) (l : List T.Trk) (number : Int) (w : World) (hr : RdK w sv l) (hf : Few l) (hV : T.validB cap cl fin l = true) (hn : number < 1 ∨ (l.length : Int) < number) : Calls Try.prog 30 #[.int .i64 cap, tval cl fin sv, .int .i64 number] w (OpP (Res.bad 6) w) := by
  by_cases h1 : number < 1
  · have hd : decide (number < 1) = true := decide_eq_true h1
    clear hn h1
    obtain ⟨a, c, rfl, hac⟩ := RdS.form hr
    have hb0 := box2_below w cl fin (.slice a l.length c)
    have hcon := valid_any cap cl fin _ l _ (hr.keep hb0) hf
    have HCON := Lib.hid hcon; clear hcon
    have hst0 := St.new w cl fin (.slice a l.length c)
    have HV := Lib.hid hV; clear hV
    go_enter Try.func30, Try.ntmps30
    go_wp2_with fail
    refine HCON.out.mono ?_
    rintro e w1 ⟨rfl, hb⟩
    rw [HV.out]
    have hst := hst0.call hb
    have hb1 := hb0.trans (hb.mono hb0.size)
    obtain ⟨ht0, ht1, ht2, hs0, hs1, hs2, hf0, hf1⟩ := hst.facts
    have hw1 := hst.lt
    have hw0 : w.heap.size < w1.heap.size := by omega
    clear hb hst0 hb0
    go_wp2_with fail
    refine bodyPost_ret (v := .tuple #[tval 0 false (.slice none 0 0), .int .i64 6]) (by simp [results, Try.results30, go_sem, hs0, hs1, hs2]) rfl ⟨_, rfl, RdK.nil _, ?_⟩
    exact ((hb1.setCell (by simp) _).setCell (by simp) _).setCell (by simp) _
  · have hd : decide (number < 1) = false := decide_eq_false h1
    have hd2 : decide ((l.length : Int) < number) = true := decide_eq_true (by omega)
    clear hn
    obtain ⟨a, c, rfl, hac⟩ := RdS.form hr
    have hb0 := box2_below w cl fin (.slice a l.length c)
    have hcon := valid_any cap cl fin _ l _ (hr.keep hb0) hf
    have HCON := Lib.hid hcon; clear hcon
    have hst0 := St.new w cl fin (.slice a l.length c)
    have HV := Lib.hid hV; clear hV
    go_enter Try.func30, Try.ntmps30
    go_wp2_with fail
    refine HCON.out.mono ?_
    rintro e w1 ⟨rfl, hb⟩
    rw [HV.out]
    have hst := hst0.call hb
    have hb1 := hb0.trans (hb.mono hb0.size)
    obtain ⟨ht0, ht1, ht2, hs0, hs1, hs2, hf0, hf1⟩ := hst.facts
    have hw1 := hst.lt
    have hw0 : w.heap.size < w1.heap.size := by omega
    clear hb hst0 hb0
    go_wp2_with fail
    refine bodyPost_ret (v := .tuple #[tval 0 false (.slice none 0 0), .int .i64 6]) (by simp [results, Try.results30, go_sem, hs0, hs1, hs2]) rfl ⟨_, rfl, RdK.nil _, ?_⟩
    exact ((hb1.setCell (by simp) _).setCell (by simp) _).setCell (by simp) _
set_option maxRecDepth 100000 in
set_option maxHeartbeats 2000000 in
theorem rctrack_1 (cap cl : Int) (fin : Bool) (sv : Value) (l : List T.Trk) (number : Int) (w : World) (hr : RdK w sv l) (hf : Few l) (hV : T.validB cap cl fin l = false) : Calls Try.prog 34 #[.int .i64 cap, tval cl fin sv, .int .i64 number] w (OpP (Res.bad 1) w) := by
  obtain ⟨a, c, rfl, hac⟩ := RdS.form hr
  have hb0 := box2_below w cl fin (.slice a l.length c)
  have hcon := rvalid_any cap cl fin _ l _ (hr.keep hb0) hf
  have HCON := Lib.hid hcon; clear hcon
  have hst0 := St.new w cl fin (.slice a l.length c)
  have HV := Lib.hid hV; clear hV
  go_enter Try.func34, Try.ntmps34
  go_wp2_with fail
  refine HCON.out.mono ?_
  rintro e w1 ⟨rfl, hb⟩
  rw [HV.out]
  have hst := hst0.call hb
  have hb1 := hb0.trans (hb.mono hb0.size)
  obtain ⟨ht0, ht1, ht2, hs0, hs1, hs2, hf0, hf1⟩ := hst.facts
  have hw1 := hst.lt
  have hw0 : w.heap.size < w1.heap.size := by omega
  clear hb hst0 hb0
  go_wp2_with fail
  refine bodyPost_ret (v := .tuple #[tval 0 false (.slice none 0 0), .int .i64 1]) (by simp [results, Try.results34, go_sem, hs0, hs1, hs2]) rfl ⟨_, rfl, RdK.nil _, ?_⟩
  exact ((hb1.setCell (by simp) _).setCell (by simp) _).setCell (by simp) _
set_option maxRecDepth 100000 in
set_option maxHeartbeats 2000000 in
theorem rctrack_2 (cap cl : Int) (fin : Bool) (sv : Value) (l : List T.Trk) (number : Int) (w : World) (hr : RdK w sv l) (hf : Few l) (hV : T.validB cap cl fin l = true) (hn : number < 1 ∨ (l.length : Int) < number) : Calls Try.prog 34 #[.int .i64 cap, tval cl fin sv, .int .i64 number] w (OpP (Res.bad 6) w) := by
  by_cases h1 : number < 1
  · have hd : decide (number < 1) = true := decide_eq_true h1
    clear hn h1
    obtain ⟨a, c, rfl, hac⟩ := RdS.form hr
    have hb0 := box2_below w cl fin (.slice a l.length c)
    have hcon := rvalid_any cap cl fin _ l _ (hr.keep hb0) hf
    have HCON := Lib.hid hcon; clear hcon
    have hst0 := St.new w cl fin (.slice a l.length c)
    have HV := Lib.hid hV; clear hV
    go_enter Try.func34, Try.ntmps34
    go_wp2_with fail
    refine HCON.out.mono ?_
    rintro e w1 ⟨rfl, hb⟩
    rw [HV.out]
    have hst := hst0.call hb
    have hb1 := hb0.trans (hb.mono hb0.size)
    obtain ⟨ht0, ht1, ht2, hs0, hs1, hs2, hf0, hf1⟩ := hst.facts
    have hw1 := hst.lt
    have hw0 : w.heap.size < w1.heap.size := by omega
    clear hb hst0 hb0
    go_wp2_with fail
    refine bodyPost_ret (v := .tuple #[tval 0 false (.slice none 0 0), .int .i64 6]) (by simp [results, Try.results34, go_sem, hs0, hs1, hs2]) rfl ⟨_, rfl, RdK.nil _, ?_⟩
    exact ((hb1.setCell (by simp) _).setCell (by simp) _).setCell (by simp) _
  · have hd : decide (number < 1) = false := decide_eq_false h1
    have hd2 : decide ((l.length : Int) < number) = true := decide_eq_true (by omega)
    clear hn
    obtain ⟨a, c, rfl, hac⟩ := RdS.form hr
    have hb0 := box2_below w cl fin (.slice a l.length c)
    have hcon := rvalid_any cap cl fin _ l _ (hr.keep hb0) hf
    have HCON := Lib.hid hcon; clear hcon
    have hst0 := St.new w cl fin (.slice a l.length c)
    have HV := Lib.hid hV; clear hV
    go_enter Try.func34, Try.ntmps34
    go_wp2_with fail
    refine HCON.out.mono ?_
    rintro e w1 ⟨rfl, hb⟩
    rw [HV.out]
    have hst := hst0.call hb
    have hb1 := hb0.trans (hb.mono hb0.size)
    obtain ⟨ht0, ht1, ht2, hs0, hs1, hs2, hf0, hf1⟩ := hst.facts
    have hw1 := hst.lt
    have hw0 : w.heap.size < w1.heap.size := by omega
    clear hb hst0 hb0
    go_wp2_with fail
    refine bodyPost_ret (v := .tuple #[tval 0 false (.slice none 0 0), .int .i64 6]) (by simp [results, Try.results34, go_sem, hs0, hs1, hs2]) rfl ⟨_, rfl, RdK.nil _, ?_⟩
    exact ((hb1.setCell (by simp) _).setCell (by simp) _).setCell (by simp) _
set_option maxRecDepth 100000 in
set_option maxHeartbeats 6000000 in
theorem pctrack_3 (cap cl : Int) (fin : Bool) (sv : Value) (l : List T.Trk) (i : Nat) (w : World) (hr : RdK w sv l) (hf : Few l) (hil : i < l.length) (hV : T.validB cap cl fin l = true) (hs : (T.tr l i).sta ≠ 1) : Calls Try.prog 30 #[.int .i64 cap, tval cl fin sv, .int .i64 ((i : Int) + 1)] w (OpP (Res.bad 8) w) := by
  have HVR := Lib.hid (T.validB_true.1 hV).2.2.2.2.2.1
  have h99 := (T.validB_true.1 hV).2.2.1
  have hcap := (T.validB_true.1 hV).2.1
  have HFw := Lib.hid hf
  have hd : decide ((i : Int) + 1 < 1) = false := decide_eq_false (by omega)
  have hd2 : decide ((l.length : Int) < (i : Int) + 1) = false := decide_eq_false (by omega)
  have hi1 : (i : Int) + 1 - 1 = i := by omega
  have HI1 := Lib.hid hi1
  obtain ⟨x, hx⟩ : ∃ x, x = T.tr l i := ⟨_, rfl⟩
  have HX := Lib.hid hx
  obtain ⟨sm1, sm2, sm3, sm4, sm5, sm6, sm7⟩ := HFw.out.2 i hil
  have hgo := HVR.out i hil
  unfold T.okR at hgo
  rw [← hx] at sm1 sm2 sm3 sm4 sm5 sm6 sm7 hgo
  obtain ⟨g1, g2, g3, g4, g5, g6, g7, g8, g9, g10, g11, g12, g13, g14⟩ := hgo
  clear g1 g2 g3 g4 g5 g12 g13 g14
  have smst := sm3; have smlen := sm4
  unfold sm at sm3 sm4 sm5
  rw [← hx] at hs
  clear hx hi1
  have hd3 : (x.sta != 1) = true := by rw [bne_iff_ne]; exact hs
  clear hs
  obtain ⟨a, c, rfl, hac⟩ := RdS.form hr
  have hb0 := box2_below w cl fin (.slice a l.length c)
  have hcon := valid_any cap cl fin _ l _ (hr.keep hb0) hf
  have HCON := Lib.hid hcon; clear hcon
  have hst0 := St.new w cl fin (.slice a l.length c)
  have HV := Lib.hid hV; clear hV
  go_enter Try.func30, Try.ntmps30
  go_wp2_with fail
  refine HCON.out.mono ?_
  rintro e w1 ⟨rfl, hb⟩
  rw [HV.out]
  have hst := hst0.call hb
  have hb1 := hb0.trans (hb.mono hb0.size)
  obtain ⟨ht0, ht1, ht2, hs0, hs1, hs2, hf0, hf1⟩ := hst.facts
  have hw1 := hst.lt
  have hw0 : w.heap.size < w1.heap.size := by omega
  clear hb hst0 hb0
  have hrx := RdK.keep hr hb1
  go_wp2_with fail
  refine (clone_any cl fin _ l _ hrx (by omega)).mono ?_
  rintro e w3 ⟨v3, rfl, hown3, hb3⟩
  have hst3 := hst.call hb3
  have hb3' := hb1.trans (hb3.mono hb1.size)
  obtain ⟨gg, c3, rfl, hg1, hg2⟩ := own_addr hown3 (by omega)
  clear ht0 ht1 ht2 hs0 hs1 hs2 hf0 hf1
  obtain ⟨ht0, ht1, ht2, hs0, hs1, hs2, hf0, hf1⟩ := hst3.facts
  have hw4 := hst3.lt
  have hw5 : w.heap.size < w3.heap.size := by omega
  have hgN : w.heap.size + 1 < gg := by omega
  have hgn1 : ¬ w.heap.size = gg := by omega
  have hgn2 : ¬ w.heap.size + 1 = gg := by omega
  have hfg : ∀ k, w3.frozen? ⟨gg, k, none⟩ = false := fun k => hown3.frozenAt k
  have hrow := own_cells hown3 i hil
  rw [← HX.out] at hrow
  obtain ⟨hq0, hq1, hq2, hq3, hq4, hq5, hq6⟩ := rd7 hrow
  clear hrow
  have hix3 : ∀ W, (Instr.indexAt 22 (.slice (some ⟨gg, 0, none⟩) l.length c3) (.int .i64 (i : Int))).run Try.prog W = .ok (.pointer (some ⟨gg, i * 7, none⟩)) W := fun W =>
    (run_idxS (P := Try.prog) Try.underlying22 Try.sizeTrack (cap := c3) (rfl : some (⟨gg, 0, none⟩ : Addr) = _) hil _ rfl W).trans (by rw [Nat.zero_add])
  go_wp2_with fail
  go_quiet (fail)
  go_wp2_with fail
  refine bodyPost_ret (v := .tuple #[tval 0 false (.slice none 0 0), .int .i64 8]) (by simp [results, Try.results30, go_sem, hs0, hs1, hs2]) rfl ⟨_, rfl, RdK.nil _, ?_⟩
  exact (((Below.drewN (((hb3'.setCell (by simp) _).setCell (by simp) _).setCell (by simp) _) _).setCell (by simp) _).setCell (by simp) _).setCell (by simp) _
set_option maxRecDepth 100000 in
set_option maxHeartbeats 6000000 in
theorem pctrack_4 (cap cl : Int) (fin : Bool) (sv : Value) (l : List T.Trk) (i : Nat) (w : World) (hr : RdK w sv l) (hf : Few l) (hil : i < l.length) (hV : T.validB cap cl fin l = true) (hs : (T.tr l i).sta = 1) (hl : i + 1 ≠ l.length) (hx2 : (T.tr l i).nx ≠ (T.tr l i).st + (T.tr l i).len) : Calls Try.prog 30 #[.int .i64 cap, tval cl fin sv, .int .i64 ((i : Int) + 1)] w (OpP (Res.bad 8) w) := by
  have HVR := Lib.hid (T.validB_true.1 hV).2.2.2.2.2.1
  have h99 := (T.validB_true.1 hV).2.2.1
  have hcap := (T.validB_true.1 hV).2.1
  have HFw := Lib.hid hf
  have hd : decide ((i : Int) + 1 < 1) = false := decide_eq_false (by omega)
  have hd2 : decide ((l.length : Int) < (i : Int) + 1) = false := decide_eq_false (by omega)
  have hi1 : (i : Int) + 1 - 1 = i := by omega
  have HI1 := Lib.hid hi1
  obtain ⟨x, hx⟩ : ∃ x, x = T.tr l i := ⟨_, rfl⟩
  have HX := Lib.hid hx
  obtain ⟨sm1, sm2, sm3, sm4, sm5, sm6, sm7⟩ := HFw.out.2 i hil
  have hgo := HVR.out i hil
  unfold T.okR at hgo
  rw [← hx] at sm1 sm2 sm3 sm4 sm5 sm6 sm7 hgo
  obtain ⟨g1, g2, g3, g4, g5, g6, g7, g8, g9, g10, g11, g12, g13, g14⟩ := hgo
  clear g1 g2 g3 g4 g5 g12 g13 g14
  have smst := sm3; have smlen := sm4
  unfold sm at sm3 sm4 sm5
  rw [← hx] at hs hx2
  clear hx hi1
  have hd3 : (x.sta != 1) = false := by rw [bne_eq_false_iff_eq]; exact hs
  have hd4 : ((i : Int) + 1 == (l.length : Int)) = false := by rw [beq_eq_false_iff_ne]; omega
  have hd5 : (x.nx != x.st + x.len) = true := by rw [bne_iff_ne]; exact hx2
  clear hs hx2
  obtain ⟨a, c, rfl, hac⟩ := RdS.form hr
  have hb0 := box2_below w cl fin (.slice a l.length c)
  have hcon := valid_any cap cl fin _ l _ (hr.keep hb0) hf
  have HCON := Lib.hid hcon; clear hcon
  have hst0 := St.new w cl fin (.slice a l.length c)
  have HV := Lib.hid hV; clear hV
  go_enter Try.func30, Try.ntmps30
  go_wp2_with fail
  refine HCON.out.mono ?_
  rintro e w1 ⟨rfl, hb⟩
  rw [HV.out]
  have hst := hst0.call hb
  have hb1 := hb0.trans (hb.mono hb0.size)
  obtain ⟨ht0, ht1, ht2, hs0, hs1, hs2, hf0, hf1⟩ := hst.facts
  have hw1 := hst.lt
  have hw0 : w.heap.size < w1.heap.size := by omega
  clear hb hst0 hb0
  have hrx := RdK.keep hr hb1
  go_wp2_with fail
  refine (clone_any cl fin _ l _ hrx (by omega)).mono ?_
  rintro e w3 ⟨v3, rfl, hown3, hb3⟩
  have hst3 := hst.call hb3
  have hb3' := hb1.trans (hb3.mono hb1.size)
  obtain ⟨gg, c3, rfl, hg1, hg2⟩ := own_addr hown3 (by omega)
  clear ht0 ht1 ht2 hs0 hs1 hs2 hf0 hf1
  obtain ⟨ht0, ht1, ht2, hs0, hs1, hs2, hf0, hf1⟩ := hst3.facts
  have hw4 := hst3.lt
  have hw5 : w.heap.size < w3.heap.size := by omega
  have hgN : w.heap.size + 1 < gg := by omega
  have hgn1 : ¬ w.heap.size = gg := by omega
  have hgn2 : ¬ w.heap.size + 1 = gg := by omega
  have hfg : ∀ k, w3.frozen? ⟨gg, k, none⟩ = false := fun k => hown3.frozenAt k
  have hrow := own_cells hown3 i hil
  rw [← HX.out] at hrow
  obtain ⟨hq0, hq1, hq2, hq3, hq4, hq5, hq6⟩ := rd7 hrow
  clear hrow
  have hix3 : ∀ W, (Instr.indexAt 22 (.slice (some ⟨gg, 0, none⟩) l.length c3) (.int .i64 (i : Int))).run Try.prog W = .ok (.pointer (some ⟨gg, i * 7, none⟩)) W := fun W =>
    (run_idxS (P := Try.prog) Try.underlying22 Try.sizeTrack (cap := c3) (rfl : some (⟨gg, 0, none⟩ : Addr) = _) hil _ rfl W).trans (by rw [Nat.zero_add])
  go_wp2_with fail
  go_region_held3 (fun W => gg < W.heap.size ∧ W.cell? ⟨gg, i * 7, none⟩ = some (.int .i64 x.num) ∧ W.cell? ⟨gg, i * 7 + 1, none⟩ = some (.int .i64 x.ses) ∧ W.cell? ⟨gg, i * 7 + 2, none⟩ = some (.int .i64 x.st) ∧ W.cell? ⟨gg, i * 7 + 3, none⟩ = some (.int .i64 x.len) ∧ W.cell? ⟨gg, i * 7 + 4, none⟩ = some (.int .i64 x.nx) ∧ W.cell? ⟨gg, i * 7 + 5, none⟩ = some (.int .i64 x.sta) ∧ W.cell? ⟨gg, i * 7 + 6, none⟩ = some (.int .i64 x.pk)) (((try dsimp only); ((repeat' apply And.intro) <;> (first | (go_keep; done) | (go_simp; done) | (simp; omega))))) ((go_at_call 38; refine (end_any x _ smst smlen).mono ?_; rintro e w4 ⟨rfl, rfl⟩))
  go_wp2_with fail
  refine bodyPost_ret (v := .tuple #[tval 0 false (.slice none 0 0), .int .i64 8]) (by simp [results, Try.results30, go_sem, hs0, hs1, hs2, hw4]) rfl ⟨_, rfl, RdK.nil _, ?_⟩
  exact (((((((hb3'.setCell (by simp) _).setCell (by simp) _).setCell (by simp) _).setCell (by simp) _).setCell (by simp) _).setCell (by simp) _).alloc (by simp; omega) _).drew
set_option maxRecDepth 100000 in
set_option maxHeartbeats 6000000 in
theorem pctrack_5 (cap cl : Int) (fin : Bool) (sv : Value) (l : List T.Trk) (i : Nat) (w : World) (hr : RdK w sv l) (hf : Few l) (hil : i < l.length) (hV : T.validB cap cl fin l = true) (hs : (T.tr l i).sta = 1) (hl : i + 1 = l.length) : Calls Try.prog 30 #[.int .i64 cap, tval cl fin sv, .int .i64 ((i : Int) + 1)] w (OpP ⟨cl, fin, l.set i (T.shutT (T.tr l i)), 0⟩ w) := by
  have HVR := Lib.hid (T.validB_true.1 hV).2.2.2.2.2.1
  have h99 := (T.validB_true.1 hV).2.2.1
  have hcap := (T.validB_true.1 hV).2.1
  have HFw := Lib.hid hf
  have hd : decide ((i : Int) + 1 < 1) = false := decide_eq_false (by omega)
  have hd2 : decide ((l.length : Int) < (i : Int) + 1) = false := decide_eq_false (by omega)
  have hi1 : (i : Int) + 1 - 1 = i := by omega
  have HI1 := Lib.hid hi1
  obtain ⟨x, hx⟩ : ∃ x, x = T.tr l i := ⟨_, rfl⟩
  have HX := Lib.hid hx
  obtain ⟨sm1, sm2, sm3, sm4, sm5, sm6, sm7⟩ := HFw.out.2 i hil
  have hgo := HVR.out i hil
  unfold T.okR at hgo
  rw [← hx] at sm1 sm2 sm3 sm4 sm5 sm6 sm7 hgo
  obtain ⟨g1, g2, g3, g4, g5, g6, g7, g8, g9, g10, g11, g12, g13, g14⟩ := hgo
  clear g1 g2 g3 g4 g5 g12 g13 g14
  have smst := sm3; have smlen := sm4
  unfold sm at sm3 sm4 sm5
  rw [← hx] at hs ⊢
  clear hx hi1
  have hd3 : (x.sta != 1) = false := by rw [bne_eq_false_iff_eq]; exact hs
  have hd4 : ((i : Int) + 1 == (l.length : Int)) = true := by rw [beq_iff_eq]; omega
  have HL := Lib.hid hl; clear hl
  clear hs
  obtain ⟨a, c, rfl, hac⟩ := RdS.form hr
  have hb0 := box2_below w cl fin (.slice a l.length c)
  have hcon := valid_any cap cl fin _ l _ (hr.keep hb0) hf
  have HCON := Lib.hid hcon; clear hcon
  have hst0 := St.new w cl fin (.slice a l.length c)
  have HV := Lib.hid hV; clear hV
  go_enter Try.func30, Try.ntmps30
  go_wp2_with fail
  refine HCON.out.mono ?_
  rintro e w1 ⟨rfl, hb⟩
  rw [HV.out]
  have hst := hst0.call hb
  have hb1 := hb0.trans (hb.mono hb0.size)
  obtain ⟨ht0, ht1, ht2, hs0, hs1, hs2, hf0, hf1⟩ := hst.facts
  have hw1 := hst.lt
  have hw0 : w.heap.size < w1.heap.size := by omega
  clear hb hst0 hb0
  have hrx := RdK.keep hr hb1
  go_wp2_with fail
  refine (clone_any cl fin _ l _ hrx (by omega)).mono ?_
  rintro e w3 ⟨v3, rfl, hown3, hb3⟩
  have hst3 := hst.call hb3
  have hb3' := hb1.trans (hb3.mono hb1.size)
  obtain ⟨gg, c3, rfl, hg1, hg2⟩ := own_addr hown3 (by omega)
  clear ht0 ht1 ht2 hs0 hs1 hs2 hf0 hf1
  obtain ⟨ht0, ht1, ht2, hs0, hs1, hs2, hf0, hf1⟩ := hst3.facts
  have hw4 := hst3.lt
  have hw5 : w.heap.size < w3.heap.size := by omega
  have hgN : w.heap.size + 1 < gg := by omega
  have hgn1 : ¬ w.heap.size = gg := by omega
  have hgn2 : ¬ w.heap.size + 1 = gg := by omega
  have hfg : ∀ k, w3.frozen? ⟨gg, k, none⟩ = false := fun k => hown3.frozenAt k
  have hrow := own_cells hown3 i hil
  rw [← HX.out] at hrow
  obtain ⟨hq0, hq1, hq2, hq3, hq4, hq5, hq6⟩ := rd7 hrow
  clear hrow
  have hix3 : ∀ W, (Instr.indexAt 22 (.slice (some ⟨gg, 0, none⟩) l.length c3) (.int .i64 (i : Int))).run Try.prog W = .ok (.pointer (some ⟨gg, i * 7, none⟩)) W := fun W =>
    (run_idxS (P := Try.prog) Try.underlying22 Try.sizeTrack (cap := c3) (rfl : some (⟨gg, 0, none⟩ : Addr) = _) hil _ rfl W).trans (by rw [Nat.zero_add])
  go_wp2_with fail
  go_quiet (fail)
  go_wp2_with fail
  go_region
  all_goals
    go_wp2_with fail
    have hlb : w.heap.size + 1 < w1.heap.size := hst.lt
    refine bodyPost_ret (v := .tuple #[tval cl fin (.slice (some ⟨gg, 0, none⟩) l.length c3), .int .i64 0]) (by simp [results, Try.results30, go_sem, hs0, hs1, hs2]) rfl ⟨_, rfl, ?_, ?_⟩
    · have e0 := own_set (own_set (own_set hown3 (p := ⟨w.heap.size, 0, none⟩) (by simp only; omega) (.int .i64 cl)) (p := ⟨w.heap.size, 1, none⟩) (by simp only; omega) (.bool fin)) (p := ⟨w.heap.size, 2, none⟩) (by simp only; omega) (.slice (some ⟨gg, 0, none⟩) l.length c3)
      have e0' := own_drewN e0 nq
      have e1 := own_fld e0' i 5 hil (by omega) (.int .i64 2) { x with sta := 2 } (by rw [← HX.out]; rfl)
      have e2 := own_fld e1 i 3 (by simpa using hil) (by omega) (.int .i64 (x.nx - x.st)) (T.shutT x) (by rw [T.tr_set_eq _ _ _ hil]; rfl)
      rw [List.set_set] at e2
      have e3 := own_set (own_set (own_set e2 (p := ⟨w.heap.size + 1, 0, none⟩) (by simp only; omega) (.int .i64 cl)) (p := ⟨w.heap.size + 1, 1, none⟩) (by simp only; omega) (.bool fin)) (p := ⟨w.heap.size + 1, 2, none⟩) (by simp only; omega) (.slice (some ⟨gg, 0, none⟩) l.length c3)
      have e4 := RdK.ofOwn (l := l.set i (T.shutT x)) (by rw [List.length_set]; exact e3)
      exact RdK.drew e4
    · exact ((((((Below.drewN (((hb3'.setCell (by simp) _).setCell (by simp) _).setCell (by simp) _) _).setCell (by simp only; omega) _).setCell (by simp only; omega) _).setCell (by simp) _).setCell (by simp) _).setCell (by simp) _).drew
set_option maxRecDepth 100000 in
set_option maxHeartbeats 6000000 in
theorem pctrack_6 (cap cl : Int) (fin : Bool) (sv : Value) (l : List T.Trk) (i : Nat) (w : World) (hr : RdK w sv l) (hf : Few l) (hil : i < l.length) (hV : T.validB cap cl fin l = true) (hs : (T.tr l i).sta = 1) (hl : i + 1 ≠ l.length) (hx2 : (T.tr l i).nx = (T.tr l i).st + (T.tr l i).len) : Calls Try.prog 30 #[.int .i64 cap, tval cl fin sv, .int .i64 ((i : Int) + 1)] w (OpP ⟨cl, fin, l.set i (T.shutT (T.tr l i)), 0⟩ w) := by
  have HVR := Lib.hid (T.validB_true.1 hV).2.2.2.2.2.1
  have h99 := (T.validB_true.1 hV).2.2.1
  have hcap := (T.validB_true.1 hV).2.1
  have HFw := Lib.hid hf
  have hd : decide ((i : Int) + 1 < 1) = false := decide_eq_false (by omega)
  have hd2 : decide ((l.length : Int) < (i : Int) + 1) = false := decide_eq_false (by omega)
  have hi1 : (i : Int) + 1 - 1 = i := by omega
  have HI1 := Lib.hid hi1
  obtain ⟨x, hx⟩ : ∃ x, x = T.tr l i := ⟨_, rfl⟩
  have HX := Lib.hid hx
  obtain ⟨sm1, sm2, sm3, sm4, sm5, sm6, sm7⟩ := HFw.out.2 i hil
  have hgo := HVR.out i hil
  unfold T.okR at hgo
  rw [← hx] at sm1 sm2 sm3 sm4 sm5 sm6 sm7 hgo
  obtain ⟨g1, g2, g3, g4, g5, g6, g7, g8, g9, g10, g11, g12, g13, g14⟩ := hgo
  clear g1 g2 g3 g4 g5 g12 g13 g14
  have smst := sm3; have smlen := sm4
  unfold sm at sm3 sm4 sm5
  rw [← hx] at hs hx2 ⊢
  clear hx hi1
  have hd3 : (x.sta != 1) = false := by rw [bne_eq_false_iff_eq]; exact hs
  have hd4 : ((i : Int) + 1 == (l.length : Int)) = false := by rw [beq_eq_false_iff_ne]; omega
  have hd5 : (x.nx != x.st + x.len) = false := by rw [bne_eq_false_iff_eq]; exact hx2
  have hys : T.shutT x = { x with sta := 2 } := by unfold T.shutT; rw [show x.nx - x.st = x.len by omega]
  have HYS := Lib.hid hys; clear hys
  clear hs hx2
  obtain ⟨a, c, rfl, hac⟩ := RdS.form hr
  have hb0 := box2_below w cl fin (.slice a l.length c)
  have hcon := valid_any cap cl fin _ l _ (hr.keep hb0) hf
  have HCON := Lib.hid hcon; clear hcon
  have hst0 := St.new w cl fin (.slice a l.length c)
  have HV := Lib.hid hV; clear hV
  go_enter Try.func30, Try.ntmps30
  go_wp2_with fail
  refine HCON.out.mono ?_
  rintro e w1 ⟨rfl, hb⟩
  rw [HV.out]
  have hst := hst0.call hb
  have hb1 := hb0.trans (hb.mono hb0.size)
  obtain ⟨ht0, ht1, ht2, hs0, hs1, hs2, hf0, hf1⟩ := hst.facts
  have hw1 := hst.lt
  have hw0 : w.heap.size < w1.heap.size := by omega
  clear hb hst0 hb0
  have hrx := RdK.keep hr hb1
  go_wp2_with fail
  refine (clone_any cl fin _ l _ hrx (by omega)).mono ?_
  rintro e w3 ⟨v3, rfl, hown3, hb3⟩
  have hst3 := hst.call hb3
  have hb3' := hb1.trans (hb3.mono hb1.size)
  obtain ⟨gg, c3, rfl, hg1, hg2⟩ := own_addr hown3 (by omega)
  clear ht0 ht1 ht2 hs0 hs1 hs2 hf0 hf1
  obtain ⟨ht0, ht1, ht2, hs0, hs1, hs2, hf0, hf1⟩ := hst3.facts
  have hw4 := hst3.lt
  have hw5 : w.heap.size < w3.heap.size := by omega
  have hgN : w.heap.size + 1 < gg := by omega
  have hgn1 : ¬ w.heap.size = gg := by omega
  have hgn2 : ¬ w.heap.size + 1 = gg := by omega
  have hfg : ∀ k, w3.frozen? ⟨gg, k, none⟩ = false := fun k => hown3.frozenAt k
  have hrow := own_cells hown3 i hil
  rw [← HX.out] at hrow
  obtain ⟨hq0, hq1, hq2, hq3, hq4, hq5, hq6⟩ := rd7 hrow
  clear hrow
  have hix3 : ∀ W, (Instr.indexAt 22 (.slice (some ⟨gg, 0, none⟩) l.length c3) (.int .i64 (i : Int))).run Try.prog W = .ok (.pointer (some ⟨gg, i * 7, none⟩)) W := fun W =>
    (run_idxS (P := Try.prog) Try.underlying22 Try.sizeTrack (cap := c3) (rfl : some (⟨gg, 0, none⟩ : Addr) = _) hil _ rfl W).trans (by rw [Nat.zero_add])
  go_wp2_with fail
  go_region_held3 (fun W => gg < W.heap.size ∧ W.cell? ⟨gg, i * 7, none⟩ = some (.int .i64 x.num) ∧ W.cell? ⟨gg, i * 7 + 1, none⟩ = some (.int .i64 x.ses) ∧ W.cell? ⟨gg, i * 7 + 2, none⟩ = some (.int .i64 x.st) ∧ W.cell? ⟨gg, i * 7 + 3, none⟩ = some (.int .i64 x.len) ∧ W.cell? ⟨gg, i * 7 + 4, none⟩ = some (.int .i64 x.nx) ∧ W.cell? ⟨gg, i * 7 + 5, none⟩ = some (.int .i64 x.sta) ∧ W.cell? ⟨gg, i * 7 + 6, none⟩ = some (.int .i64 x.pk)) (((try dsimp only); ((repeat' apply And.intro) <;> (first | (go_keep; done) | (go_simp; done) | (simp; omega))))) ((go_at_call 38; refine (end_any x _ smst smlen).mono ?_; rintro e w4 ⟨rfl, rfl⟩))
  go_wp2_with fail
  refine bodyPost_ret (v := .tuple #[tval cl fin (.slice (some ⟨gg, 0, none⟩) l.length c3), .int .i64 0]) (by simp [results, Try.results30, go_sem, hs0, hs1, hs2, hw4]) rfl ⟨_, rfl, ?_, ?_⟩
  · have hlb : w.heap.size + 1 < w1.heap.size := hst.lt
    have e0 := own_set (own_set (own_set hown3 (p := ⟨w.heap.size, 0, none⟩) (by simp only; omega) (.int .i64 cl)) (p := ⟨w.heap.size, 1, none⟩) (by simp only; omega) (.bool fin)) (p := ⟨w.heap.size, 2, none⟩) (by simp only; omega) (.slice (some ⟨gg, 0, none⟩) l.length c3)
    have e1 := own_fld e0 i 5 hil (by omega) (.int .i64 2) (T.shutT x) (by rw [← HX.out, HYS.out]; rfl)
    have e2 := own_set (own_set (own_set e1 (p := ⟨w.heap.size + 1, 0, none⟩) (by simp only; omega) (.int .i64 cl)) (p := ⟨w.heap.size + 1, 1, none⟩) (by simp only; omega) (.bool fin)) (p := ⟨w.heap.size + 1, 2, none⟩) (by simp only; omega) (.slice (some ⟨gg, 0, none⟩) l.length c3)
    have e3 := own_kept e2 ((Below.refl _ _).alloc (Nat.le_refl _) (tobj x)).block
    have e4 := RdK.ofOwn (l := l.set i (T.shutT x)) (by rw [List.length_set]; exact e3)
    exact RdK.drew e4
  · exact ((((((((hb3'.setCell (by simp) _).setCell (by simp) _).setCell (by simp) _).setCell (by simp only; omega) _).setCell (by simp) _).setCell (by simp) _).setCell (by simp) _).alloc (by simp; omega) _).drew
end Go.Proofs.Ytiioojlihapdaaa
