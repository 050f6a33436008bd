/- CloseTrack of the reference walked (chapter 14). -/
import Derived.Test.YtiioojlihapdaaaTkCt
import Derived.Outline
namespace Go.Proofs.Ytiioojlihapdaaa
open Go.RowKit
set_option linter.unusedVariables false

set_option maxRecDepth 100000 in
set_option maxHeartbeats 6000000 in
theorem rctrack_3 (cap cl : Int) (fin : Bool) (sv : Value) (l : List T.Trk) (i : Nat) (w : World) (hr : RdK w sv l) (hf : Few l) (hil : i < l.length) (hV : T.validB cap cl fin l = true) (hs : (T.tr l i).sta ≠ 1) : Calls Try.prog 34 #[.int .i64 cap, tval cl fin sv, .int .i64 ((i : Int) + 1)] w (OpP (Res.bad 8) w) := by
  have HVR := Lib.hid (T.validB_true.1 hV).2.2.2.2.2.1
  have h99 := (T.validB_true.1 hV).2.2.1
  have hcap := (T.validB_true.1 hV).2.1
  have HFw := Lib.hid hf
  have hd : decide ((i : Int) + 1 < 1) = false := decide_eq_false (by omega)
  have hd2 : decide ((l.length : Int) < (i : Int) + 1) = false := decide_eq_false (by omega)
  have hi1 : (i : Int) + 1 - 1 = i := by omega
  have HI1 := Lib.hid hi1
  obtain ⟨x, hx⟩ : ∃ x, x = T.tr l i := ⟨_, rfl⟩
  have HX := Lib.hid hx
  obtain ⟨sm1, sm2, sm3, sm4, sm5, sm6, sm7⟩ := HFw.out.2 i hil
  have hgo := HVR.out i hil
  unfold T.okR at hgo
  rw [← hx] at sm1 sm2 sm3 sm4 sm5 sm6 sm7 hgo
  obtain ⟨g1, g2, g3, g4, g5, g6, g7, g8, g9, g10, g11, g12, g13, g14⟩ := hgo
  clear g1 g2 g3 g4 g5 g12 g13 g14
  have smst := sm3; have smlen := sm4
  unfold sm at sm3 sm4 sm5
  rw [← hx] at hs
  clear hx hi1
  have hd3 : (x.sta != 1) = true := by rw [bne_iff_ne]; exact hs
  clear hs
  obtain ⟨a, c, rfl, hac⟩ := RdS.form hr
  have hb0 := box2_below w cl fin (.slice a l.length c)
  have hcon := rvalid_any cap cl fin _ l _ (hr.keep hb0) hf
  have HCON := Lib.hid hcon; clear hcon
  have hst0 := St.new w cl fin (.slice a l.length c)
  have HV := Lib.hid hV; clear hV
  go_enter Try.func34, Try.ntmps34
  go_wp2_with fail
  refine HCON.out.mono ?_
  rintro e w1 ⟨rfl, hb⟩
  rw [HV.out]
  have hst := hst0.call hb
  have hb1 := hb0.trans (hb.mono hb0.size)
  obtain ⟨ht0, ht1, ht2, hs0, hs1, hs2, hf0, hf1⟩ := hst.facts
  have hw1 := hst.lt
  have hw0 : w.heap.size < w1.heap.size := by omega
  clear hb hst0 hb0
  have hrx := RdK.keep hr hb1
  have HRX := Lib.hid hrx
  obtain ⟨a', c', b, off, hv', hac', hcell⟩ := hrx
  obtain ⟨rfl, rfl⟩ : a = a' ∧ c = c' := by injection hv' with h1 h2 h3; exact ⟨h1, h3⟩
  obtain ⟨ha, hrange⟩ := hcell i hil
  simp only at hrange
  rw [← HX.out] at hrange
  clear hcell hv'
  have hix := fun w' => run_idxS Try.underlying22 Try.sizeTrack (cap := c) ha hil _ rfl w'
  obtain ⟨hc0, hc1, hc2, hc3, hc4, hc5, hc6⟩ := rd7 hrange
  have hbl := World.block_lt_of_cell? w1 _ hc0
  simp only at hbl
  have Ha := Lib.hid ha; clear ha hrange
  go_wp2_with fail
  refine bodyPost_ret (v := .tuple #[tval 0 false (.slice none 0 0), .int .i64 8]) (by simp [results, Try.results34, go_sem, hs0, hs1, hs2, hw1]) rfl ⟨_, rfl, RdK.nil _, ?_⟩
  exact (((hb1.setCell (by simp) _).setCell (by simp) _).setCell (by simp) _).alloc (by simp; omega) _
set_option maxRecDepth 100000 in
set_option maxHeartbeats 6000000 in
theorem rctrack_4 (cap cl : Int) (fin : Bool) (sv : Value) (l : List T.Trk) (i : Nat) (w : World) (hr : RdK w sv l) (hf : Few l) (hil : i < l.length) (hV : T.validB cap cl fin l = true) (hs : (T.tr l i).sta = 1) (hl : i + 1 ≠ l.length) (hx2 : (T.tr l i).nx ≠ (T.tr l i).st + (T.tr l i).len) : Calls Try.prog 34 #[.int .i64 cap, tval cl fin sv, .int .i64 ((i : Int) + 1)] w (OpP (Res.bad 8) w) := by
  have HVR := Lib.hid (T.validB_true.1 hV).2.2.2.2.2.1
  have h99 := (T.validB_true.1 hV).2.2.1
  have hcap := (T.validB_true.1 hV).2.1
  have HFw := Lib.hid hf
  have hd : decide ((i : Int) + 1 < 1) = false := decide_eq_false (by omega)
  have hd2 : decide ((l.length : Int) < (i : Int) + 1) = false := decide_eq_false (by omega)
  have hi1 : (i : Int) + 1 - 1 = i := by omega
  have HI1 := Lib.hid hi1
  obtain ⟨x, hx⟩ : ∃ x, x = T.tr l i := ⟨_, rfl⟩
  have HX := Lib.hid hx
  obtain ⟨sm1, sm2, sm3, sm4, sm5, sm6, sm7⟩ := HFw.out.2 i hil
  have hgo := HVR.out i hil
  unfold T.okR at hgo
  rw [← hx] at sm1 sm2 sm3 sm4 sm5 sm6 sm7 hgo
  obtain ⟨g1, g2, g3, g4, g5, g6, g7, g8, g9, g10, g11, g12, g13, g14⟩ := hgo
  clear g1 g2 g3 g4 g5 g12 g13 g14
  have smst := sm3; have smlen := sm4
  unfold sm at sm3 sm4 sm5
  rw [← hx] at hs hx2
  clear hx hi1
  have hd3 : (x.sta != 1) = false := by rw [bne_eq_false_iff_eq]; exact hs
  have hd4 : ((i : Int) + 1 == (l.length : Int)) = false := by rw [beq_eq_false_iff_ne]; omega
  have hd5 : (x.nx != x.st + x.len) = true := by rw [bne_iff_ne]; exact hx2
  clear hs hx2
  obtain ⟨a, c, rfl, hac⟩ := RdS.form hr
  have hb0 := box2_below w cl fin (.slice a l.length c)
  have hcon := rvalid_any cap cl fin _ l _ (hr.keep hb0) hf
  have HCON := Lib.hid hcon; clear hcon
  have hst0 := St.new w cl fin (.slice a l.length c)
  have HV := Lib.hid hV; clear hV
  go_enter Try.func34, Try.ntmps34
  go_wp2_with fail
  refine HCON.out.mono ?_
  rintro e w1 ⟨rfl, hb⟩
  rw [HV.out]
  have hst := hst0.call hb
  have hb1 := hb0.trans (hb.mono hb0.size)
  obtain ⟨ht0, ht1, ht2, hs0, hs1, hs2, hf0, hf1⟩ := hst.facts
  have hw1 := hst.lt
  have hw0 : w.heap.size < w1.heap.size := by omega
  clear hb hst0 hb0
  have hrx := RdK.keep hr hb1
  have HRX := Lib.hid hrx
  obtain ⟨a', c', b, off, hv', hac', hcell⟩ := hrx
  obtain ⟨rfl, rfl⟩ : a = a' ∧ c = c' := by injection hv' with h1 h2 h3; exact ⟨h1, h3⟩
  obtain ⟨ha, hrange⟩ := hcell i hil
  simp only at hrange
  rw [← HX.out] at hrange
  clear hcell hv'
  have hix := fun w' => run_idxS Try.underlying22 Try.sizeTrack (cap := c) ha hil _ rfl w'
  obtain ⟨hc0, hc1, hc2, hc3, hc4, hc5, hc6⟩ := rd7 hrange
  have hbl := World.block_lt_of_cell? w1 _ hc0
  simp only at hbl
  have Ha := Lib.hid ha; clear ha hrange
  go_wp2_with fail
  refine bodyPost_ret (v := .tuple #[tval 0 false (.slice none 0 0), .int .i64 8]) (by simp [results, Try.results34, go_sem, hs0, hs1, hs2, hw1]) rfl ⟨_, rfl, RdK.nil _, ?_⟩
  exact (((hb1.setCell (by simp) _).setCell (by simp) _).setCell (by simp) _).alloc (by simp; omega) _
set_option maxRecDepth 100000 in
set_option maxHeartbeats 6000000 in
theorem rctrack_5 (cap cl : Int) (fin : Bool) (sv : Value) (l : List T.Trk) (i : Nat) (w : World) (hr : RdK w sv l) (hf : Few l) (hil : i < l.length) (hV : T.validB cap cl fin l = true) (hs : (T.tr l i).sta = 1) (hl : i + 1 = l.length) : Calls Try.prog 34 #[.int .i64 cap, tval cl fin sv, .int .i64 ((i : Int) + 1)] w (OpP ⟨cl, fin, l.set i (T.shutT (T.tr l i)), 0⟩ w) := by
  have HVR := Lib.hid (T.validB_true.1 hV).2.2.2.2.2.1
  have h99 := (T.validB_true.1 hV).2.2.1
  have hcap := (T.validB_true.1 hV).2.1
  have HFw := Lib.hid hf
  have hd : decide ((i : Int) + 1 < 1) = false := decide_eq_false (by omega)
  have hd2 : decide ((l.length : Int) < (i : Int) + 1) = false := decide_eq_false (by omega)
  have hi1 : (i : Int) + 1 - 1 = i := by omega
  have HI1 := Lib.hid hi1
  obtain ⟨x, hx⟩ : ∃ x, x = T.tr l i := ⟨_, rfl⟩
  have HX := Lib.hid hx
  obtain ⟨sm1, sm2, sm3, sm4, sm5, sm6, sm7⟩ := HFw.out.2 i hil
  have hgo := HVR.out i hil
  unfold T.okR at hgo
  rw [← hx] at sm1 sm2 sm3 sm4 sm5 sm6 sm7 hgo
  obtain ⟨g1, g2, g3, g4, g5, g6, g7, g8, g9, g10, g11, g12, g13, g14⟩ := hgo
  clear g1 g2 g3 g4 g5 g12 g13 g14
  have smst := sm3; have smlen := sm4
  unfold sm at sm3 sm4 sm5
  rw [← hx] at hs ⊢
  clear hx hi1
  have hd3 : (x.sta != 1) = false := by rw [bne_eq_false_iff_eq]; exact hs
  have hd4 : ((i : Int) + 1 == (l.length : Int)) = true := by rw [beq_iff_eq]; omega
  have HL := Lib.hid hl; clear hl
  clear hs
  obtain ⟨a, c, rfl, hac⟩ := RdS.form hr
  have hb0 := box2_below w cl fin (.slice a l.length c)
  have hcon := rvalid_any cap cl fin _ l _ (hr.keep hb0) hf
  have HCON := Lib.hid hcon; clear hcon
  have hst0 := St.new w cl fin (.slice a l.length c)
  have HV := Lib.hid hV; clear hV
  go_enter Try.func34, Try.ntmps34
  go_wp2_with fail
  refine HCON.out.mono ?_
  rintro e w1 ⟨rfl, hb⟩
  rw [HV.out]
  have hst := hst0.call hb
  have hb1 := hb0.trans (hb.mono hb0.size)
  obtain ⟨ht0, ht1, ht2, hs0, hs1, hs2, hf0, hf1⟩ := hst.facts
  have hw1 := hst.lt
  have hw0 : w.heap.size < w1.heap.size := by omega
  clear hb hst0 hb0
  have hrx := RdK.keep hr hb1
  have HRX := Lib.hid hrx
  obtain ⟨a', c', b, off, hv', hac', hcell⟩ := hrx
  obtain ⟨rfl, rfl⟩ : a = a' ∧ c = c' := by injection hv' with h1 h2 h3; exact ⟨h1, h3⟩
  obtain ⟨ha, hrange⟩ := hcell i hil
  simp only at hrange
  rw [← HX.out] at hrange
  clear hcell hv'
  have hix := fun w' => run_idxS Try.underlying22 Try.sizeTrack (cap := c) ha hil _ rfl w'
  obtain ⟨hc0, hc1, hc2, hc3, hc4, hc5, hc6⟩ := rd7 hrange
  have hbl := World.block_lt_of_cell? w1 _ hc0
  simp only at hbl
  have Ha := Lib.hid ha; clear ha hrange
  go_wp2_with fail
  refine (changed_any cl fin _ l i (T.shutT x) _ (HRX.out.keep ((Below.refl _ _).alloc (Nat.le_refl _) _)) (by omega) hil).mono ?_
  rintro e w3 ⟨v3, rfl, hown3, hb3⟩
  have hbx := hb1.alloc (by omega) (tobj (T.shutT x))
  have hstx := hst.alloc (tobj (T.shutT x))
  have hst3 := hstx.call hb3
  have hb3' := hbx.trans (hb3.mono hbx.size)
  obtain ⟨a3, c3, rfl, _⟩ := RdS.form (RdK.ofOwn hown3)
  clear ht0 ht1 ht2 hs0 hs1 hs2 hf0 hf1
  obtain ⟨ht0, ht1, ht2, hs0, hs1, hs2, hf0, hf1⟩ := hst3.facts
  have hw4 := hst3.lt
  go_wp2_with fail
  refine bodyPost_ret (v := .tuple #[tval cl fin (.slice a3 (l.set i (T.shutT x)).length c3), .int .i64 0]) (by simp [results, Try.results34, go_sem, hs0, hs1, hs2]) rfl ⟨_, rfl, ?_, ?_⟩
  · refine RdK.ofOwn (base := (w1.alloc (tobj (T.shutT x))).heap.size) (e := 40) ?_
    have hlb : w.heap.size + 1 < (w1.alloc (tobj (T.shutT x))).heap.size := by simp; omega
    exact own_set (own_set (own_set hown3 hlb _) hlb _) hlb _
  · exact ((hb3'.setCell (by simp) _).setCell (by simp) _).setCell (by simp) _
set_option maxRecDepth 100000 in
set_option maxHeartbeats 6000000 in
theorem rctrack_6 (cap cl : Int) (fin : Bool) (sv : Value) (l : List T.Trk) (i : Nat) (w : World) (hr : RdK w sv l) (hf : Few l) (hil : i < l.length) (hV : T.validB cap cl fin l = true) (hs : (T.tr l i).sta = 1) (hl : i + 1 ≠ l.length) (hx2 : (T.tr l i).nx = (T.tr l i).st + (T.tr l i).len) : Calls Try.prog 34 #[.int .i64 cap, tval cl fin sv, .int .i64 ((i : Int) + 1)] w (OpP ⟨cl, fin, l.set i (T.shutT (T.tr l i)), 0⟩ w) := by
  have HVR := Lib.hid (T.validB_true.1 hV).2.2.2.2.2.1
  have h99 := (T.validB_true.1 hV).2.2.1
  have hcap := (T.validB_true.1 hV).2.1
  have HFw := Lib.hid hf
  have hd : decide ((i : Int) + 1 < 1) = false := decide_eq_false (by omega)
  have hd2 : decide ((l.length : Int) < (i : Int) + 1) = false := decide_eq_false (by omega)
  have hi1 : (i : Int) + 1 - 1 = i := by omega
  have HI1 := Lib.hid hi1
  obtain ⟨x, hx⟩ : ∃ x, x = T.tr l i := ⟨_, rfl⟩
  have HX := Lib.hid hx
  obtain ⟨sm1, sm2, sm3, sm4, sm5, sm6, sm7⟩ := HFw.out.2 i hil
  have hgo := HVR.out i hil
  unfold T.okR at hgo
  rw [← hx] at sm1 sm2 sm3 sm4 sm5 sm6 sm7 hgo
  obtain ⟨g1, g2, g3, g4, g5, g6, g7, g8, g9, g10, g11, g12, g13, g14⟩ := hgo
  clear g1 g2 g3 g4 g5 g12 g13 g14
  have smst := sm3; have smlen := sm4
  unfold sm at sm3 sm4 sm5
  rw [← hx] at hs hx2 ⊢
  clear hx hi1
  have hd3 : (x.sta != 1) = false := by rw [bne_eq_false_iff_eq]; exact hs
  have hd4 : ((i : Int) + 1 == (l.length : Int)) = false := by rw [beq_eq_false_iff_ne]; omega
  have hd5 : (x.nx != x.st + x.len) = false := by rw [bne_eq_false_iff_eq]; exact hx2
  clear hs hx2
  obtain ⟨a, c, rfl, hac⟩ := RdS.form hr
  have hb0 := box2_below w cl fin (.slice a l.length c)
  have hcon := rvalid_any cap cl fin _ l _ (hr.keep hb0) hf
  have HCON := Lib.hid hcon; clear hcon
  have hst0 := St.new w cl fin (.slice a l.length c)
  have HV := Lib.hid hV; clear hV
  go_enter Try.func34, Try.ntmps34
  go_wp2_with fail
  refine HCON.out.mono ?_
  rintro e w1 ⟨rfl, hb⟩
  rw [HV.out]
  have hst := hst0.call hb
  have hb1 := hb0.trans (hb.mono hb0.size)
  obtain ⟨ht0, ht1, ht2, hs0, hs1, hs2, hf0, hf1⟩ := hst.facts
  have hw1 := hst.lt
  have hw0 : w.heap.size < w1.heap.size := by omega
  clear hb hst0 hb0
  have hrx := RdK.keep hr hb1
  have HRX := Lib.hid hrx
  obtain ⟨a', c', b, off, hv', hac', hcell⟩ := hrx
  obtain ⟨rfl, rfl⟩ : a = a' ∧ c = c' := by injection hv' with h1 h2 h3; exact ⟨h1, h3⟩
  obtain ⟨ha, hrange⟩ := hcell i hil
  simp only at hrange
  rw [← HX.out] at hrange
  clear hcell hv'
  have hix := fun w' => run_idxS Try.underlying22 Try.sizeTrack (cap := c) ha hil _ rfl w'
  obtain ⟨hc0, hc1, hc2, hc3, hc4, hc5, hc6⟩ := rd7 hrange
  have hbl := World.block_lt_of_cell? w1 _ hc0
  simp only at hbl
  have Ha := Lib.hid ha; clear ha hrange
  go_wp2_with fail
  refine (changed_any cl fin _ l i (T.shutT x) _ (HRX.out.keep ((Below.refl _ _).alloc (Nat.le_refl _) _)) (by omega) hil).mono ?_
  rintro e w3 ⟨v3, rfl, hown3, hb3⟩
  have hbx := hb1.alloc (by omega) (tobj (T.shutT x))
  have hstx := hst.alloc (tobj (T.shutT x))
  have hst3 := hstx.call hb3
  have hb3' := hbx.trans (hb3.mono hbx.size)
  obtain ⟨a3, c3, rfl, _⟩ := RdS.form (RdK.ofOwn hown3)
  clear ht0 ht1 ht2 hs0 hs1 hs2 hf0 hf1
  obtain ⟨ht0, ht1, ht2, hs0, hs1, hs2, hf0, hf1⟩ := hst3.facts
  have hw4 := hst3.lt
  go_wp2_with fail
  refine bodyPost_ret (v := .tuple #[tval cl fin (.slice a3 (l.set i (T.shutT x)).length c3), .int .i64 0]) (by simp [results, Try.results34, go_sem, hs0, hs1, hs2]) rfl ⟨_, rfl, ?_, ?_⟩
  · refine RdK.ofOwn (base := (w1.alloc (tobj (T.shutT x))).heap.size) (e := 40) ?_
    have hlb : w.heap.size + 1 < (w1.alloc (tobj (T.shutT x))).heap.size := by simp; omega
    exact own_set (own_set (own_set hown3 hlb _) hlb _) hlb _
  · exact ((hb3'.setCell (by simp) _).setCell (by simp) _).setCell (by simp) _

theorem ctrack_all {F : FuncId} (cap cl : Int) (fin : Bool) (sv : Value) (l : List T.Trk) (number : Int) (w : World)
    (c1 : T.validB cap cl fin l = false → Calls Try.prog F #[.int .i64 cap, tval cl fin sv, .int .i64 number] w (OpP (Res.bad 1) w))
    (c2 : T.validB cap cl fin l = true → number < 1 ∨ (l.length : Int) < number → Calls Try.prog F #[.int .i64 cap, tval cl fin sv, .int .i64 number] w (OpP (Res.bad 6) w))
    (c3 : ∀ i : Nat, i < l.length → T.validB cap cl fin l = true → (T.tr l i).sta ≠ 1 → Calls Try.prog F #[.int .i64 cap, tval cl fin sv, .int .i64 ((i : Int) + 1)] w (OpP (Res.bad 8) w))
    (c4 : ∀ i : Nat, i < l.length → T.validB cap cl fin l = true → (T.tr l i).sta = 1 → i + 1 ≠ l.length → (T.tr l i).nx ≠ (T.tr l i).st + (T.tr l i).len → Calls Try.prog F #[.int .i64 cap, tval cl fin sv, .int .i64 ((i : Int) + 1)] w (OpP (Res.bad 8) w))
    (c5 : ∀ i : Nat, i < l.length → T.validB cap cl fin l = true → (T.tr l i).sta = 1 → i + 1 = l.length → Calls Try.prog F #[.int .i64 cap, tval cl fin sv, .int .i64 ((i : Int) + 1)] w (OpP ⟨cl, fin, l.set i (T.shutT (T.tr l i)), 0⟩ w))
    (c6 : ∀ i : Nat, i < l.length → T.validB cap cl fin l = true → (T.tr l i).sta = 1 → i + 1 ≠ l.length → (T.tr l i).nx = (T.tr l i).st + (T.tr l i).len → Calls Try.prog F #[.int .i64 cap, tval cl fin sv, .int .i64 ((i : Int) + 1)] w (OpP ⟨cl, fin, l.set i (T.shutT (T.tr l i)), 0⟩ w)) :
    Calls Try.prog F #[.int .i64 cap, tval cl fin sv, .int .i64 number] w (OpP (closeTrackR cap cl fin l number) w) := by
  unfold closeTrackR
  cases hV : T.validB cap cl fin l with
  | false => rw [if_pos rfl]; exact c1 hV
  | true =>
    rw [if_neg (by simp)]
    by_cases hn : number < 1 ∨ (l.length : Int) < number
    · rw [if_pos hn]; exact c2 hV hn
    · rw [if_neg hn]
      obtain ⟨i, rfl⟩ : ∃ i : Nat, number = (i : Int) + 1 := ⟨(number - 1).toNat, by omega⟩
      have hi : i < l.length := by omega
      have e : ((i : Int) + 1).toNat - 1 = i := by omega
      rw [e]
      by_cases hs : (T.tr l i).sta = 1
      · by_cases hl : i + 1 = l.length
        · rw [if_neg (by simp [shutB, hs, hl])]; exact c5 i hi hV hs hl
        · by_cases hx : (T.tr l i).nx = (T.tr l i).st + (T.tr l i).len
          · rw [if_neg (by simp [shutB, hs, hx])]; exact c6 i hi hV hs hl hx
          · rw [if_pos (by simp [shutB, hl, hx])]; exact c4 i hi hV hs hl hx
      · rw [if_pos (by simp [shutB, hs])]; exact c3 i hi hV hs
theorem ctrack_any (cap cl : Int) (fin : Bool) (sv : Value) (l : List T.Trk) (number : Int) (w : World) (hr : RdK w sv l) (hf : Few l) :
    Calls Try.prog 30 #[.int .i64 cap, tval cl fin sv, .int .i64 number] w (OpP (closeTrackR cap cl fin l number) w) :=
  ctrack_all cap cl fin sv l number w (fun h => pctrack_1 cap cl fin sv l number w hr hf h) (fun h hn => pctrack_2 cap cl fin sv l number w hr hf h hn) (fun i hi hV hs => pctrack_3 cap cl fin sv l i w hr hf hi hV hs)
    (fun i hi hV hs hl hx => pctrack_4 cap cl fin sv l i w hr hf hi hV hs hl hx) (fun i hi hV hs hl => pctrack_5 cap cl fin sv l i w hr hf hi hV hs hl) (fun i hi hV hs hl hx => pctrack_6 cap cl fin sv l i w hr hf hi hV hs hl hx)
theorem rctrack_any (cap cl : Int) (fin : Bool) (sv : Value) (l : List T.Trk) (number : Int) (w : World) (hr : RdK w sv l) (hf : Few l) :
    Calls Try.prog 34 #[.int .i64 cap, tval cl fin sv, .int .i64 number] w (OpP (closeTrackR cap cl fin l number) w) :=
  ctrack_all cap cl fin sv l number w (fun h => rctrack_1 cap cl fin sv l number w hr hf h) (fun h hn => rctrack_2 cap cl fin sv l number w hr hf h hn) (fun i hi hV hs => rctrack_3 cap cl fin sv l i w hr hf hi hV hs)
    (fun i hi hV hs hl hx => rctrack_4 cap cl fin sv l i w hr hf hi hV hs hl hx) (fun i hi hV hs hl => rctrack_5 cap cl fin sv l i w hr hf hi hV hs hl) (fun i hi hV hs hl hx => rctrack_6 cap cl fin sv l i w hr hf hi hV hs hl hx)
end Go.Proofs.Ytiioojlihapdaaa
