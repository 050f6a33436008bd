/- Reserve of both walked (chapter 14). -/
import Derived.Test.YtiioojlihapdaaaTkE
import Derived.Deep.RegionHeld3
import Derived.Deep.RegionLaw
import Derived.Outline
namespace Go.Proofs.Ytiioojlihapdaaa
open Go.RowKit
set_option linter.unusedVariables false

theorem stN_eq (cl : Int) (l : List T.Trk) : (if l.length = 0 then (0 : Int) else if (T.tr l (l.length - 1)).ses < cl + 1 then (T.tr l (l.length - 1)).st + (T.tr l (l.length - 1)).len + 16 else (T.tr l (l.length - 1)).st + (T.tr l (l.length - 1)).len) = T.stN cl l := by
  unfold T.stN T.sB T.eB
  by_cases h : l.length = 0
  · rw [if_pos h, if_pos h]
  · rw [if_neg h, if_neg h, if_neg h, if_neg h]
    by_cases h2 : (T.tr l (l.length - 1)).ses < cl + 1
    · rw [if_pos h2, if_pos (by omega)]
    · rw [if_neg h2, if_neg (by omega)]
theorem stN_bds {cap cl : Int} {fin : Bool} {l : List T.Trk} (h : T.validR cap cl fin l) : 0 ≤ T.stN cl l ∧ T.stN cl l ≤ 449865 := by
  have := T.okR.bds h.2.1 h.2.2.2.2.2.1
  unfold T.stN
  split
  · omega
  · split <;> omega
instance (c p : Int) : Decidable (T.okPk c p) := by unfold T.okPk; infer_instance
def reserveR (cap cl : Int) (fin : Bool) (l : List T.Trk) (count pk : Int) : Res :=
  if T.validB cap cl fin l = false then Res.bad 1 else if fin = true then Res.bad 15 else if ¬ T.okPk count pk then Res.bad 1
  else if l.length = 99 ∨ cl = 16 then Res.bad 7 else if cap - T.stN cl l < count then Res.bad 12 else ⟨cl, fin, l ++ [T.newT cl l count pk], 0⟩

set_option maxRecDepth 100000 in
set_option maxHeartbeats 2000000 in
theorem preserve_1 (cap cl : Int) (fin : Bool) (sv : Value) (l : List T.Trk) (count pk : Int) (w : World) (hr : RdK w sv l) (hf : Few l) (hV : T.validB cap cl fin l = false) : Calls Try.prog 28 #[.int .i64 cap, tval cl fin sv, .int .i64 count, .int .i64 pk] w (OpP (Res.bad 1) w) := by
  obtain ⟨a, c, rfl, hac⟩ := RdS.form hr
  have hb0 := box2_below w cl fin (.slice a l.length c)
  have hcon := valid_any cap cl fin _ l _ (hr.keep hb0) hf
  have HCON := Lib.hid hcon; clear hcon
  have hst0 := St.new w cl fin (.slice a l.length c)
  have HV := Lib.hid hV; clear hV
  go_enter Try.func28, Try.ntmps28
  go_wp2_with fail
  refine HCON.out.mono ?_
  rintro e w1 ⟨rfl, hb⟩
  rw [HV.out]
  have hst := hst0.call hb
  have hb1 := hb0.trans (hb.mono hb0.size)
  obtain ⟨ht0, ht1, ht2, hs0, hs1, hs2, hf0, hf1⟩ := hst.facts
  have hw1 := hst.lt
  have hw0 : w.heap.size < w1.heap.size := by omega
  clear hb hst0 hb0
  go_wp2_with fail
  refine bodyPost_ret (v := .tuple #[tval 0 false (.slice none 0 0), .int .i64 1]) (by simp [results, Try.results28, go_sem, hs0, hs1, hs2]) rfl ⟨_, rfl, RdK.nil _, ?_⟩
  exact ((hb1.setCell (by simp) _).setCell (by simp) _).setCell (by simp) _
set_option maxRecDepth 100000 in
set_option maxHeartbeats 2000000 in
theorem preserve_2 (cap cl : Int) (sv : Value) (l : List T.Trk) (count pk : Int) (w : World) (hr : RdK w sv l) (hf : Few l) (hV : T.validB cap cl true l = true) : Calls Try.prog 28 #[.int .i64 cap, tval cl true sv, .int .i64 count, .int .i64 pk] w (OpP (Res.bad 15) w) := by
  obtain ⟨a, c, rfl, hac⟩ := RdS.form hr
  have hb0 := box2_below w cl true (.slice a l.length c)
  have hcon := valid_any cap cl true _ l _ (hr.keep hb0) hf
  have HCON := Lib.hid hcon; clear hcon
  have hst0 := St.new w cl true (.slice a l.length c)
  have HV := Lib.hid hV; clear hV
  go_enter Try.func28, Try.ntmps28
  go_wp2_with fail
  refine HCON.out.mono ?_
  rintro e w1 ⟨rfl, hb⟩
  rw [HV.out]
  have hst := hst0.call hb
  have hb1 := hb0.trans (hb.mono hb0.size)
  obtain ⟨ht0, ht1, ht2, hs0, hs1, hs2, hf0, hf1⟩ := hst.facts
  have hw1 := hst.lt
  have hw0 : w.heap.size < w1.heap.size := by omega
  clear hb hst0 hb0
  go_wp2_with fail
  refine bodyPost_ret (v := .tuple #[tval 0 false (.slice none 0 0), .int .i64 15]) (by simp [results, Try.results28, go_sem, hs0, hs1, hs2]) rfl ⟨_, rfl, RdK.nil _, ?_⟩
  exact ((hb1.setCell (by simp) _).setCell (by simp) _).setCell (by simp) _
set_option maxRecDepth 100000 in
set_option maxHeartbeats 2000000 in
theorem rreserve_1 (cap cl : Int) (fin : Bool) (sv : Value) (l : List T.Trk) (count pk : Int) (w : World) (hr : RdK w sv l) (hf : Few l) (hV : T.validB cap cl fin l = false) : Calls Try.prog 32 #[.int .i64 cap, tval cl fin sv, .int .i64 count, .int .i64 pk] w (OpP (Res.bad 1) w) := by
  obtain ⟨a, c, rfl, hac⟩ := RdS.form hr
  have hb0 := box2_below w cl fin (.slice a l.length c)
  have hcon := rvalid_any cap cl fin _ l _ (hr.keep hb0) hf
  have HCON := Lib.hid hcon; clear hcon
  have hst0 := St.new w cl fin (.slice a l.length c)
  have HV := Lib.hid hV; clear hV
  go_enter Try.func32, Try.ntmps32
  go_wp2_with fail
  refine HCON.out.mono ?_
  rintro e w1 ⟨rfl, hb⟩
  rw [HV.out]
  have hst := hst0.call hb
  have hb1 := hb0.trans (hb.mono hb0.size)
  obtain ⟨ht0, ht1, ht2, hs0, hs1, hs2, hf0, hf1⟩ := hst.facts
  have hw1 := hst.lt
  have hw0 : w.heap.size < w1.heap.size := by omega
  clear hb hst0 hb0
  go_wp2_with fail
  refine bodyPost_ret (v := .tuple #[tval 0 false (.slice none 0 0), .int .i64 1]) (by simp [results, Try.results32, go_sem, hs0, hs1, hs2]) rfl ⟨_, rfl, RdK.nil _, ?_⟩
  exact ((hb1.setCell (by simp) _).setCell (by simp) _).setCell (by simp) _
set_option maxRecDepth 100000 in
set_option maxHeartbeats 2000000 in
theorem rreserve_2 (cap cl : Int) (sv : Value) (l : List T.Trk) (count pk : Int) (w : World) (hr : RdK w sv l) (hf : Few l) (hV : T.validB cap cl true l = true) : Calls Try.prog 32 #[.int .i64 cap, tval cl true sv, .int .i64 count, .int .i64 pk] w (OpP (Res.bad 15) w) := by
  obtain ⟨a, c, rfl, hac⟩ := RdS.form hr
  have hb0 := box2_below w cl true (.slice a l.length c)
  have hcon := rvalid_any cap cl true _ l _ (hr.keep hb0) hf
  have HCON := Lib.hid hcon; clear hcon
  have hst0 := St.new w cl true (.slice a l.length c)
  have HV := Lib.hid hV; clear hV
  go_enter Try.func32, Try.ntmps32
  go_wp2_with fail
  refine HCON.out.mono ?_
  rintro e w1 ⟨rfl, hb⟩
  rw [HV.out]
  have hst := hst0.call hb
  have hb1 := hb0.trans (hb.mono hb0.size)
  obtain ⟨ht0, ht1, ht2, hs0, hs1, hs2, hf0, hf1⟩ := hst.facts
  have hw1 := hst.lt
  have hw0 : w.heap.size < w1.heap.size := by omega
  clear hb hst0 hb0
  go_wp2_with fail
  refine bodyPost_ret (v := .tuple #[tval 0 false (.slice none 0 0), .int .i64 15]) (by simp [results, Try.results32, go_sem, hs0, hs1, hs2]) rfl ⟨_, rfl, RdK.nil _, ?_⟩
  exact ((hb1.setCell (by simp) _).setCell (by simp) _).setCell (by simp) _
set_option maxRecDepth 100000 in
set_option maxHeartbeats 2000000 in
theorem preserve_3 (cap cl : Int) (sv : Value) (l : List T.Trk) (count pk : Int) (w : World) (hr : RdK w sv l) (hf : Few l) (hV : T.validB cap cl false l = true) (hp : ¬ T.okPk count pk) (hi : -9223372036854775808 ≤ count ∧ count ≤ 9223372036854775807) : Calls Try.prog 28 #[.int .i64 cap, tval cl false sv, .int .i64 count, .int .i64 pk] w (OpP (Res.bad 1) w) := by
  have HI := Lib.hid hi; clear hi
  have HP : Hid (decide (1 ≤ count ∧ 0 ≤ pk ∧ pk ≤ 1024 ∧ (0 < pk → count.tmod pk = 0)) = false) := Lib.hid (decide_eq_false hp); clear hp
  obtain ⟨a, c, rfl, hac⟩ := RdS.form hr
  have hb0 := box2_below w cl false (.slice a l.length c)
  have hcon := valid_any cap cl false _ l _ (hr.keep hb0) hf
  have HCON := Lib.hid hcon; clear hcon
  have hst0 := St.new w cl false (.slice a l.length c)
  have HV := Lib.hid hV; clear hV
  go_enter Try.func28, Try.ntmps28
  go_wp2_with fail
  refine HCON.out.mono ?_
  rintro e w1 ⟨rfl, hb⟩
  rw [HV.out]
  have hst := hst0.call hb
  have hb1 := hb0.trans (hb.mono hb0.size)
  obtain ⟨ht0, ht1, ht2, hs0, hs1, hs2, hf0, hf1⟩ := hst.facts
  have hw1 := hst.lt
  have hw0 : w.heap.size < w1.heap.size := by omega
  clear hb hst0 hb0
  go_wp2_with fail
  refine (packets_any count pk _ HI.out.1 HI.out.2).mono ?_
  rintro e w2 ⟨rfl, rfl⟩
  rw [HP.out]
  go_wp2_with fail
  refine bodyPost_ret (v := .tuple #[tval 0 false (.slice none 0 0), .int .i64 1]) (by simp [results, Try.results28, go_sem, hs0, hs1, hs2]) rfl ⟨_, rfl, RdK.nil _, ?_⟩
  exact ((hb1.setCell (by simp) _).setCell (by simp) _).setCell (by simp) _
set_option maxRecDepth 100000 in
set_option maxHeartbeats 2000000 in
theorem preserve_4 (cap cl : Int) (sv : Value) (l : List T.Trk) (count pk : Int) (w : World) (hr : RdK w sv l) (hf : Few l) (hV : T.validB cap cl false l = true) (hp : T.okPk count pk) (hi : -9223372036854775808 ≤ count ∧ count ≤ 9223372036854775807) (hx : l.length = 99 ∨ cl = 16) : Calls Try.prog 28 #[.int .i64 cap, tval cl false sv, .int .i64 count, .int .i64 pk] w (OpP (Res.bad 7) w) := by
  have HI := Lib.hid hi; clear hi
  have HP : Hid (decide (1 ≤ count ∧ 0 ≤ pk ∧ pk ≤ 1024 ∧ (0 < pk → count.tmod pk = 0)) = true) := Lib.hid (decide_eq_true hp); clear hp
  obtain ⟨a, c, rfl, hac⟩ := RdS.form hr
  have hb0 := box2_below w cl false (.slice a l.length c)
  have hcon := valid_any cap cl false _ l _ (hr.keep hb0) hf
  have HCON := Lib.hid hcon; clear hcon
  have hst0 := St.new w cl false (.slice a l.length c)
  have HV := Lib.hid hV; clear hV
  go_enter Try.func28, Try.ntmps28
  go_wp2_with fail
  refine HCON.out.mono ?_
  rintro e w1 ⟨rfl, hb⟩
  rw [HV.out]
  have hst := hst0.call hb
  have hb1 := hb0.trans (hb.mono hb0.size)
  obtain ⟨ht0, ht1, ht2, hs0, hs1, hs2, hf0, hf1⟩ := hst.facts
  have hw1 := hst.lt
  have hw0 : w.heap.size < w1.heap.size := by omega
  clear hb hst0 hb0
  have HX := Lib.hid hx; clear hx
  go_wp2_with fail
  refine (packets_any count pk _ HI.out.1 HI.out.2).mono ?_
  rintro e w2 ⟨rfl, rfl⟩
  rw [HP.out]
  by_cases h99 : l.length = 99
  · have hd : ((l.length : Int) == 99) = true := by rw [beq_iff_eq]; omega
    clear h99
    go_wp2_with fail
    refine bodyPost_ret (v := .tuple #[tval 0 false (.slice none 0 0), .int .i64 7]) (by simp [results, Try.results28, go_sem, hs0, hs1, hs2]) rfl ⟨_, rfl, RdK.nil _, ?_⟩
    exact ((hb1.setCell (by simp) _).setCell (by simp) _).setCell (by simp) _
  · have hd : ((l.length : Int) == 99) = false := by rw [beq_eq_false_iff_ne]; omega
    have hd2 : (cl == 16) = true := by rw [beq_iff_eq]; have := HX.out; omega
    clear h99
    go_wp2_with fail
    refine bodyPost_ret (v := .tuple #[tval 0 false (.slice none 0 0), .int .i64 7]) (by simp [results, Try.results28, go_sem, hs0, hs1, hs2]) rfl ⟨_, rfl, RdK.nil _, ?_⟩
    exact ((hb1.setCell (by simp) _).setCell (by simp) _).setCell (by simp) _
set_option maxRecDepth 100000 in
set_option maxHeartbeats 2000000 in
theorem preserve_5 (cap cl : Int) (sv : Value) (l : List T.Trk) (count pk : Int) (w : World) (hr : RdK w sv l) (hf : Few l) (hV : T.validB cap cl false l = true) (hp : T.okPk count pk) (hi : -9223372036854775808 ≤ count ∧ count ≤ 9223372036854775807) (hn : l.length ≠ 99) (hn2 : cl ≠ 16) (hx : cap - T.stN cl l < count) : Calls Try.prog 28 #[.int .i64 cap, tval cl false sv, .int .i64 count, .int .i64 pk] w (OpP (Res.bad 12) w) := by
  have HI := Lib.hid hi; clear hi
  have HP : Hid (decide (1 ≤ count ∧ 0 ≤ pk ∧ pk ≤ 1024 ∧ (0 < pk → count.tmod pk = 0)) = true) := Lib.hid (decide_eq_true hp)
  obtain ⟨pk1, pk2, pk3, pk4⟩ := hp
  have hvr := T.validB_true.1 hV
  obtain ⟨c1, c2, c3, c4, c5, _⟩ := hvr
  obtain ⟨at1, at2⟩ := stN_bds (T.validB_true.1 hV)
  clear pk4
  have hq1 : ((l.length : Int) == 99) = false := by rw [beq_eq_false_iff_ne]; omega
  have hq2 : (cl == 16) = false := by rw [beq_eq_false_iff_ne]; omega
  have HFw := Lib.hid hf
  obtain ⟨a, c, rfl, hac⟩ := RdS.form hr
  have hb0 := box2_below w cl false (.slice a l.length c)
  have hcon := valid_any cap cl false _ l _ (hr.keep hb0) hf
  have HCON := Lib.hid hcon; clear hcon
  have hst0 := St.new w cl false (.slice a l.length c)
  have HV := Lib.hid hV; clear hV
  go_enter Try.func28, Try.ntmps28
  go_wp2_with fail
  refine HCON.out.mono ?_
  rintro e w1 ⟨rfl, hb⟩
  rw [HV.out]
  have hst := hst0.call hb
  have hb1 := hb0.trans (hb.mono hb0.size)
  obtain ⟨ht0, ht1, ht2, hs0, hs1, hs2, hf0, hf1⟩ := hst.facts
  have hw1 := hst.lt
  have hw0 : w.heap.size < w1.heap.size := by omega
  clear hb hst0 hb0
  have hrx := RdK.keep hr hb1
  go_wp2_with fail
  refine (packets_any count pk _ HI.out.1 HI.out.2).mono ?_
  rintro e w2 ⟨rfl, rfl⟩
  rw [HP.out]
  go_wp2_with fail
  refine (start_any _ l.length l (cl + 1) _ hrx (by omega) HFw.out.2).mono ?_
  rintro e w2 ⟨rfl, hb2⟩
  rw [stN_eq]
  have hb2' := hb1.trans (hb2.mono hb1.size)
  have hst2 := hst.call hb2
  clear ht0 ht1 ht2 hs0 hs1 hs2 hf0 hf1
  obtain ⟨ht0, ht1, ht2, hs0, hs1, hs2, hf0, hf1⟩ := hst2.facts
  have hrx2 := RdK.keep hrx hb2
  have hw2 := hst2.lt
  have hw3 : w.heap.size < w2.heap.size := by omega
  obtain ⟨at_, hat⟩ : ∃ at_, at_ = T.stN cl l := ⟨_, rfl⟩
  rw [← hat] at at1 at2 hx ⊢
  have HAT := Lib.hid hat
  clear hb2 hst hb1 hrx hat
  have hd : decide (cap - at_ < count) = true := decide_eq_true hx
  go_wp2_with fail
  refine bodyPost_ret (v := .tuple #[tval 0 false (.slice none 0 0), .int .i64 12]) (by simp [results, Try.results28, go_sem, hs0, hs1, hs2]) rfl ⟨_, rfl, RdK.nil _, ?_⟩
  exact ((hb2'.setCell (by simp) _).setCell (by simp) _).setCell (by simp) _
set_option maxRecDepth 100000 in
set_option maxHeartbeats 2000000 in
theorem preserve_6 (cap cl : Int) (sv : Value) (l : List T.Trk) (count pk : Int) (w : World) (hr : RdK w sv l) (hf : Few l) (hV : T.validB cap cl false l = true) (hp : T.okPk count pk) (hi : -9223372036854775808 ≤ count ∧ count ≤ 9223372036854775807) (hn : l.length ≠ 99) (hn2 : cl ≠ 16) (hx : ¬ cap - T.stN cl l < count) : Calls Try.prog 28 #[.int .i64 cap, tval cl false sv, .int .i64 count, .int .i64 pk] w (OpP ⟨cl, false, l ++ [T.newT cl l count pk], 0⟩ w) := by
  have HI := Lib.hid hi; clear hi
  have HP : Hid (decide (1 ≤ count ∧ 0 ≤ pk ∧ pk ≤ 1024 ∧ (0 < pk → count.tmod pk = 0)) = true) := Lib.hid (decide_eq_true hp)
  obtain ⟨pk1, pk2, pk3, pk4⟩ := hp
  have hvr := T.validB_true.1 hV
  obtain ⟨c1, c2, c3, c4, c5, _⟩ := hvr
  obtain ⟨at1, at2⟩ := stN_bds (T.validB_true.1 hV)
  clear pk4
  have hq1 : ((l.length : Int) == 99) = false := by rw [beq_eq_false_iff_ne]; omega
  have hq2 : (cl == 16) = false := by rw [beq_eq_false_iff_ne]; omega
  have HFw := Lib.hid hf
  obtain ⟨a, c, rfl, hac⟩ := RdS.form hr
  have hb0 := box2_below w cl false (.slice a l.length c)
  have hcon := valid_any cap cl false _ l _ (hr.keep hb0) hf
  have HCON := Lib.hid hcon; clear hcon
  have hst0 := St.new w cl false (.slice a l.length c)
  have HV := Lib.hid hV; clear hV
  go_enter Try.func28, Try.ntmps28
  go_wp2_with fail
  refine HCON.out.mono ?_
  rintro e w1 ⟨rfl, hb⟩
  rw [HV.out]
  have hst := hst0.call hb
  have hb1 := hb0.trans (hb.mono hb0.size)
  obtain ⟨ht0, ht1, ht2, hs0, hs1, hs2, hf0, hf1⟩ := hst.facts
  have hw1 := hst.lt
  have hw0 : w.heap.size < w1.heap.size := by omega
  clear hb hst0 hb0
  have hrx := RdK.keep hr hb1
  go_wp2_with fail
  refine (packets_any count pk _ HI.out.1 HI.out.2).mono ?_
  rintro e w2 ⟨rfl, rfl⟩
  rw [HP.out]
  go_wp2_with fail
  refine (start_any _ l.length l (cl + 1) _ hrx (by omega) HFw.out.2).mono ?_
  rintro e w2 ⟨rfl, hb2⟩
  rw [stN_eq]
  have hb2' := hb1.trans (hb2.mono hb1.size)
  have hst2 := hst.call hb2
  clear ht0 ht1 ht2 hs0 hs1 hs2 hf0 hf1
  obtain ⟨ht0, ht1, ht2, hs0, hs1, hs2, hf0, hf1⟩ := hst2.facts
  have hrx2 := RdK.keep hrx hb2
  have hw2 := hst2.lt
  have hw3 : w.heap.size < w2.heap.size := by omega
  obtain ⟨at_, hat⟩ : ∃ at_, at_ = T.stN cl l := ⟨_, rfl⟩
  rw [← hat] at at1 at2 hx ⊢
  have HAT := Lib.hid hat
  clear hb2 hst hb1 hrx hat
  have hd : decide (cap - at_ < count) = false := decide_eq_false (by omega)
  go_wp2_with fail
  refine (clone_any cl false _ l _ hrx2 (by omega)).mono ?_
  rintro e w3 ⟨v3, rfl, hown3, hb3⟩
  have hst3 := hst2.call hb3
  have hb3' := hb2'.trans (hb3.mono hb2'.size)
  obtain ⟨a3, c3', rfl, _⟩ := RdS.form (RdK.ofOwn hown3)
  clear ht0 ht1 ht2 hs0 hs1 hs2 hf0 hf1
  obtain ⟨ht0, ht1, ht2, hs0, hs1, hs2, hf0, hf1⟩ := hst3.facts
  have hw4 := hst3.lt
  have hw5 : w.heap.size < w3.heap.size := by omega
  have hl1 : 0 ≤ cl + 1 := by omega
  obtain ⟨y, hy⟩ : ∃ y : T.Trk, y = ⟨(l.length : Int) + 1, cl + 1, at_, count, at_, 0, pk⟩ := ⟨_, rfl⟩
  have HY : Hid (y = T.newT cl l count pk) := Lib.hid (by rw [hy, HAT.out]; rfl)
  have hyf : y.num = (l.length : Int) + 1 ∧ y.ses = cl + 1 ∧ y.st = at_ ∧ y.len = count ∧ y.nx = at_ ∧ y.sta = 0 ∧ y.pk = pk := by rw [hy]; exact ⟨rfl, rfl, rfl, rfl, rfl, rfl, rfl⟩
  obtain ⟨hyf0, hyf1, hyf2, hyf3, hyf4, hyf5, hyf6⟩ := hyf
  clear hy
  have hstA := (hst3.put cl false (.slice a3 l.length c3')).alloc (tobj y)
  have hownA := own_kept (own_set (own_set (own_set hown3 (p := ⟨w.heap.size, 0, none⟩) (by simp only; omega) (.int .i64 cl)) (p := ⟨w.heap.size, 1, none⟩) (by simp only; omega) (.bool false)) (p := ⟨w.heap.size, 2, none⟩) (by simp only; omega) (.slice a3 l.length c3'))
    ((Below.refl _ _).alloc (Nat.le_refl _) (tobj y)).block
  have hrA := RdK.one (((w3.setCell ⟨w.heap.size, 0, none⟩ (.int .i64 cl)).setCell ⟨w.heap.size, 1, none⟩ (.bool false)).setCell ⟨w.heap.size, 2, none⟩ (.slice a3 l.length c3')) y
  have hbA := (((hb3'.setCell (p := ⟨w.heap.size, 0, none⟩) (by simp) (.int .i64 cl)).setCell (p := ⟨w.heap.size, 1, none⟩) (by simp) (.bool false)).setCell (p := ⟨w.heap.size, 2, none⟩) (by simp) (.slice a3 l.length c3')).alloc (by simp; omega) (tobj y)
  have hszA : (((w3.setCell ⟨w.heap.size, 0, none⟩ (.int .i64 cl)).setCell ⟨w.heap.size, 1, none⟩ (.bool false)).setCell ⟨w.heap.size, 2, none⟩ (.slice a3 l.length c3')).heap.size = w3.heap.size := by simp
  have hw23 : w2.heap.size ≤ w3.heap.size := hb3.size
  rw [hszA] at hrA
  unfold tobj at hstA hownA hrA hbA
  rw [hyf0, hyf1, hyf2, hyf3, hyf4, hyf5, hyf6] at hstA hownA hrA hbA
  have HOWN := Lib.hid hownA; have HST := Lib.hid hstA; have HBA := Lib.hid hbA; have HRA := Lib.hid hrA
  clear hszA hownA hstA hbA hrA hyf0 hyf1 hyf2 hyf3 hyf4 hyf5 hyf6 hst3 hown3 hb3
  go_wp2_with (at_builtin; refine wpList_appT rfl _ _ rfl HOWN.out rfl HRA.out rfl (by simp; omega) (by simp; omega) ?_; intro v4 w4 hown4 hg4; obtain ⟨a4, c4, rfl, _⟩ := RdS.form (RdK.ofOwn (l := l ++ [y]) (by rw [List.length_append]; exact hown4)); have hst4 := HST.out.own HOWN.out hg4 (by omega) (by simp; omega); have hb4 := HBA.out.grown hg4 (by simp; omega) (fun k hk => by have := ownBlock_geT HOWN.out k hk; omega); clear ht0 ht1 ht2 hs0 hs1 hs2 hf0 hf1 hg4; obtain ⟨ht0, ht1, ht2, hs0, hs1, hs2, hf0, hf1⟩ := hst4.facts; have hw6 := hst4.lt)
  refine bodyPost_ret (v := .tuple #[tval cl false (.slice a4 (l.length + 1) c4), .int .i64 0]) (by simp [results, Try.results28, go_sem, hs0, hs1, hs2]) rfl ⟨_, rfl, ?_, ?_⟩
  · rw [← HY.out]
    have h4 : w4.ownsRow w2.heap.size 40 7 (.slice a4 (l.length + 1) c4) (l ++ [y]).length (fl (l ++ [y])) := by simpa using hown4
    exact RdK.ofOwn (own_set (own_set (own_set (own_set h4 (by simp only; omega) _) (by simp only; omega) _) (by simp only; omega) _) (by simp only; omega) _)
  · exact (((hb4.setCell (by simp) _).setCell (by simp) _).setCell (by simp) _).setCell (by simp) _
set_option maxRecDepth 100000 in
set_option maxHeartbeats 2000000 in
theorem rreserve_3 (cap cl : Int) (sv : Value) (l : List T.Trk) (count pk : Int) (w : World) (hr : RdK w sv l) (hf : Few l) (hV : T.validB cap cl false l = true) (hp : ¬ T.okPk count pk) (hi : -9223372036854775808 ≤ count ∧ count ≤ 9223372036854775807) : Calls Try.prog 32 #[.int .i64 cap, tval cl false sv, .int .i64 count, .int .i64 pk] w (OpP (Res.bad 1) w) := by
  by_cases k1 : count < 1
  · have kd1 : decide (count < 1) = true := decide_eq_true k1
    clear hp k1
    obtain ⟨a, c, rfl, hac⟩ := RdS.form hr
    have hb0 := box2_below w cl false (.slice a l.length c)
    have hcon := rvalid_any cap cl false _ l _ (hr.keep hb0) hf
    have HCON := Lib.hid hcon; clear hcon
    have hst0 := St.new w cl false (.slice a l.length c)
    have HV := Lib.hid hV; clear hV
    go_enter Try.func32, Try.ntmps32
    go_wp2_with fail
    refine HCON.out.mono ?_
    rintro e w1 ⟨rfl, hb⟩
    rw [HV.out]
    have hst := hst0.call hb
    have hb1 := hb0.trans (hb.mono hb0.size)
    obtain ⟨ht0, ht1, ht2, hs0, hs1, hs2, hf0, hf1⟩ := hst.facts
    have hw1 := hst.lt
    have hw0 : w.heap.size < w1.heap.size := by omega
    clear hb hst0 hb0
    go_wp2_with fail
    refine bodyPost_ret (v := .tuple #[tval 0 false (.slice none 0 0), .int .i64 1]) (by simp [results, Try.results32, go_sem, hs0, hs1, hs2]) rfl ⟨_, rfl, RdK.nil _, ?_⟩
    exact ((hb1.setCell (by simp) _).setCell (by simp) _).setCell (by simp) _
  have kd1 : decide (count < 1) = false := decide_eq_false k1
  by_cases k2 : pk < 0
  · have kd2 : decide (pk < 0) = true := decide_eq_true k2
    clear hp k2
    obtain ⟨a, c, rfl, hac⟩ := RdS.form hr
    have hb0 := box2_below w cl false (.slice a l.length c)
    have hcon := rvalid_any cap cl false _ l _ (hr.keep hb0) hf
    have HCON := Lib.hid hcon; clear hcon
    have hst0 := St.new w cl false (.slice a l.length c)
    have HV := Lib.hid hV; clear hV
    go_enter Try.func32, Try.ntmps32
    go_wp2_with fail
    refine HCON.out.mono ?_
    rintro e w1 ⟨rfl, hb⟩
    rw [HV.out]
    have hst := hst0.call hb
    have hb1 := hb0.trans (hb.mono hb0.size)
    obtain ⟨ht0, ht1, ht2, hs0, hs1, hs2, hf0, hf1⟩ := hst.facts
    have hw1 := hst.lt
    have hw0 : w.heap.size < w1.heap.size := by omega
    clear hb hst0 hb0
    go_wp2_with fail
    refine bodyPost_ret (v := .tuple #[tval 0 false (.slice none 0 0), .int .i64 1]) (by simp [results, Try.results32, go_sem, hs0, hs1, hs2]) rfl ⟨_, rfl, RdK.nil _, ?_⟩
    exact ((hb1.setCell (by simp) _).setCell (by simp) _).setCell (by simp) _
  have kd2 : decide (pk < 0) = false := decide_eq_false k2
  by_cases k3 : 1024 < pk
  · have kd3 : decide (1024 < pk) = true := decide_eq_true k3
    clear hp k3
    obtain ⟨a, c, rfl, hac⟩ := RdS.form hr
    have hb0 := box2_below w cl false (.slice a l.length c)
    have hcon := rvalid_any cap cl false _ l _ (hr.keep hb0) hf
    have HCON := Lib.hid hcon; clear hcon
    have hst0 := St.new w cl false (.slice a l.length c)
    have HV := Lib.hid hV; clear hV
    go_enter Try.func32, Try.ntmps32
    go_wp2_with fail
    refine HCON.out.mono ?_
    rintro e w1 ⟨rfl, hb⟩
    rw [HV.out]
    have hst := hst0.call hb
    have hb1 := hb0.trans (hb.mono hb0.size)
    obtain ⟨ht0, ht1, ht2, hs0, hs1, hs2, hf0, hf1⟩ := hst.facts
    have hw1 := hst.lt
    have hw0 : w.heap.size < w1.heap.size := by omega
    clear hb hst0 hb0
    go_wp2_with fail
    refine bodyPost_ret (v := .tuple #[tval 0 false (.slice none 0 0), .int .i64 1]) (by simp [results, Try.results32, go_sem, hs0, hs1, hs2]) rfl ⟨_, rfl, RdK.nil _, ?_⟩
    exact ((hb1.setCell (by simp) _).setCell (by simp) _).setCell (by simp) _
  have kd3 : decide (1024 < pk) = false := decide_eq_false k3
  have k4 : 0 < pk ∧ count % pk ≠ 0 := by
    refine Classical.byContradiction fun h => hp ⟨by omega, by omega, by omega, fun h0 => ?_⟩
    rw [Int.tmod_eq_emod_of_nonneg (by omega)]
    exact Classical.byContradiction fun h1 => h ⟨h0, h1⟩
  have kd4 : (count % pk != 0) = true := by rw [bne_iff_ne]; exact k4.2
  have k5 := k4.1
  clear hp k4
  obtain ⟨a, c, rfl, hac⟩ := RdS.form hr
  have hb0 := box2_below w cl false (.slice a l.length c)
  have hcon := rvalid_any cap cl false _ l _ (hr.keep hb0) hf
  have HCON := Lib.hid hcon; clear hcon
  have hst0 := St.new w cl false (.slice a l.length c)
  have HV := Lib.hid hV; clear hV
  go_enter Try.func32, Try.ntmps32
  go_wp2_with fail
  refine HCON.out.mono ?_
  rintro e w1 ⟨rfl, hb⟩
  rw [HV.out]
  have hst := hst0.call hb
  have hb1 := hb0.trans (hb.mono hb0.size)
  obtain ⟨ht0, ht1, ht2, hs0, hs1, hs2, hf0, hf1⟩ := hst.facts
  have hw1 := hst.lt
  have hw0 : w.heap.size < w1.heap.size := by omega
  clear hb hst0 hb0
  go_wp2_with fail
  refine bodyPost_ret (v := .tuple #[tval 0 false (.slice none 0 0), .int .i64 1]) (by simp [results, Try.results32, go_sem, hs0, hs1, hs2]) rfl ⟨_, rfl, RdK.nil _, ?_⟩
  exact ((hb1.setCell (by simp) _).setCell (by simp) _).setCell (by simp) _
set_option maxRecDepth 100000 in
set_option maxHeartbeats 2000000 in
theorem rreserve_4 (cap cl : Int) (sv : Value) (l : List T.Trk) (count pk : Int) (w : World) (hr : RdK w sv l) (hf : Few l) (hV : T.validB cap cl false l = true) (hp : T.okPk count pk) (hi : -9223372036854775808 ≤ count ∧ count ≤ 9223372036854775807) (hx : l.length = 99 ∨ cl = 16) : Calls Try.prog 32 #[.int .i64 cap, tval cl false sv, .int .i64 count, .int .i64 pk] w (OpP (Res.bad 7) w) := by
  have HI := Lib.hid hi; clear hi
  obtain ⟨pk1, pk2, pk3, pk4⟩ := hp
  have hcb : count ≤ 9223372036854775807 := HI.out.2
  have kd1 : decide (count < 1) = false := decide_eq_false (by omega)
  have kd2 : decide (pk < 0) = false := decide_eq_false (by omega)
  have kd3 : decide (1024 < pk) = false := decide_eq_false (by omega)
  have kd4 : 0 < pk → (count % pk != 0) = false := fun h => by
    have := pk4 h
    rw [Int.tmod_eq_emod_of_nonneg (by omega)] at this
    simp [this]
  clear pk4
  obtain ⟨c1, c2, c3, c4, c5, _⟩ := T.validB_true.1 hV
  obtain ⟨at1, at2⟩ := stN_bds (T.validB_true.1 hV)
  by_cases h99 : l.length = 99
  · have hd : ((l.length : Int) == 99) = true := by rw [beq_iff_eq]; omega
    clear h99 hx
    by_cases hz : pk = 0
    · have hzd : decide (0 < pk) = false := decide_eq_false (by omega)
      clear kd4 hz
      obtain ⟨a, c, rfl, hac⟩ := RdS.form hr
      have hb0 := box2_below w cl false (.slice a l.length c)
      have hcon := rvalid_any cap cl false _ l _ (hr.keep hb0) hf
      have HCON := Lib.hid hcon; clear hcon
      have hst0 := St.new w cl false (.slice a l.length c)
      have HV := Lib.hid hV; clear hV
      go_enter Try.func32, Try.ntmps32
      go_wp2_with fail
      refine HCON.out.mono ?_
      rintro e w1 ⟨rfl, hb⟩
      rw [HV.out]
      have hst := hst0.call hb
      have hb1 := hb0.trans (hb.mono hb0.size)
      obtain ⟨ht0, ht1, ht2, hs0, hs1, hs2, hf0, hf1⟩ := hst.facts
      have hw1 := hst.lt
      have hw0 : w.heap.size < w1.heap.size := by omega
      clear hb hst0 hb0
      go_wp2_with fail
      refine bodyPost_ret (v := .tuple #[tval 0 false (.slice none 0 0), .int .i64 7]) (by simp [results, Try.results32, go_sem, hs0, hs1, hs2]) rfl ⟨_, rfl, RdK.nil _, ?_⟩
      exact ((hb1.setCell (by simp) _).setCell (by simp) _).setCell (by simp) _
    · have hzd : decide (0 < pk) = true := decide_eq_true (by omega)
      have kd5 := kd4 (by omega)
      have hz0 : 0 < pk := by omega
      clear kd4 hz
      obtain ⟨a, c, rfl, hac⟩ := RdS.form hr
      have hb0 := box2_below w cl false (.slice a l.length c)
      have hcon := rvalid_any cap cl false _ l _ (hr.keep hb0) hf
      have HCON := Lib.hid hcon; clear hcon
      have hst0 := St.new w cl false (.slice a l.length c)
      have HV := Lib.hid hV; clear hV
      go_enter Try.func32, Try.ntmps32
      go_wp2_with fail
      refine HCON.out.mono ?_
      rintro e w1 ⟨rfl, hb⟩
      rw [HV.out]
      have hst := hst0.call hb
      have hb1 := hb0.trans (hb.mono hb0.size)
      obtain ⟨ht0, ht1, ht2, hs0, hs1, hs2, hf0, hf1⟩ := hst.facts
      have hw1 := hst.lt
      have hw0 : w.heap.size < w1.heap.size := by omega
      clear hb hst0 hb0
      go_wp2_with fail
      refine bodyPost_ret (v := .tuple #[tval 0 false (.slice none 0 0), .int .i64 7]) (by simp [results, Try.results32, go_sem, hs0, hs1, hs2]) rfl ⟨_, rfl, RdK.nil _, ?_⟩
      exact ((hb1.setCell (by simp) _).setCell (by simp) _).setCell (by simp) _
  · have hd : ((l.length : Int) == 99) = false := by rw [beq_eq_false_iff_ne]; omega
    have hd2 : (cl == 16) = true := by rw [beq_iff_eq]; omega
    clear h99 hx
    by_cases hz : pk = 0
    · have hzd : decide (0 < pk) = false := decide_eq_false (by omega)
      clear kd4 hz
      obtain ⟨a, c, rfl, hac⟩ := RdS.form hr
      have hb0 := box2_below w cl false (.slice a l.length c)
      have hcon := rvalid_any cap cl false _ l _ (hr.keep hb0) hf
      have HCON := Lib.hid hcon; clear hcon
      have hst0 := St.new w cl false (.slice a l.length c)
      have HV := Lib.hid hV; clear hV
      go_enter Try.func32, Try.ntmps32
      go_wp2_with fail
      refine HCON.out.mono ?_
      rintro e w1 ⟨rfl, hb⟩
      rw [HV.out]
      have hst := hst0.call hb
      have hb1 := hb0.trans (hb.mono hb0.size)
      obtain ⟨ht0, ht1, ht2, hs0, hs1, hs2, hf0, hf1⟩ := hst.facts
      have hw1 := hst.lt
      have hw0 : w.heap.size < w1.heap.size := by omega
      clear hb hst0 hb0
      go_wp2_with fail
      refine bodyPost_ret (v := .tuple #[tval 0 false (.slice none 0 0), .int .i64 7]) (by simp [results, Try.results32, go_sem, hs0, hs1, hs2]) rfl ⟨_, rfl, RdK.nil _, ?_⟩
      exact ((hb1.setCell (by simp) _).setCell (by simp) _).setCell (by simp) _
    · have hzd : decide (0 < pk) = true := decide_eq_true (by omega)
      have kd5 := kd4 (by omega)
      have hz0 : 0 < pk := by omega
      clear kd4 hz
      obtain ⟨a, c, rfl, hac⟩ := RdS.form hr
      have hb0 := box2_below w cl false (.slice a l.length c)
      have hcon := rvalid_any cap cl false _ l _ (hr.keep hb0) hf
      have HCON := Lib.hid hcon; clear hcon
      have hst0 := St.new w cl false (.slice a l.length c)
      have HV := Lib.hid hV; clear hV
      go_enter Try.func32, Try.ntmps32
      go_wp2_with fail
      refine HCON.out.mono ?_
      rintro e w1 ⟨rfl, hb⟩
      rw [HV.out]
      have hst := hst0.call hb
      have hb1 := hb0.trans (hb.mono hb0.size)
      obtain ⟨ht0, ht1, ht2, hs0, hs1, hs2, hf0, hf1⟩ := hst.facts
      have hw1 := hst.lt
      have hw0 : w.heap.size < w1.heap.size := by omega
      clear hb hst0 hb0
      go_wp2_with fail
      refine bodyPost_ret (v := .tuple #[tval 0 false (.slice none 0 0), .int .i64 7]) (by simp [results, Try.results32, go_sem, hs0, hs1, hs2]) rfl ⟨_, rfl, RdK.nil _, ?_⟩
      exact ((hb1.setCell (by simp) _).setCell (by simp) _).setCell (by simp) _
end Go.Proofs.Ytiioojlihapdaaa
