/- CloseSession of both walked (chapter 14). -/
import Derived.Test.YtiioojlihapdaaaTkCs
import Derived.Deep.QuietTactic
import Derived.BigQuiet
import Derived.Outline
namespace Go.Proofs.Ytiioojlihapdaaa
open Go.RowKit
set_option linter.unusedVariables false

def closeSessR (cap cl : Int) (fin : Bool) (l : List T.Trk) (fz : Bool) : Res :=
  if T.validB cap cl fin l = false then Res.bad 1 else if fin = true then Res.bad 15 else if anyP (undoneP l) l.length = true then Res.bad 8
  else if anyP (laterP cl l) l.length = true then ⟨cl + 1, fz, l, 0⟩ else if fz = false ∨ cl = 0 then Res.bad 8 else ⟨cl, true, l, 0⟩

set_option maxRecDepth 100000 in
set_option maxHeartbeats 2000000 in
theorem pcsess_1 (cap cl : Int) (fin : Bool) (sv : Value) (l : List T.Trk) (fz : Bool) (w : World) (hr : RdK w sv l) (hf : Few l) (hV : T.validB cap cl fin l = false) : Calls Try.prog 31 #[.int .i64 cap, tval cl fin sv, .bool fz] w (OpP (Res.bad 1) w) := by
  obtain ⟨a, c, rfl, hac⟩ := RdS.form hr
  have hb0 := box2_below w cl fin (.slice a l.length c)
  have hcon := valid_any cap cl fin _ l _ (hr.keep hb0) hf
  have HCON := Lib.hid hcon; clear hcon
  have hst0 := St.new w cl fin (.slice a l.length c)
  have HV := Lib.hid hV; clear hV
  go_enter Try.func31, Try.ntmps31
  go_wp2_with fail
  refine HCON.out.mono ?_
  rintro e w1 ⟨rfl, hb⟩
  rw [HV.out]
  have hst := hst0.call hb
  have hb1 := hb0.trans (hb.mono hb0.size)
  obtain ⟨ht0, ht1, ht2, hs0, hs1, hs2, hf0, hf1⟩ := hst.facts
  have hw1 := hst.lt
  have hw0 : w.heap.size < w1.heap.size := by omega
  clear hb hst0 hb0
  go_wp2_with fail
  refine bodyPost_ret (v := .tuple #[tval 0 false (.slice none 0 0), .int .i64 1]) (by simp [results, Try.results31, go_sem, hs0, hs1, hs2]) rfl ⟨_, rfl, RdK.nil _, ?_⟩
  exact ((hb1.setCell (by simp) _).setCell (by simp) _).setCell (by simp) _
set_option maxRecDepth 100000 in
set_option maxHeartbeats 2000000 in
theorem pcsess_2 (cap cl : Int) (sv : Value) (l : List T.Trk) (fz : Bool) (w : World) (hr : RdK w sv l) (hf : Few l) (hV : T.validB cap cl true l = true) : Calls Try.prog 31 #[.int .i64 cap, tval cl true sv, .bool fz] w (OpP (Res.bad 15) w) := by
  obtain ⟨a, c, rfl, hac⟩ := RdS.form hr
  have hb0 := box2_below w cl true (.slice a l.length c)
  have hcon := valid_any cap cl true _ l _ (hr.keep hb0) hf
  have HCON := Lib.hid hcon; clear hcon
  have hst0 := St.new w cl true (.slice a l.length c)
  have HV := Lib.hid hV; clear hV
  go_enter Try.func31, Try.ntmps31
  go_wp2_with fail
  refine HCON.out.mono ?_
  rintro e w1 ⟨rfl, hb⟩
  rw [HV.out]
  have hst := hst0.call hb
  have hb1 := hb0.trans (hb.mono hb0.size)
  obtain ⟨ht0, ht1, ht2, hs0, hs1, hs2, hf0, hf1⟩ := hst.facts
  have hw1 := hst.lt
  have hw0 : w.heap.size < w1.heap.size := by omega
  clear hb hst0 hb0
  go_wp2_with fail
  refine bodyPost_ret (v := .tuple #[tval 0 false (.slice none 0 0), .int .i64 15]) (by simp [results, Try.results31, go_sem, hs0, hs1, hs2]) rfl ⟨_, rfl, RdK.nil _, ?_⟩
  exact ((hb1.setCell (by simp) _).setCell (by simp) _).setCell (by simp) _
set_option maxRecDepth 100000 in
set_option maxHeartbeats 2000000 in
theorem rcsess_1 (cap cl : Int) (fin : Bool) (sv : Value) (l : List T.Trk) (fz : Bool) (w : World) (hr : RdK w sv l) (hf : Few l) (hV : T.validB cap cl fin l = false) : Calls Try.prog 35 #[.int .i64 cap, tval cl fin sv, .bool fz] w (OpP (Res.bad 1) w) := by
  obtain ⟨a, c, rfl, hac⟩ := RdS.form hr
  have hb0 := box2_below w cl fin (.slice a l.length c)
  have hcon := rvalid_any cap cl fin _ l _ (hr.keep hb0) hf
  have HCON := Lib.hid hcon; clear hcon
  have hst0 := St.new w cl fin (.slice a l.length c)
  have HV := Lib.hid hV; clear hV
  go_enter Try.func35, Try.ntmps35
  go_wp2_with fail
  refine HCON.out.mono ?_
  rintro e w1 ⟨rfl, hb⟩
  rw [HV.out]
  have hst := hst0.call hb
  have hb1 := hb0.trans (hb.mono hb0.size)
  obtain ⟨ht0, ht1, ht2, hs0, hs1, hs2, hf0, hf1⟩ := hst.facts
  have hw1 := hst.lt
  have hw0 : w.heap.size < w1.heap.size := by omega
  clear hb hst0 hb0
  go_wp2_with fail
  refine bodyPost_ret (v := .tuple #[tval 0 false (.slice none 0 0), .int .i64 1]) (by simp [results, Try.results35, go_sem, hs0, hs1, hs2]) rfl ⟨_, rfl, RdK.nil _, ?_⟩
  exact ((hb1.setCell (by simp) _).setCell (by simp) _).setCell (by simp) _
set_option maxRecDepth 100000 in
set_option maxHeartbeats 2000000 in
theorem rcsess_2 (cap cl : Int) (sv : Value) (l : List T.Trk) (fz : Bool) (w : World) (hr : RdK w sv l) (hf : Few l) (hV : T.validB cap cl true l = true) : Calls Try.prog 35 #[.int .i64 cap, tval cl true sv, .bool fz] w (OpP (Res.bad 15) w) := by
  obtain ⟨a, c, rfl, hac⟩ := RdS.form hr
  have hb0 := box2_below w cl true (.slice a l.length c)
  have hcon := rvalid_any cap cl true _ l _ (hr.keep hb0) hf
  have HCON := Lib.hid hcon; clear hcon
  have hst0 := St.new w cl true (.slice a l.length c)
  have HV := Lib.hid hV; clear hV
  go_enter Try.func35, Try.ntmps35
  go_wp2_with fail
  refine HCON.out.mono ?_
  rintro e w1 ⟨rfl, hb⟩
  rw [HV.out]
  have hst := hst0.call hb
  have hb1 := hb0.trans (hb.mono hb0.size)
  obtain ⟨ht0, ht1, ht2, hs0, hs1, hs2, hf0, hf1⟩ := hst.facts
  have hw1 := hst.lt
  have hw0 : w.heap.size < w1.heap.size := by omega
  clear hb hst0 hb0
  go_wp2_with fail
  refine bodyPost_ret (v := .tuple #[tval 0 false (.slice none 0 0), .int .i64 15]) (by simp [results, Try.results35, go_sem, hs0, hs1, hs2]) rfl ⟨_, rfl, RdK.nil _, ?_⟩
  exact ((hb1.setCell (by simp) _).setCell (by simp) _).setCell (by simp) _
set_option maxRecDepth 100000 in
set_option maxHeartbeats 2000000 in
theorem pcsess_3 (cap cl : Int) (sv : Value) (l : List T.Trk) (fz : Bool) (w : World) (hr : RdK w sv l) (hf : Few l) (hV : T.validB cap cl false l = true) (hu : anyP (undoneP l) l.length = true) : Calls Try.prog 31 #[.int .i64 cap, tval cl false sv, .bool fz] w (OpP (Res.bad 8) w) := by
  obtain ⟨q1, q2, q3, q4, q5, _⟩ := T.validB_true.1 hV
  have HU := Lib.hid hu; clear hu
  obtain ⟨a, c, rfl, hac⟩ := RdS.form hr
  have hb0 := box2_below w cl false (.slice a l.length c)
  have hcon := valid_any cap cl false _ l _ (hr.keep hb0) hf
  have HCON := Lib.hid hcon; clear hcon
  have hst0 := St.new w cl false (.slice a l.length c)
  have HV := Lib.hid hV; clear hV
  go_enter Try.func31, Try.ntmps31
  go_wp2_with fail
  refine HCON.out.mono ?_
  rintro e w1 ⟨rfl, hb⟩
  rw [HV.out]
  have hst := hst0.call hb
  have hb1 := hb0.trans (hb.mono hb0.size)
  obtain ⟨ht0, ht1, ht2, hs0, hs1, hs2, hf0, hf1⟩ := hst.facts
  have hw1 := hst.lt
  have hw0 : w.heap.size < w1.heap.size := by omega
  clear hb hst0 hb0
  have hrx := RdK.keep hr hb1
  go_wp2_with fail
  refine (has_later _ l _ hrx (by omega) w.heap.size cl ht0 hw0).mono ?_
  rintro e w2 ⟨rfl, hb2⟩
  generalize anyP (laterP cl l) l.length = q
  have hst2 := hst.call hb2
  have hb2' := hb1.trans (hb2.mono hb1.size)
  have hrx2 := RdK.keep hrx hb2
  clear ht0 ht1 ht2 hs0 hs1 hs2 hf0 hf1 hb2 hst hb1 hrx
  obtain ⟨ht0, ht1, ht2, hs0, hs1, hs2, hf0, hf1⟩ := hst2.facts
  go_wp2_with fail
  refine (has_undone _ l _ hrx2 (by omega)).mono ?_
  rintro e w3 ⟨rfl, hb3⟩
  rw [HU.out]
  have hst3 := hst2.call hb3
  have hb3' := hb2'.trans (hb3.mono hb2'.size)
  have hrx3 := RdK.keep hrx2 hb3
  clear ht0 ht1 ht2 hs0 hs1 hs2 hf0 hf1 hb3 hst2 hb2' hrx2
  obtain ⟨ht0, ht1, ht2, hs0, hs1, hs2, hf0, hf1⟩ := hst3.facts
  have hw3 := hst3.lt
  have hw30 : w.heap.size < w3.heap.size := by omega
  go_wp2_with fail
  refine bodyPost_ret (v := .tuple #[tval 0 false (.slice none 0 0), .int .i64 8]) (by simp [results, Try.results31, go_sem, hs0, hs1, hs2]) rfl ⟨_, rfl, RdK.nil _, ?_⟩
  exact ((hb3'.setCell (by simp) _).setCell (by simp) _).setCell (by simp) _
set_option maxRecDepth 100000 in
set_option maxHeartbeats 2000000 in
theorem pcsess_5 (cap cl : Int) (sv : Value) (l : List T.Trk) (fz : Bool) (w : World) (hr : RdK w sv l) (hf : Few l) (hV : T.validB cap cl false l = true) (hu : anyP (undoneP l) l.length = false) (hla : anyP (laterP cl l) l.length = false) (hz : fz = false ∨ cl = 0) : Calls Try.prog 31 #[.int .i64 cap, tval cl false sv, .bool fz] w (OpP (Res.bad 8) w) := by
  obtain ⟨q1, q2, q3, q4, q5, _⟩ := T.validB_true.1 hV
  have HU := Lib.hid hu; clear hu
  have HL := Lib.hid hla; clear hla
  by_cases h0 : cl = 0
  · subst h0
    clear hz
    obtain ⟨a, c, rfl, hac⟩ := RdS.form hr
    have hb0 := box2_below w 0 false (.slice a l.length c)
    have hcon := valid_any cap 0 false _ l _ (hr.keep hb0) hf
    have HCON := Lib.hid hcon; clear hcon
    have hst0 := St.new w 0 false (.slice a l.length c)
    have HV := Lib.hid hV; clear hV
    go_enter Try.func31, Try.ntmps31
    go_wp2_with fail
    refine HCON.out.mono ?_
    rintro e w1 ⟨rfl, hb⟩
    rw [HV.out]
    have hst := hst0.call hb
    have hb1 := hb0.trans (hb.mono hb0.size)
    obtain ⟨ht0, ht1, ht2, hs0, hs1, hs2, hf0, hf1⟩ := hst.facts
    have hw1 := hst.lt
    have hw0 : w.heap.size < w1.heap.size := by omega
    clear hb hst0 hb0
    have hrx := RdK.keep hr hb1
    go_wp2_with fail
    refine (has_later _ l _ hrx (by omega) w.heap.size 0 ht0 hw0).mono ?_
    rintro e w2 ⟨rfl, hb2⟩
    rw [HL.out]
    have hst2 := hst.call hb2
    have hb2' := hb1.trans (hb2.mono hb1.size)
    have hrx2 := RdK.keep hrx hb2
    clear ht0 ht1 ht2 hs0 hs1 hs2 hf0 hf1 hb2 hst hb1 hrx
    obtain ⟨ht0, ht1, ht2, hs0, hs1, hs2, hf0, hf1⟩ := hst2.facts
    go_wp2_with fail
    refine (has_undone _ l _ hrx2 (by omega)).mono ?_
    rintro e w3 ⟨rfl, hb3⟩
    rw [HU.out]
    have hst3 := hst2.call hb3
    have hb3' := hb2'.trans (hb3.mono hb2'.size)
    have hrx3 := RdK.keep hrx2 hb3
    clear ht0 ht1 ht2 hs0 hs1 hs2 hf0 hf1 hb3 hst2 hb2' hrx2
    obtain ⟨ht0, ht1, ht2, hs0, hs1, hs2, hf0, hf1⟩ := hst3.facts
    have hw3 := hst3.lt
    have hw30 : w.heap.size < w3.heap.size := by omega
    cases fz
    all_goals
      go_wp2_with fail
      refine bodyPost_ret (v := .tuple #[tval 0 false (.slice none 0 0), .int .i64 8]) (by simp [results, Try.results31, go_sem, hs0, hs1, hs2]) rfl ⟨_, rfl, RdK.nil _, ?_⟩
      exact ((hb3'.setCell (by simp) _).setCell (by simp) _).setCell (by simp) _
  · have hd : (cl == 0) = false := by rw [beq_eq_false_iff_ne]; exact h0
    obtain rfl : fz = false := by rcases hz with h | h; exact h; exact absurd h h0
    clear h0 hz
    obtain ⟨a, c, rfl, hac⟩ := RdS.form hr
    have hb0 := box2_below w cl false (.slice a l.length c)
    have hcon := valid_any cap cl false _ l _ (hr.keep hb0) hf
    have HCON := Lib.hid hcon; clear hcon
    have hst0 := St.new w cl false (.slice a l.length c)
    have HV := Lib.hid hV; clear hV
    go_enter Try.func31, Try.ntmps31
    go_wp2_with fail
    refine HCON.out.mono ?_
    rintro e w1 ⟨rfl, hb⟩
    rw [HV.out]
    have hst := hst0.call hb
    have hb1 := hb0.trans (hb.mono hb0.size)
    obtain ⟨ht0, ht1, ht2, hs0, hs1, hs2, hf0, hf1⟩ := hst.facts
    have hw1 := hst.lt
    have hw0 : w.heap.size < w1.heap.size := by omega
    clear hb hst0 hb0
    have hrx := RdK.keep hr hb1
    go_wp2_with fail
    refine (has_later _ l _ hrx (by omega) w.heap.size cl ht0 hw0).mono ?_
    rintro e w2 ⟨rfl, hb2⟩
    rw [HL.out]
    have hst2 := hst.call hb2
    have hb2' := hb1.trans (hb2.mono hb1.size)
    have hrx2 := RdK.keep hrx hb2
    clear ht0 ht1 ht2 hs0 hs1 hs2 hf0 hf1 hb2 hst hb1 hrx
    obtain ⟨ht0, ht1, ht2, hs0, hs1, hs2, hf0, hf1⟩ := hst2.facts
    go_wp2_with fail
    refine (has_undone _ l _ hrx2 (by omega)).mono ?_
    rintro e w3 ⟨rfl, hb3⟩
    rw [HU.out]
    have hst3 := hst2.call hb3
    have hb3' := hb2'.trans (hb3.mono hb2'.size)
    have hrx3 := RdK.keep hrx2 hb3
    clear ht0 ht1 ht2 hs0 hs1 hs2 hf0 hf1 hb3 hst2 hb2' hrx2
    obtain ⟨ht0, ht1, ht2, hs0, hs1, hs2, hf0, hf1⟩ := hst3.facts
    have hw3 := hst3.lt
    have hw30 : w.heap.size < w3.heap.size := by omega
    go_wp2_with fail
    refine bodyPost_ret (v := .tuple #[tval 0 false (.slice none 0 0), .int .i64 8]) (by simp [results, Try.results31, go_sem, hs0, hs1, hs2]) rfl ⟨_, rfl, RdK.nil _, ?_⟩
    exact ((hb3'.setCell (by simp) _).setCell (by simp) _).setCell (by simp) _
set_option maxRecDepth 100000 in
set_option maxHeartbeats 2000000 in
theorem pcsess_4 (cap cl : Int) (sv : Value) (l : List T.Trk) (fz : Bool) (w : World) (hr : RdK w sv l) (hf : Few l) (hV : T.validB cap cl false l = true) (hu : anyP (undoneP l) l.length = false) (hla : anyP (laterP cl l) l.length = true) : Calls Try.prog 31 #[.int .i64 cap, tval cl false sv, .bool fz] w (OpP ⟨cl + 1, fz, l, 0⟩ w) := by
  obtain ⟨q1, q2, q3, q4, q5, _⟩ := T.validB_true.1 hV
  have HU := Lib.hid hu; clear hu
  have HL := Lib.hid hla; clear hla
  obtain ⟨a, c, rfl, hac⟩ := RdS.form hr
  have hb0 := box2_below w cl false (.slice a l.length c)
  have hcon := valid_any cap cl false _ l _ (hr.keep hb0) hf
  have HCON := Lib.hid hcon; clear hcon
  have hst0 := St.new w cl false (.slice a l.length c)
  have HV := Lib.hid hV; clear hV
  go_enter Try.func31, Try.ntmps31
  go_wp2_with fail
  refine HCON.out.mono ?_
  rintro e w1 ⟨rfl, hb⟩
  rw [HV.out]
  have hst := hst0.call hb
  have hb1 := hb0.trans (hb.mono hb0.size)
  obtain ⟨ht0, ht1, ht2, hs0, hs1, hs2, hf0, hf1⟩ := hst.facts
  have hw1 := hst.lt
  have hw0 : w.heap.size < w1.heap.size := by omega
  clear hb hst0 hb0
  have hrx := RdK.keep hr hb1
  go_wp2_with fail
  refine (has_later _ l _ hrx (by omega) w.heap.size cl ht0 hw0).mono ?_
  rintro e w2 ⟨rfl, hb2⟩
  rw [HL.out]
  have hst2 := hst.call hb2
  have hb2' := hb1.trans (hb2.mono hb1.size)
  have hrx2 := RdK.keep hrx hb2
  clear ht0 ht1 ht2 hs0 hs1 hs2 hf0 hf1 hb2 hst hb1 hrx
  obtain ⟨ht0, ht1, ht2, hs0, hs1, hs2, hf0, hf1⟩ := hst2.facts
  go_wp2_with fail
  refine (has_undone _ l _ hrx2 (by omega)).mono ?_
  rintro e w3 ⟨rfl, hb3⟩
  rw [HU.out]
  have hst3 := hst2.call hb3
  have hb3' := hb2'.trans (hb3.mono hb2'.size)
  have hrx3 := RdK.keep hrx2 hb3
  clear ht0 ht1 ht2 hs0 hs1 hs2 hf0 hf1 hb3 hst2 hb2' hrx2
  obtain ⟨ht0, ht1, ht2, hs0, hs1, hs2, hf0, hf1⟩ := hst3.facts
  have hw3 := hst3.lt
  have hw30 : w.heap.size < w3.heap.size := by omega
  go_wp2_with fail
  refine (clone_any cl false _ l _ hrx3 (by omega)).mono ?_
  rintro e w4 ⟨v4, rfl, hown4, hb4⟩
  have hst4 := hst3.call hb4
  have hb4' := hb3'.trans (hb4.mono hb3'.size)
  obtain ⟨a4, c4, rfl, _⟩ := RdS.form (RdK.ofOwn hown4)
  clear ht0 ht1 ht2 hs0 hs1 hs2 hf0 hf1
  obtain ⟨ht0, ht1, ht2, hs0, hs1, hs2, hf0, hf1⟩ := hst4.facts
  have hw4 := hst4.lt
  have hw40 : w.heap.size < w4.heap.size := by omega
  have hw30' : w.heap.size + 1 < w3.heap.size := hw3
  go_upto_region 10 with (fail)
  have hst5 := hst4.put cl false (.slice a4 l.length c4)
  have hown5 := own_set (own_set (own_set hown4 (p := ⟨w.heap.size, 0, none⟩) (by simp only; omega) (.int .i64 cl)) (p := ⟨w.heap.size, 1, none⟩) (by simp only; omega) (.bool false)) (p := ⟨w.heap.size, 2, none⟩) (by simp only; omega) (.slice a4 l.length c4)
  have hb5 := ((hb4'.setCell (p := ⟨w.heap.size, 0, none⟩) (by simp) (.int .i64 cl)).setCell (p := ⟨w.heap.size, 1, none⟩) (by simp) (.bool false)).setCell (p := ⟨w.heap.size, 2, none⟩) (by simp) (.slice a4 l.length c4)
  generalize (((w4.setCell ⟨w.heap.size, 0, none⟩ (.int .i64 cl)).setCell ⟨w.heap.size, 1, none⟩ (.bool false)).setCell ⟨w.heap.size, 2, none⟩ (.slice a4 l.length c4)) = w5 at hst5 hown5 hb5 ⊢
  clear ht0 ht1 ht2 hs0 hs1 hs2 hf0 hf1 hst4 hown4 hb4 hb4' hw4 hw40
  obtain ⟨ht0, ht1, ht2, hs0, hs1, hs2, hf0, hf1⟩ := hst5.facts
  have hw5 := hst5.lt
  have hw50 : w.heap.size < w5.heap.size := by omega
  go_wp2_with fail
  refine bodyPost_ret (v := .tuple #[tval (cl + 1) fz (.slice a4 l.length c4), .int .i64 0]) (by simp [results, Try.results31, go_sem, hs0, hs1, hs2]) rfl ⟨_, rfl, ?_, ?_⟩
  · exact RdK.ofOwn (own_set (own_set (own_set (own_set (own_set (hown5) (by simp only; omega) _) (by simp only; omega) _) (by simp only; omega) _) (by simp only; omega) _) (by simp only; omega) _)
  · exact Below.setCell (Below.setCell (Below.setCell (Below.setCell (Below.setCell (hb5) (by simp) _) (by simp) _) (by simp) _) (by simp) _) (by simp) _
set_option maxRecDepth 100000 in
set_option maxHeartbeats 2000000 in
theorem pcsess_6 (cap cl : Int) (sv : Value) (l : List T.Trk) (w : World) (hr : RdK w sv l) (hf : Few l) (hV : T.validB cap cl false l = true) (hu : anyP (undoneP l) l.length = false) (hla : anyP (laterP cl l) l.length = false) (h0 : cl ≠ 0) : Calls Try.prog 31 #[.int .i64 cap, tval cl false sv, .bool true] w (OpP ⟨cl, true, l, 0⟩ w) := by
  obtain ⟨q1, q2, q3, q4, q5, _⟩ := T.validB_true.1 hV
  have HU := Lib.hid hu; clear hu
  have HL := Lib.hid hla; clear hla
  have hd : (cl == 0) = false := by rw [beq_eq_false_iff_ne]; exact h0
  clear h0
  obtain ⟨a, c, rfl, hac⟩ := RdS.form hr
  have hb0 := box2_below w cl false (.slice a l.length c)
  have hcon := valid_any cap cl false _ l _ (hr.keep hb0) hf
  have HCON := Lib.hid hcon; clear hcon
  have hst0 := St.new w cl false (.slice a l.length c)
  have HV := Lib.hid hV; clear hV
  go_enter Try.func31, Try.ntmps31
  go_wp2_with fail
  refine HCON.out.mono ?_
  rintro e w1 ⟨rfl, hb⟩
  rw [HV.out]
  have hst := hst0.call hb
  have hb1 := hb0.trans (hb.mono hb0.size)
  obtain ⟨ht0, ht1, ht2, hs0, hs1, hs2, hf0, hf1⟩ := hst.facts
  have hw1 := hst.lt
  have hw0 : w.heap.size < w1.heap.size := by omega
  clear hb hst0 hb0
  have hrx := RdK.keep hr hb1
  go_wp2_with fail
  refine (has_later _ l _ hrx (by omega) w.heap.size cl ht0 hw0).mono ?_
  rintro e w2 ⟨rfl, hb2⟩
  rw [HL.out]
  have hst2 := hst.call hb2
  have hb2' := hb1.trans (hb2.mono hb1.size)
  have hrx2 := RdK.keep hrx hb2
  clear ht0 ht1 ht2 hs0 hs1 hs2 hf0 hf1 hb2 hst hb1 hrx
  obtain ⟨ht0, ht1, ht2, hs0, hs1, hs2, hf0, hf1⟩ := hst2.facts
  go_wp2_with fail
  refine (has_undone _ l _ hrx2 (by omega)).mono ?_
  rintro e w3 ⟨rfl, hb3⟩
  rw [HU.out]
  have hst3 := hst2.call hb3
  have hb3' := hb2'.trans (hb3.mono hb2'.size)
  have hrx3 := RdK.keep hrx2 hb3
  clear ht0 ht1 ht2 hs0 hs1 hs2 hf0 hf1 hb3 hst2 hb2' hrx2
  obtain ⟨ht0, ht1, ht2, hs0, hs1, hs2, hf0, hf1⟩ := hst3.facts
  have hw3 := hst3.lt
  have hw30 : w.heap.size < w3.heap.size := by omega
  go_wp2_with fail
  refine (clone_any cl false _ l _ hrx3 (by omega)).mono ?_
  rintro e w4 ⟨v4, rfl, hown4, hb4⟩
  have hst4 := hst3.call hb4
  have hb4' := hb3'.trans (hb4.mono hb3'.size)
  obtain ⟨a4, c4, rfl, _⟩ := RdS.form (RdK.ofOwn hown4)
  clear ht0 ht1 ht2 hs0 hs1 hs2 hf0 hf1
  obtain ⟨ht0, ht1, ht2, hs0, hs1, hs2, hf0, hf1⟩ := hst4.facts
  have hw4 := hst4.lt
  have hw40 : w.heap.size < w4.heap.size := by omega
  have hw30' : w.heap.size + 1 < w3.heap.size := hw3
  go_upto_region 10 with (fail)
  have hst5 := hst4.put cl false (.slice a4 l.length c4)
  have hown5 := own_set (own_set (own_set hown4 (p := ⟨w.heap.size, 0, none⟩) (by simp only; omega) (.int .i64 cl)) (p := ⟨w.heap.size, 1, none⟩) (by simp only; omega) (.bool false)) (p := ⟨w.heap.size, 2, none⟩) (by simp only; omega) (.slice a4 l.length c4)
  have hb5 := ((hb4'.setCell (p := ⟨w.heap.size, 0, none⟩) (by simp) (.int .i64 cl)).setCell (p := ⟨w.heap.size, 1, none⟩) (by simp) (.bool false)).setCell (p := ⟨w.heap.size, 2, none⟩) (by simp) (.slice a4 l.length c4)
  generalize (((w4.setCell ⟨w.heap.size, 0, none⟩ (.int .i64 cl)).setCell ⟨w.heap.size, 1, none⟩ (.bool false)).setCell ⟨w.heap.size, 2, none⟩ (.slice a4 l.length c4)) = w5 at hst5 hown5 hb5 ⊢
  clear ht0 ht1 ht2 hs0 hs1 hs2 hf0 hf1 hst4 hown4 hb4 hb4' hw4 hw40
  obtain ⟨ht0, ht1, ht2, hs0, hs1, hs2, hf0, hf1⟩ := hst5.facts
  have hw5 := hst5.lt
  have hw50 : w.heap.size < w5.heap.size := by omega
  go_wp2_with fail
  refine bodyPost_ret (v := .tuple #[tval cl true (.slice a4 l.length c4), .int .i64 0]) (by simp [results, Try.results31, go_sem, hs0, hs1, hs2]) rfl ⟨_, rfl, ?_, ?_⟩
  · exact RdK.ofOwn (own_set (own_set (own_set (own_set (hown5) (by simp only; omega) _) (by simp only; omega) _) (by simp only; omega) _) (by simp only; omega) _)
  · exact Below.setCell (Below.setCell (Below.setCell (Below.setCell (hb5) (by simp) _) (by simp) _) (by simp) _) (by simp) _
end Go.Proofs.Ytiioojlihapdaaa
