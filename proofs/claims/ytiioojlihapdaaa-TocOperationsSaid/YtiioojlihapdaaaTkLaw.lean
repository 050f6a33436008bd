/- The law TocOperations walked (chapter 14). -/
import Derived.Test.YtiioojlihapdaaaTkAw
import Derived.Test.YtiioojlihapdaaaTkDo
import Derived.Test.YtiioojlihapdaaaTkOpen
import Derived.Deep.RegionHeld3
import Derived.Deep.Cut
import Derived.Outline
namespace Go.Proofs.Ytiioojlihapdaaa
open Go.RowKit
set_option linter.unusedVariables false

/-- the cells of a boxed table, as one fact -/
theorem three_keep {W W' : World} {N : Nat} {cl : Int} {fin : Bool} {sv : Value} (hb : Below W.heap.size W W') (h0 : W.cell? ⟨N, 0, none⟩ = some (.int .i64 cl)) (h1 : W.cell? ⟨N, 1, none⟩ = some (.bool fin)) (h2 : W.cell? ⟨N, 2, none⟩ = some sv) :
    W'.cell? ⟨N, 0, none⟩ = some (.int .i64 cl) ∧ W'.cell? ⟨N, 1, none⟩ = some (.bool fin) ∧ W'.cell? ⟨N, 2, none⟩ = some sv :=
  have hl : N < W.heap.size := World.block_lt_of_cell? W _ h0
  ⟨(hb.cell (p := ⟨N, 0, none⟩) hl).trans h0, (hb.cell (p := ⟨N, 1, none⟩) hl).trans h1, (hb.cell (p := ⟨N, 2, none⟩) hl).trans h2⟩
theorem doR_len (cap cl : Int) (fin : Bool) (l : List T.Trk) (kind a b : Int) (fz : Bool) : (doR cap cl fin l kind a b fz).l.length ≤ l.length + 1 := by
  unfold doR reserveR appendR closeTrackR closeSessR
  repeat' split
  all_goals simp [Res.bad]
set_option maxRecDepth 100000 in
set_option maxHeartbeats 4000000 in
theorem ops_many (cap cl : Int) (fin : Bool) (sv : Value) (l : List T.Trk) (kind a b : Int) (fz : Bool) (w : World) (hr : RdK w sv l) (hn : l.length ≤ 9223372036854775807) (hf : ¬ Few l) :
    Calls Try.prog 3 #[.int .i64 cap, tval cl fin sv, aval kind a b fz] w (RB true w) := by
  obtain ⟨sa, sc, rfl, hac⟩ := RdS.form hr
  have hb0 := ((Below.refl w.heap.size w).alloc (Nat.le_refl _) (.cells #[.int .i64 cl, .bool fin, .slice sa l.length sc] 24)).alloc (by simp) (.cells #[.int .i64 kind, .int .i64 a, .int .i64 b, .bool fz] 26)
  have HF : Hid (decide (Few l) = false) := Lib.hid (decide_eq_false hf); clear hf
  go_enter Try.func3, Try.ntmps3
  go_wp2_with fail
  refine (awake_any _).mono ?_
  rintro e w1 ⟨rfl, hb1⟩
  have hbx := hb0.trans (hb1.mono hb0.size)
  have ht0 : w1.cell? ⟨w.heap.size, 0, none⟩ = some (.int .i64 cl) := (hb1.cell (p := ⟨w.heap.size, 0, none⟩) (by simp; omega)).trans (by simp [go_sem])
  have ht1 : w1.cell? ⟨w.heap.size, 1, none⟩ = some (.bool fin) := (hb1.cell (p := ⟨w.heap.size, 1, none⟩) (by simp; omega)).trans (by simp [go_sem])
  have ht2 : w1.cell? ⟨w.heap.size, 2, none⟩ = some (.slice sa l.length sc) := (hb1.cell (p := ⟨w.heap.size, 2, none⟩) (by simp; omega)).trans (by simp [go_sem])
  go_wp2_with fail
  refine (few_any cl fin _ l _ (RdK.keep hr hbx) hn).mono ?_
  rintro e w2 ⟨rfl, hb2⟩
  rw [HF.out]
  go_wp2_with fail
  go_ret
  exact ⟨rfl, hbx.trans (hb2.mono hbx.size)⟩
set_option maxRecDepth 100000 in
set_option maxHeartbeats 8000000 in
theorem ops_few (cap cl : Int) (fin : Bool) (sv : Value) (l : List T.Trk) (kind a b : Int) (fz : Bool) (w : World) (hr : RdK w sv l) (hn : l.length ≤ 9223372036854775807) (hf : Few l) (ha : i64 a) (hb : i64 b) :
    Calls Try.prog 3 #[.int .i64 cap, tval cl fin sv, aval kind a b fz] w (RB true w) := by
  obtain ⟨sa, sc, rfl, hac⟩ := RdS.form hr
  have hb0 := ((Below.refl w.heap.size w).alloc (Nat.le_refl _) (.cells #[.int .i64 cl, .bool fin, .slice sa l.length sc] 24)).alloc (by simp) (.cells #[.int .i64 kind, .int .i64 a, .int .i64 b, .bool fz] 26)
  have HF : Hid (decide (Few l) = true) := Lib.hid (decide_eq_true hf)
  have HFw := Lib.hid hf; clear hf
  have HAB := Lib.hid (And.intro ha hb); clear ha hb
  go_enter Try.func3, Try.ntmps3
  go_wp2_with fail
  refine (awake_any _).mono ?_
  rintro e w1 ⟨rfl, hb1⟩
  have hbx := hb0.trans (hb1.mono hb0.size)
  have ht0 : w1.cell? ⟨w.heap.size, 0, none⟩ = some (.int .i64 cl) := (hb1.cell (p := ⟨w.heap.size, 0, none⟩) (by simp; omega)).trans (by simp [go_sem])
  have ht1 : w1.cell? ⟨w.heap.size, 1, none⟩ = some (.bool fin) := (hb1.cell (p := ⟨w.heap.size, 1, none⟩) (by simp; omega)).trans (by simp [go_sem])
  have ht2 : w1.cell? ⟨w.heap.size, 2, none⟩ = some (.slice sa l.length sc) := (hb1.cell (p := ⟨w.heap.size, 2, none⟩) (by simp; omega)).trans (by simp [go_sem])
  go_wp2_with fail
  refine (few_any cl fin _ l _ (RdK.keep hr hbx) hn).mono ?_
  rintro e w2 ⟨rfl, hb2⟩
  rw [HF.out]
  have hbc := hbx.trans (hb2.mono hbx.size)
  have hbl := hb1.trans (hb2.mono hb1.size)
  have hz1 := hb1.size
  have hz2 := hb2.size
  simp only [World.size_alloc] at hz1
  have gt0 : w2.cell? ⟨w.heap.size, 0, none⟩ = some (.int .i64 cl) := (hb2.cell (p := ⟨w.heap.size, 0, none⟩) (by simp only; omega)).trans ht0
  have gt1 : w2.cell? ⟨w.heap.size, 1, none⟩ = some (.bool fin) := (hb2.cell (p := ⟨w.heap.size, 1, none⟩) (by simp only; omega)).trans ht1
  have gt2 : w2.cell? ⟨w.heap.size, 2, none⟩ = some (.slice sa l.length sc) := (hb2.cell (p := ⟨w.heap.size, 2, none⟩) (by simp only; omega)).trans ht2
  have hact : w2.heap[w.heap.size + 1]? = some (.cells #[.int .i64 kind, .int .i64 a, .int .i64 b, .bool fz] 26 (0, 0)) := (hbl.block (w.heap.size + 1) (by simp)).trans (heap_alloc2_new _ _ _)
  clear ht0 ht1 ht2
  have hk0 := cell_of_row w2 (w.heap.size + 1) 0 _ _ _ hact
  have hk1 := cell_of_row w2 (w.heap.size + 1) 1 _ _ _ hact
  have hk2 := cell_of_row w2 (w.heap.size + 1) 2 _ _ _ hact
  have hk3 := cell_of_row w2 (w.heap.size + 1) 3 _ _ _ hact
  simp only [List.getElem?_toArray, List.getElem?_cons_zero, List.getElem?_cons_succ] at hk0 hk1 hk2 hk3
  go_wp2_with fail
  refine (do_any cap cl fin _ l kind a b fz _ (RdK.keep hr hbc) HFw.out HAB.out.1 HAB.out.2).mono ?_
  have HLen := Lib.hid (Nat.le_trans (doR_len cap cl fin l kind a b fz) (by have := HFw.out.1; omega : l.length + 1 ≤ 9223372036854775807))
  have hcon := fun W hW => rdo_any cap cl fin (.slice sa l.length sc) l kind a b fz W hW HFw.out HAB.out.1 HAB.out.2
  generalize doR cap cl fin l kind a b fz = R at hcon HLen ⊢
  obtain ⟨rcl, rfin, rl, rcode⟩ := R
  have HCON := Lib.hid hcon; clear hcon
  rintro e w3 ⟨v1, rfl, hr1, hb3⟩
  obtain ⟨a1, c1, rfl, _⟩ := RdS.form hr1
  have hz3 := hb3.size
  have hbd := hbc.trans (hb3.mono hbc.size)
  have et0 : w3.cell? ⟨w.heap.size, 0, none⟩ = some (.int .i64 cl) := (hb3.cell (p := ⟨w.heap.size, 0, none⟩) (by simp only; omega)).trans gt0
  have et1 : w3.cell? ⟨w.heap.size, 1, none⟩ = some (.bool fin) := (hb3.cell (p := ⟨w.heap.size, 1, none⟩) (by simp only; omega)).trans gt1
  have et2 : w3.cell? ⟨w.heap.size, 2, none⟩ = some (.slice sa l.length sc) := (hb3.cell (p := ⟨w.heap.size, 2, none⟩) (by simp only; omega)).trans gt2
  have hact3 := (hb3.block (w.heap.size + 1) (by omega)).trans hact
  clear gt0 gt1 gt2 hk0 hk1 hk2 hk3
  have hk0 := cell_of_row w3 (w.heap.size + 1) 0 _ _ _ hact3
  have hk1 := cell_of_row w3 (w.heap.size + 1) 1 _ _ _ hact3
  have hk2 := cell_of_row w3 (w.heap.size + 1) 2 _ _ _ hact3
  have hk3 := cell_of_row w3 (w.heap.size + 1) 3 _ _ _ hact3
  simp only [List.getElem?_toArray, List.getElem?_cons_zero, List.getElem?_cons_succ] at hk0 hk1 hk2 hk3
  have hl3 : w.heap.size < w3.heap.size := by omega
  have hl4 : w.heap.size + 1 < w3.heap.size := by omega
  simp only
  go_wp2_with fail
  have hbe := hbd.alloc hbd.size (.cells #[.int .i64 rcl, .bool rfin, .slice a1 rl.length c1] 24)
  refine (HCON.out _ (RdK.keep hr hbe)).mono ?_
  rintro e w4 ⟨v2, rfl, hr2, hb4⟩
  obtain ⟨a2, c2, rfl, _⟩ := RdS.form hr2
  have hz4 := hb4.size
  simp only [World.size_alloc] at hz4
  have hbf := hbe.trans (hb4.mono hbe.size)
  go_upto_region 7 with (fail)
  have hbA := hb4.alloc hb4.size (.cells #[.int .i64 rcl, .bool rfin, .slice a2 rl.length c2] 24)
  have hbg := hbf.alloc hbf.size (.cells #[.int .i64 rcl, .bool rfin, .slice a2 rl.length c2] 24)
  have hbB := ((Below.refl w3.heap.size w3).alloc (Nat.le_refl _) (.cells #[.int .i64 rcl, .bool rfin, .slice a1 rl.length c1] 24)).trans (hbA.mono (by simp))
  obtain ⟨ha0, ha1, ha2⟩ := three_keep hbB et0 et1 et2
  obtain ⟨hd0, hd1, hd2, _⟩ := B1.facts (B1.call (cl := rcl) (fin := rfin) (sv := .slice a1 rl.length c1) (heap_alloc_new _ _) hbA)
  obtain ⟨he0, he1, he2, _⟩ := B1.facts (W := w4.alloc (.cells #[.int .i64 rcl, .bool rfin, .slice a2 rl.length c2] 24)) (N := w4.heap.size) (cl := rcl) (fin := rfin) (sv := .slice a2 rl.length c2) (heap_alloc_new _ _)
  have q1 := RdK.keep hr hbg
  have q2 := RdK.keep hr1 hbB
  have q3 := RdK.keep hr2 ((Below.refl w4.heap.size w4).alloc (Nat.le_refl _) (.cells #[.int .i64 rcl, .bool rfin, .slice a2 rl.length c2] 24))
  generalize w4.alloc (.cells #[.int .i64 rcl, .bool rfin, .slice a2 rl.length c2] 24) = W7 at hbg hbA hbB ha0 ha1 ha2 hd0 hd1 hd2 he0 he1 he2 q1 q2 q3 ⊢
  have HC1 := Lib.hid (fun W (hW : Below W7.heap.size W7 W) => valid_any cap cl fin _ l W (RdK.keep q1 hW) HFw.out)
  have HC2 := Lib.hid (fun W (hW : Below W7.heap.size W7 W) => rvalid_any cap cl fin _ l W (RdK.keep q1 hW) HFw.out)
  have HC3 := Lib.hid (fun W (hW : Below W7.heap.size W7 W) => same_any rcl rfin _ _ rl W (RdK.keep q2 hW) (RdK.keep q3 hW) HLen.out)
  unfold ValPost at HC1 HC2
  generalize T.validB cap cl fin l = vb at HC1 HC2
  have HS : Hid (∀ W, Below W7.heap.size W7 W → Below W7.heap.size W7 W ∧ W.cell? ⟨w.heap.size, 0, none⟩ = some (.int .i64 cl) ∧ W.cell? ⟨w.heap.size, 1, none⟩ = some (.bool fin) ∧ W.cell? ⟨w.heap.size, 2, none⟩ = some (.slice sa l.length sc) ∧
      W.cell? ⟨w3.heap.size, 0, none⟩ = some (.int .i64 rcl) ∧ W.cell? ⟨w3.heap.size, 1, none⟩ = some (.bool rfin) ∧ W.cell? ⟨w3.heap.size, 2, none⟩ = some (.slice a1 rl.length c1) ∧
      W.cell? ⟨w4.heap.size, 0, none⟩ = some (.int .i64 rcl) ∧ W.cell? ⟨w4.heap.size, 1, none⟩ = some (.bool rfin) ∧ W.cell? ⟨w4.heap.size, 2, none⟩ = some (.slice a2 rl.length c2)) := Lib.hid fun W hW => by
    obtain ⟨f0, f1, f2⟩ := three_keep hW ha0 ha1 ha2
    obtain ⟨f3, f4, f5⟩ := three_keep hW hd0 hd1 hd2
    obtain ⟨f6, f7, f8⟩ := three_keep hW he0 he1 he2
    exact ⟨hW, f0, f1, f2, f3, f4, f5, f6, f7, f8⟩
  clear hk0 hk1 hk2 hk3 et0 et1 et2 hact3 hact hb4 hbA hbB ha0 ha1 ha2 hd0 hd1 hd2 he0 he1 he2 q1 q2 q3 hr1 hr2 HCON HFw HAB HF hb3 hb2 hb1 hbl hbf hbe hbd hbc hbx hb0
  go_region_held3 (fun W => Below W7.heap.size W7 W ∧ W.cell? ⟨w.heap.size, 0, none⟩ = some (.int .i64 cl) ∧ W.cell? ⟨w.heap.size, 1, none⟩ = some (.bool fin) ∧ W.cell? ⟨w.heap.size, 2, none⟩ = some (.slice sa l.length sc) ∧
      W.cell? ⟨w3.heap.size, 0, none⟩ = some (.int .i64 rcl) ∧ W.cell? ⟨w3.heap.size, 1, none⟩ = some (.bool rfin) ∧ W.cell? ⟨w3.heap.size, 2, none⟩ = some (.slice a1 rl.length c1) ∧
      W.cell? ⟨w4.heap.size, 0, none⟩ = some (.int .i64 rcl) ∧ W.cell? ⟨w4.heap.size, 1, none⟩ = some (.bool rfin) ∧ W.cell? ⟨w4.heap.size, 2, none⟩ = some (.slice a2 rl.length c2))
    (first | exact HS.out _ ((Below.refl _ _).drew) | exact HS.out _ ‹_›)
    (first
      | (go_at_call 13; refine (HC1.out _ (And.left ‹_›)).mono ?_; rintro e w8 ⟨rfl, hb8⟩; have hb9 := (And.left ‹Below W7.heap.size W7 _ ∧ _›).trans (hb8.mono (And.left ‹Below W7.heap.size W7 _ ∧ _›).size))
      | (go_at_call 14; refine (HC2.out _ (And.left ‹_›)).mono ?_; rintro e w8 ⟨rfl, hb8⟩; have hb9 := (And.left ‹Below W7.heap.size W7 _ ∧ _›).trans (hb8.mono (And.left ‹Below W7.heap.size W7 _ ∧ _›).size))
      | (go_at_call 15; refine (HC3.out _ (And.left ‹_›)).mono ?_; rintro e w8 ⟨rfl, hb8⟩; have hb9 := (And.left ‹Below W7.heap.size W7 _ ∧ _›).trans (hb8.mono (And.left ‹Below W7.heap.size W7 _ ∧ _›).size)))
  all_goals
    have hb9 := And.left ‹Below W7.heap.size W7 _ ∧ _›
    go_wp2_with fail
    go_ret
    exact ⟨by simp, hbg.trans (hb9.mono hbg.size)⟩
/-- the law -/
theorem operations_law (w : World) (cap : Int) (hc : (Lit.int .i64 cap).wf = true) (v1 : Value) (t : Tb) (h1 : CameToc w v1 t) (v2 : Value) (x : Ac) (h2 : CameAct w v2 x) :
    Calls Try.prog 3 #[.int .i64 cap, v1, v2] w fun e w' => e = .returned (.bool true) ∧ Below w.heap.size w w' := by
  obtain ⟨rfl, _, hr, hn, _⟩ := h1
  obtain ⟨rfl, _, ha, hb⟩ := h2
  by_cases hf : Few t.l
  · exact ops_few cap t.cl t.fin t.sv t.l x.kind x.a x.b x.fz w hr hn hf ha hb
  · exact ops_many cap t.cl t.fin t.sv t.l x.kind x.a x.b x.fz w hr hn hf
end Go.Proofs.Ytiioojlihapdaaa
