/- The laws' do and the reference's Do walked (chapter 14). -/
import Derived.Test.YtiioojlihapdaaaTkAll
import Derived.Outline
namespace Go.Proofs.Ytiioojlihapdaaa
open Go.RowKit
set_option linter.unusedVariables false

/-- an operation as a value -/
abbrev aval (kind a b : Int) (fz : Bool) : Value := .agg #[.int .i64 kind, .int .i64 a, .int .i64 b, .bool fz]
def doR (cap cl : Int) (fin : Bool) (l : List T.Trk) (kind a b : Int) (fz : Bool) : Res :=
  if kind = 0 then reserveR cap cl fin l a b else if kind = 1 then appendR cap cl fin l a b else if kind = 2 then closeTrackR cap cl fin l a else closeSessR cap cl fin l fz
/-- the three boxes of 'do' -/
abbrev box3 (w : World) (cl : Int) (fin : Bool) (sv : Value) (kind a b : Int) (fz : Bool) : World :=
  ((w.alloc (.cells #[.int .i64 cl, .bool fin, sv] 24)).alloc (.cells #[.int .i64 kind, .int .i64 a, .int .i64 b, .bool fz] 26)).alloc (.cells #[.int .i64 0, .bool false, .slice none 0 0] 24)
theorem box3_below (w : World) (cl : Int) (fin : Bool) (sv : Value) (kind a b : Int) (fz : Bool) : Below w.heap.size w (box3 w cl fin sv kind a b fz) :=
  (((Below.refl _ _).alloc (Nat.le_refl _) _).alloc (by simp) _).alloc (by simp; omega) _

/-- tracks do not lie in a block of fewer than seven cells -/
theorem RdK.far {w : World} {v : Value} {l : List T.Trk} (h : RdK w v l) {g : Nat} {cs : Array Value} {t : TypeId} {fr : Nat × Nat} (hg : w.heap[g]? = some (.cells cs t fr)) (hc : cs.size < 7) (k : Nat) (u : Value) : RdK (w.setCell ⟨g, k, none⟩ u) v l := by
  obtain ⟨a, c, b, off, rfl, hac, hcell⟩ := h
  refine ⟨a, c, b, off, rfl, hac, fun i hi => ⟨(hcell i hi).1, fun j x hx => ?_⟩⟩
  have h6 := (hcell i hi).2 6 _ rfl
  have hne : g ≠ b := by
    rintro rfl
    rw [cell_of_row w g _ cs t fr hg, Array.getElem?_eq_none (by omega)] at h6
    cases h6
  rw [World.cell?_setCell_other w _ _ _ (fun e => hne (congrArg Addr.block e))]
  exact (hcell i hi).2 j x hx

set_option maxRecDepth 100000 in
set_option maxHeartbeats 6000000 in
theorem do_any (cap cl : Int) (fin : Bool) (sv : Value) (l : List T.Trk) (kind a b : Int) (fz : Bool) (w : World) (hr : RdK w sv l) (hf : Few l) (ha : i64 a) (hb : i64 b) :
    Calls Try.prog 11 #[.int .i64 cap, tval cl fin sv, aval kind a b fz] w (OpP (doR cap cl fin l kind a b fz) w) := by
  unfold doR
  by_cases k0 : kind = 0
  · subst k0
    rw [if_pos rfl]
    obtain ⟨sa, sc, rfl, hac⟩ := RdS.form hr
    have hb0 := box3_below w cl fin (.slice sa l.length sc) 0 a b fz
    have hcon := reserve_any cap cl fin _ l a b _ (hr.keep hb0) hf ha
    generalize reserveR cap cl fin l a b = R at hcon ⊢
    obtain ⟨rcl, rfin, rl, rcode⟩ := R
    have Hreserve_any := Lib.hid hcon; clear hcon
    go_enter Try.func11, Try.ntmps11
    go_wp2_with fail
    refine Hreserve_any.out.mono ?_
    rintro e w1 ⟨v1, rfl, hr1, hb1⟩
    obtain ⟨a1, c1, rfl, _⟩ := RdS.form hr1
    have hbx := hb0.trans (hb1.mono hb0.size)
    have hsz : w.heap.size + 1 + 1 < w1.heap.size := by have := hb1.size; simp at this; omega
    have hs0 : w1.cell? ⟨w.heap.size + 1 + 1, 0, none⟩ = some (.int .i64 0) := (hb1.cell (p := ⟨w.heap.size + 1 + 1, 0, none⟩) (by simp)).trans (by simp [go_sem])
    have hs1 : w1.cell? ⟨w.heap.size + 1 + 1, 1, none⟩ = some (.bool false) := (hb1.cell (p := ⟨w.heap.size + 1 + 1, 1, none⟩) (by simp)).trans (by simp [go_sem])
    have hs2 : w1.cell? ⟨w.heap.size + 1 + 1, 2, none⟩ = some (.slice none 0 0) := (hb1.cell (p := ⟨w.heap.size + 1 + 1, 2, none⟩) (by simp)).trans (by simp [go_sem])
    have hf1 : ∀ k, w1.frozen? ⟨w.heap.size + 1 + 1, k, none⟩ = false := fun k => (hb1.frozen (p := ⟨w.heap.size + 1 + 1, k, none⟩) (by simp)).trans (by simp [go_sem])
    simp only
    go_wp2_with fail
    have hblk : w1.heap[w.heap.size + 1 + 1]? = some (.cells #[.int .i64 0, .bool false, .slice none 0 0] 24 (0, 0)) := (hb1.block (w.heap.size + 1 + 1) (by simp)).trans (by
      have h := heap_alloc_new ((w.alloc (.cells #[.int .i64 cl, .bool fin, .slice sa l.length sc] 24)).alloc (.cells #[.int .i64 0, .int .i64 a, .int .i64 b, .bool fz] 26)) (.cells #[.int .i64 0, .bool false, .slice none 0 0] 24)
      rwa [World.size_alloc, World.size_alloc] at h)
    refine bodyPost_ret (v := .tuple #[tval rcl rfin (.slice a1 rl.length c1), .int .i64 rcode]) (by simp [results, Try.results11, go_sem, hs0, hs1, hs2]) rfl ⟨_, rfl, ?_, ?_⟩
    · exact RdK.far (RdK.far (RdK.far hr1 hblk (by decide) 0 _) (setB hblk 0 _) (by simp) 1 _) (setB (setB hblk 0 _) 1 _) (by simp) 2 _
    · exact Below.setCell (Below.setCell (Below.setCell hbx (by simp only; omega) _) (by simp only; omega) _) (by simp only; omega) _
  · rw [if_neg k0]
    have d0 : (kind == 0) = false := by rw [beq_eq_false_iff_ne]; exact k0
    by_cases k1 : kind = 1
    · subst k1
      rw [if_pos rfl]
      obtain ⟨sa, sc, rfl, hac⟩ := RdS.form hr
      have hb0 := box3_below w cl fin (.slice sa l.length sc) 1 a b fz
      have hcon := append_any cap cl fin _ l a b _ (hr.keep hb0) hf hb ha
      generalize appendR cap cl fin l a b = R at hcon ⊢
      obtain ⟨rcl, rfin, rl, rcode⟩ := R
      have Happend_any := Lib.hid hcon; clear hcon
      go_enter Try.func11, Try.ntmps11
      go_wp2_with fail
      refine Happend_any.out.mono ?_
      rintro e w1 ⟨v1, rfl, hr1, hb1⟩
      obtain ⟨a1, c1, rfl, _⟩ := RdS.form hr1
      have hbx := hb0.trans (hb1.mono hb0.size)
      have hsz : w.heap.size + 1 + 1 < w1.heap.size := by have := hb1.size; simp at this; omega
      have hs0 : w1.cell? ⟨w.heap.size + 1 + 1, 0, none⟩ = some (.int .i64 0) := (hb1.cell (p := ⟨w.heap.size + 1 + 1, 0, none⟩) (by simp)).trans (by simp [go_sem])
      have hs1 : w1.cell? ⟨w.heap.size + 1 + 1, 1, none⟩ = some (.bool false) := (hb1.cell (p := ⟨w.heap.size + 1 + 1, 1, none⟩) (by simp)).trans (by simp [go_sem])
      have hs2 : w1.cell? ⟨w.heap.size + 1 + 1, 2, none⟩ = some (.slice none 0 0) := (hb1.cell (p := ⟨w.heap.size + 1 + 1, 2, none⟩) (by simp)).trans (by simp [go_sem])
      have hf1 : ∀ k, w1.frozen? ⟨w.heap.size + 1 + 1, k, none⟩ = false := fun k => (hb1.frozen (p := ⟨w.heap.size + 1 + 1, k, none⟩) (by simp)).trans (by simp [go_sem])
      simp only
      go_wp2_with fail
      have hblk : w1.heap[w.heap.size + 1 + 1]? = some (.cells #[.int .i64 0, .bool false, .slice none 0 0] 24 (0, 0)) := (hb1.block (w.heap.size + 1 + 1) (by simp)).trans (by
        have h := heap_alloc_new ((w.alloc (.cells #[.int .i64 cl, .bool fin, .slice sa l.length sc] 24)).alloc (.cells #[.int .i64 1, .int .i64 a, .int .i64 b, .bool fz] 26)) (.cells #[.int .i64 0, .bool false, .slice none 0 0] 24)
        rwa [World.size_alloc, World.size_alloc] at h)
      refine bodyPost_ret (v := .tuple #[tval rcl rfin (.slice a1 rl.length c1), .int .i64 rcode]) (by simp [results, Try.results11, go_sem, hs0, hs1, hs2]) rfl ⟨_, rfl, ?_, ?_⟩
      · exact RdK.far (RdK.far (RdK.far hr1 hblk (by decide) 0 _) (setB hblk 0 _) (by simp) 1 _) (setB (setB hblk 0 _) 1 _) (by simp) 2 _
      · exact Below.setCell (Below.setCell (Below.setCell hbx (by simp only; omega) _) (by simp only; omega) _) (by simp only; omega) _
    · rw [if_neg k1]
      have d1 : (kind == 1) = false := by rw [beq_eq_false_iff_ne]; exact k1
      by_cases k2 : kind = 2
      · subst k2
        rw [if_pos rfl]
        obtain ⟨sa, sc, rfl, hac⟩ := RdS.form hr
        have hb0 := box3_below w cl fin (.slice sa l.length sc) 2 a b fz
        have hcon := ctrack_any cap cl fin _ l a _ (hr.keep hb0) hf
        generalize closeTrackR cap cl fin l a = R at hcon ⊢
        obtain ⟨rcl, rfin, rl, rcode⟩ := R
        have Hctrack_any := Lib.hid hcon; clear hcon
        go_enter Try.func11, Try.ntmps11
        go_wp2_with fail
        refine Hctrack_any.out.mono ?_
        rintro e w1 ⟨v1, rfl, hr1, hb1⟩
        obtain ⟨a1, c1, rfl, _⟩ := RdS.form hr1
        have hbx := hb0.trans (hb1.mono hb0.size)
        have hsz : w.heap.size + 1 + 1 < w1.heap.size := by have := hb1.size; simp at this; omega
        have hs0 : w1.cell? ⟨w.heap.size + 1 + 1, 0, none⟩ = some (.int .i64 0) := (hb1.cell (p := ⟨w.heap.size + 1 + 1, 0, none⟩) (by simp)).trans (by simp [go_sem])
        have hs1 : w1.cell? ⟨w.heap.size + 1 + 1, 1, none⟩ = some (.bool false) := (hb1.cell (p := ⟨w.heap.size + 1 + 1, 1, none⟩) (by simp)).trans (by simp [go_sem])
        have hs2 : w1.cell? ⟨w.heap.size + 1 + 1, 2, none⟩ = some (.slice none 0 0) := (hb1.cell (p := ⟨w.heap.size + 1 + 1, 2, none⟩) (by simp)).trans (by simp [go_sem])
        have hf1 : ∀ k, w1.frozen? ⟨w.heap.size + 1 + 1, k, none⟩ = false := fun k => (hb1.frozen (p := ⟨w.heap.size + 1 + 1, k, none⟩) (by simp)).trans (by simp [go_sem])
        simp only
        go_wp2_with fail
        have hblk : w1.heap[w.heap.size + 1 + 1]? = some (.cells #[.int .i64 0, .bool false, .slice none 0 0] 24 (0, 0)) := (hb1.block (w.heap.size + 1 + 1) (by simp)).trans (by
          have h := heap_alloc_new ((w.alloc (.cells #[.int .i64 cl, .bool fin, .slice sa l.length sc] 24)).alloc (.cells #[.int .i64 2, .int .i64 a, .int .i64 b, .bool fz] 26)) (.cells #[.int .i64 0, .bool false, .slice none 0 0] 24)
          rwa [World.size_alloc, World.size_alloc] at h)
        refine bodyPost_ret (v := .tuple #[tval rcl rfin (.slice a1 rl.length c1), .int .i64 rcode]) (by simp [results, Try.results11, go_sem, hs0, hs1, hs2]) rfl ⟨_, rfl, ?_, ?_⟩
        · exact RdK.far (RdK.far (RdK.far hr1 hblk (by decide) 0 _) (setB hblk 0 _) (by simp) 1 _) (setB (setB hblk 0 _) 1 _) (by simp) 2 _
        · exact Below.setCell (Below.setCell (Below.setCell hbx (by simp only; omega) _) (by simp only; omega) _) (by simp only; omega) _
      · rw [if_neg k2]
        have d2 : (kind == 2) = false := by rw [beq_eq_false_iff_ne]; exact k2
        clear k0 k1 k2
        obtain ⟨sa, sc, rfl, hac⟩ := RdS.form hr
        have hb0 := box3_below w cl fin (.slice sa l.length sc) kind a b fz
        have hcon := csess_any cap cl fin _ l fz _ (hr.keep hb0) hf
        generalize closeSessR cap cl fin l fz = R at hcon ⊢
        obtain ⟨rcl, rfin, rl, rcode⟩ := R
        have Hcsess_any := Lib.hid hcon; clear hcon
        go_enter Try.func11, Try.ntmps11
        go_wp2_with fail
        refine Hcsess_any.out.mono ?_
        rintro e w1 ⟨v1, rfl, hr1, hb1⟩
        obtain ⟨a1, c1, rfl, _⟩ := RdS.form hr1
        have hbx := hb0.trans (hb1.mono hb0.size)
        have hsz : w.heap.size + 1 + 1 < w1.heap.size := by have := hb1.size; simp at this; omega
        have hs0 : w1.cell? ⟨w.heap.size + 1 + 1, 0, none⟩ = some (.int .i64 0) := (hb1.cell (p := ⟨w.heap.size + 1 + 1, 0, none⟩) (by simp)).trans (by simp [go_sem])
        have hs1 : w1.cell? ⟨w.heap.size + 1 + 1, 1, none⟩ = some (.bool false) := (hb1.cell (p := ⟨w.heap.size + 1 + 1, 1, none⟩) (by simp)).trans (by simp [go_sem])
        have hs2 : w1.cell? ⟨w.heap.size + 1 + 1, 2, none⟩ = some (.slice none 0 0) := (hb1.cell (p := ⟨w.heap.size + 1 + 1, 2, none⟩) (by simp)).trans (by simp [go_sem])
        have hf1 : ∀ k, w1.frozen? ⟨w.heap.size + 1 + 1, k, none⟩ = false := fun k => (hb1.frozen (p := ⟨w.heap.size + 1 + 1, k, none⟩) (by simp)).trans (by simp [go_sem])
        simp only
        go_wp2_with fail
        have hblk : w1.heap[w.heap.size + 1 + 1]? = some (.cells #[.int .i64 0, .bool false, .slice none 0 0] 24 (0, 0)) := (hb1.block (w.heap.size + 1 + 1) (by simp)).trans (by
          have h := heap_alloc_new ((w.alloc (.cells #[.int .i64 cl, .bool fin, .slice sa l.length sc] 24)).alloc (.cells #[.int .i64 kind, .int .i64 a, .int .i64 b, .bool fz] 26)) (.cells #[.int .i64 0, .bool false, .slice none 0 0] 24)
          rwa [World.size_alloc, World.size_alloc] at h)
        refine bodyPost_ret (v := .tuple #[tval rcl rfin (.slice a1 rl.length c1), .int .i64 rcode]) (by simp [results, Try.results11, go_sem, hs0, hs1, hs2]) rfl ⟨_, rfl, ?_, ?_⟩
        · exact RdK.far (RdK.far (RdK.far hr1 hblk (by decide) 0 _) (setB hblk 0 _) (by simp) 1 _) (setB (setB hblk 0 _) 1 _) (by simp) 2 _
        · exact Below.setCell (Below.setCell (Below.setCell hbx (by simp only; omega) _) (by simp only; omega) _) (by simp only; omega) _
set_option maxRecDepth 100000 in
set_option maxHeartbeats 6000000 in
theorem rdo_any (cap cl : Int) (fin : Bool) (sv : Value) (l : List T.Trk) (kind a b : Int) (fz : Bool) (w : World) (hr : RdK w sv l) (hf : Few l) (ha : i64 a) (hb : i64 b) :
    Calls Try.prog 12 #[.int .i64 cap, tval cl fin sv, aval kind a b fz] w (OpP (doR cap cl fin l kind a b fz) w) := by
  unfold doR
  by_cases k0 : kind = 0
  · subst k0
    rw [if_pos rfl]
    obtain ⟨sa, sc, rfl, hac⟩ := RdS.form hr
    have hb0 := box3_below w cl fin (.slice sa l.length sc) 0 a b fz
    have hcon := rreserve_any cap cl fin _ l a b _ (hr.keep hb0) hf ha
    generalize reserveR cap cl fin l a b = R at hcon ⊢
    obtain ⟨rcl, rfin, rl, rcode⟩ := R
    have Hrreserve_any := Lib.hid hcon; clear hcon
    go_enter Try.func12, Try.ntmps12
    go_wp2_with fail
    refine Hrreserve_any.out.mono ?_
    rintro e w1 ⟨v1, rfl, hr1, hb1⟩
    obtain ⟨a1, c1, rfl, _⟩ := RdS.form hr1
    have hbx := hb0.trans (hb1.mono hb0.size)
    have hsz : w.heap.size + 1 + 1 < w1.heap.size := by have := hb1.size; simp at this; omega
    have hs0 : w1.cell? ⟨w.heap.size + 1 + 1, 0, none⟩ = some (.int .i64 0) := (hb1.cell (p := ⟨w.heap.size + 1 + 1, 0, none⟩) (by simp)).trans (by simp [go_sem])
    have hs1 : w1.cell? ⟨w.heap.size + 1 + 1, 1, none⟩ = some (.bool false) := (hb1.cell (p := ⟨w.heap.size + 1 + 1, 1, none⟩) (by simp)).trans (by simp [go_sem])
    have hs2 : w1.cell? ⟨w.heap.size + 1 + 1, 2, none⟩ = some (.slice none 0 0) := (hb1.cell (p := ⟨w.heap.size + 1 + 1, 2, none⟩) (by simp)).trans (by simp [go_sem])
    have hf1 : ∀ k, w1.frozen? ⟨w.heap.size + 1 + 1, k, none⟩ = false := fun k => (hb1.frozen (p := ⟨w.heap.size + 1 + 1, k, none⟩) (by simp)).trans (by simp [go_sem])
    simp only
    go_wp2_with fail
    have hblk : w1.heap[w.heap.size + 1 + 1]? = some (.cells #[.int .i64 0, .bool false, .slice none 0 0] 24 (0, 0)) := (hb1.block (w.heap.size + 1 + 1) (by simp)).trans (by
      have h := heap_alloc_new ((w.alloc (.cells #[.int .i64 cl, .bool fin, .slice sa l.length sc] 24)).alloc (.cells #[.int .i64 0, .int .i64 a, .int .i64 b, .bool fz] 26)) (.cells #[.int .i64 0, .bool false, .slice none 0 0] 24)
      rwa [World.size_alloc, World.size_alloc] at h)
    refine bodyPost_ret (v := .tuple #[tval rcl rfin (.slice a1 rl.length c1), .int .i64 rcode]) (by simp [results, Try.results12, go_sem, hs0, hs1, hs2]) rfl ⟨_, rfl, ?_, ?_⟩
    · exact RdK.far (RdK.far (RdK.far hr1 hblk (by decide) 0 _) (setB hblk 0 _) (by simp) 1 _) (setB (setB hblk 0 _) 1 _) (by simp) 2 _
    · exact Below.setCell (Below.setCell (Below.setCell hbx (by simp only; omega) _) (by simp only; omega) _) (by simp only; omega) _
  · rw [if_neg k0]
    have d0 : (kind == 0) = false := by rw [beq_eq_false_iff_ne]; exact k0
    by_cases k1 : kind = 1
    · subst k1
      rw [if_pos rfl]
      obtain ⟨sa, sc, rfl, hac⟩ := RdS.form hr
      have hb0 := box3_below w cl fin (.slice sa l.length sc) 1 a b fz
      have hcon := rappend_any cap cl fin _ l a b _ (hr.keep hb0) hf hb ha
      generalize appendR cap cl fin l a b = R at hcon ⊢
      obtain ⟨rcl, rfin, rl, rcode⟩ := R
      have Hrappend_any := Lib.hid hcon; clear hcon
      go_enter Try.func12, Try.ntmps12
      go_wp2_with fail
      refine Hrappend_any.out.mono ?_
      rintro e w1 ⟨v1, rfl, hr1, hb1⟩
      obtain ⟨a1, c1, rfl, _⟩ := RdS.form hr1
      have hbx := hb0.trans (hb1.mono hb0.size)
      have hsz : w.heap.size + 1 + 1 < w1.heap.size := by have := hb1.size; simp at this; omega
      have hs0 : w1.cell? ⟨w.heap.size + 1 + 1, 0, none⟩ = some (.int .i64 0) := (hb1.cell (p := ⟨w.heap.size + 1 + 1, 0, none⟩) (by simp)).trans (by simp [go_sem])
      have hs1 : w1.cell? ⟨w.heap.size + 1 + 1, 1, none⟩ = some (.bool false) := (hb1.cell (p := ⟨w.heap.size + 1 + 1, 1, none⟩) (by simp)).trans (by simp [go_sem])
      have hs2 : w1.cell? ⟨w.heap.size + 1 + 1, 2, none⟩ = some (.slice none 0 0) := (hb1.cell (p := ⟨w.heap.size + 1 + 1, 2, none⟩) (by simp)).trans (by simp [go_sem])
      have hf1 : ∀ k, w1.frozen? ⟨w.heap.size + 1 + 1, k, none⟩ = false := fun k => (hb1.frozen (p := ⟨w.heap.size + 1 + 1, k, none⟩) (by simp)).trans (by simp [go_sem])
      simp only
      go_wp2_with fail
      have hblk : w1.heap[w.heap.size + 1 + 1]? = some (.cells #[.int .i64 0, .bool false, .slice none 0 0] 24 (0, 0)) := (hb1.block (w.heap.size + 1 + 1) (by simp)).trans (by
        have h := heap_alloc_new ((w.alloc (.cells #[.int .i64 cl, .bool fin, .slice sa l.length sc] 24)).alloc (.cells #[.int .i64 1, .int .i64 a, .int .i64 b, .bool fz] 26)) (.cells #[.int .i64 0, .bool false, .slice none 0 0] 24)
        rwa [World.size_alloc, World.size_alloc] at h)
      refine bodyPost_ret (v := .tuple #[tval rcl rfin (.slice a1 rl.length c1), .int .i64 rcode]) (by simp [results, Try.results12, go_sem, hs0, hs1, hs2]) rfl ⟨_, rfl, ?_, ?_⟩
      · exact RdK.far (RdK.far (RdK.far hr1 hblk (by decide) 0 _) (setB hblk 0 _) (by simp) 1 _) (setB (setB hblk 0 _) 1 _) (by simp) 2 _
      · exact Below.setCell (Below.setCell (Below.setCell hbx (by simp only; omega) _) (by simp only; omega) _) (by simp only; omega) _
    · rw [if_neg k1]
      have d1 : (kind == 1) = false := by rw [beq_eq_false_iff_ne]; exact k1
      by_cases k2 : kind = 2
      · subst k2
        rw [if_pos rfl]
        obtain ⟨sa, sc, rfl, hac⟩ := RdS.form hr
        have hb0 := box3_below w cl fin (.slice sa l.length sc) 2 a b fz
        have hcon := rctrack_any cap cl fin _ l a _ (hr.keep hb0) hf
        generalize closeTrackR cap cl fin l a = R at hcon ⊢
        obtain ⟨rcl, rfin, rl, rcode⟩ := R
        have Hrctrack_any := Lib.hid hcon; clear hcon
        go_enter Try.func12, Try.ntmps12
        go_wp2_with fail
        refine Hrctrack_any.out.mono ?_
        rintro e w1 ⟨v1, rfl, hr1, hb1⟩
        obtain ⟨a1, c1, rfl, _⟩ := RdS.form hr1
        have hbx := hb0.trans (hb1.mono hb0.size)
        have hsz : w.heap.size + 1 + 1 < w1.heap.size := by have := hb1.size; simp at this; omega
        have hs0 : w1.cell? ⟨w.heap.size + 1 + 1, 0, none⟩ = some (.int .i64 0) := (hb1.cell (p := ⟨w.heap.size + 1 + 1, 0, none⟩) (by simp)).trans (by simp [go_sem])
        have hs1 : w1.cell? ⟨w.heap.size + 1 + 1, 1, none⟩ = some (.bool false) := (hb1.cell (p := ⟨w.heap.size + 1 + 1, 1, none⟩) (by simp)).trans (by simp [go_sem])
        have hs2 : w1.cell? ⟨w.heap.size + 1 + 1, 2, none⟩ = some (.slice none 0 0) := (hb1.cell (p := ⟨w.heap.size + 1 + 1, 2, none⟩) (by simp)).trans (by simp [go_sem])
        have hf1 : ∀ k, w1.frozen? ⟨w.heap.size + 1 + 1, k, none⟩ = false := fun k => (hb1.frozen (p := ⟨w.heap.size + 1 + 1, k, none⟩) (by simp)).trans (by simp [go_sem])
        simp only
        go_wp2_with fail
        have hblk : w1.heap[w.heap.size + 1 + 1]? = some (.cells #[.int .i64 0, .bool false, .slice none 0 0] 24 (0, 0)) := (hb1.block (w.heap.size + 1 + 1) (by simp)).trans (by
          have h := heap_alloc_new ((w.alloc (.cells #[.int .i64 cl, .bool fin, .slice sa l.length sc] 24)).alloc (.cells #[.int .i64 2, .int .i64 a, .int .i64 b, .bool fz] 26)) (.cells #[.int .i64 0, .bool false, .slice none 0 0] 24)
          rwa [World.size_alloc, World.size_alloc] at h)
        refine bodyPost_ret (v := .tuple #[tval rcl rfin (.slice a1 rl.length c1), .int .i64 rcode]) (by simp [results, Try.results12, go_sem, hs0, hs1, hs2]) rfl ⟨_, rfl, ?_, ?_⟩
        · exact RdK.far (RdK.far (RdK.far hr1 hblk (by decide) 0 _) (setB hblk 0 _) (by simp) 1 _) (setB (setB hblk 0 _) 1 _) (by simp) 2 _
        · exact Below.setCell (Below.setCell (Below.setCell hbx (by simp only; omega) _) (by simp only; omega) _) (by simp only; omega) _
      · rw [if_neg k2]
        have d2 : (kind == 2) = false := by rw [beq_eq_false_iff_ne]; exact k2
        clear k0 k1 k2
        obtain ⟨sa, sc, rfl, hac⟩ := RdS.form hr
        have hb0 := box3_below w cl fin (.slice sa l.length sc) kind a b fz
        have hcon := rcsess_any cap cl fin _ l fz _ (hr.keep hb0) hf
        generalize closeSessR cap cl fin l fz = R at hcon ⊢
        obtain ⟨rcl, rfin, rl, rcode⟩ := R
        have Hrcsess_any := Lib.hid hcon; clear hcon
        go_enter Try.func12, Try.ntmps12
        go_wp2_with fail
        refine Hrcsess_any.out.mono ?_
        rintro e w1 ⟨v1, rfl, hr1, hb1⟩
        obtain ⟨a1, c1, rfl, _⟩ := RdS.form hr1
        have hbx := hb0.trans (hb1.mono hb0.size)
        have hsz : w.heap.size + 1 + 1 < w1.heap.size := by have := hb1.size; simp at this; omega
        have hs0 : w1.cell? ⟨w.heap.size + 1 + 1, 0, none⟩ = some (.int .i64 0) := (hb1.cell (p := ⟨w.heap.size + 1 + 1, 0, none⟩) (by simp)).trans (by simp [go_sem])
        have hs1 : w1.cell? ⟨w.heap.size + 1 + 1, 1, none⟩ = some (.bool false) := (hb1.cell (p := ⟨w.heap.size + 1 + 1, 1, none⟩) (by simp)).trans (by simp [go_sem])
        have hs2 : w1.cell? ⟨w.heap.size + 1 + 1, 2, none⟩ = some (.slice none 0 0) := (hb1.cell (p := ⟨w.heap.size + 1 + 1, 2, none⟩) (by simp)).trans (by simp [go_sem])
        have hf1 : ∀ k, w1.frozen? ⟨w.heap.size + 1 + 1, k, none⟩ = false := fun k => (hb1.frozen (p := ⟨w.heap.size + 1 + 1, k, none⟩) (by simp)).trans (by simp [go_sem])
        simp only
        go_wp2_with fail
        have hblk : w1.heap[w.heap.size + 1 + 1]? = some (.cells #[.int .i64 0, .bool false, .slice none 0 0] 24 (0, 0)) := (hb1.block (w.heap.size + 1 + 1) (by simp)).trans (by
          have h := heap_alloc_new ((w.alloc (.cells #[.int .i64 cl, .bool fin, .slice sa l.length sc] 24)).alloc (.cells #[.int .i64 kind, .int .i64 a, .int .i64 b, .bool fz] 26)) (.cells #[.int .i64 0, .bool false, .slice none 0 0] 24)
          rwa [World.size_alloc, World.size_alloc] at h)
        refine bodyPost_ret (v := .tuple #[tval rcl rfin (.slice a1 rl.length c1), .int .i64 rcode]) (by simp [results, Try.results12, go_sem, hs0, hs1, hs2]) rfl ⟨_, rfl, ?_, ?_⟩
        · exact RdK.far (RdK.far (RdK.far hr1 hblk (by decide) 0 _) (setB hblk 0 _) (by simp) 1 _) (setB (setB hblk 0 _) 1 _) (by simp) 2 _
        · exact Below.setCell (Below.setCell (Below.setCell hbx (by simp only; omega) _) (by simp only; omega) _) (by simp only; omega) _
end Go.Proofs.Ytiioojlihapdaaa
