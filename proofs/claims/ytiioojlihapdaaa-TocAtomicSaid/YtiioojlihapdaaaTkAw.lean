/- The example of chapter 14. -/
import Derived.Test.YtiioojlihapdaaaTkDo
import Derived.Outline
namespace Go.Proofs.Ytiioojlihapdaaa
open Go.RowKit
set_option linter.unusedVariables false

theorem ex1 : reserveR 400 0 false [] 100 0 = ⟨0, false, [⟨1, 1, 0, 100, 0, 0, 0⟩], 0⟩ := by kernel_rfl
theorem ex2 : appendR 400 0 false [⟨1, 1, 0, 100, 0, 0, 0⟩] 0 40 = ⟨0, false, [⟨1, 1, 0, 100, 40, 1, 0⟩], 0⟩ := by kernel_rfl
theorem ex3 : closeTrackR 400 0 false [⟨1, 1, 0, 100, 40, 1, 0⟩] 1 = ⟨0, false, [⟨1, 1, 0, 40, 40, 2, 0⟩], 0⟩ := by kernel_rfl
theorem ex4 : closeSessR 400 0 false [⟨1, 1, 0, 40, 40, 2, 0⟩] false = ⟨1, false, [⟨1, 1, 0, 40, 40, 2, 0⟩], 0⟩ := by kernel_rfl
theorem ex5 : reserveR 400 1 false [⟨1, 1, 0, 40, 40, 2, 0⟩] 10 0 = ⟨1, false, [⟨1, 1, 0, 40, 40, 2, 0⟩, ⟨2, 2, 56, 10, 56, 0, 0⟩], 0⟩ := by kernel_rfl

/-- a box of a table -/
def B1 (W : World) (N : Nat) (cl : Int) (fin : Bool) (sv : Value) : Prop := W.heap[N]? = some (.cells #[.int .i64 cl, .bool fin, sv] 24 (0, 0))
section
variable {W W' : World} {N : Nat} {cl : Int} {fin : Bool} {sv : Value}
theorem B1.lt (h : B1 W N cl fin sv) : N < W.heap.size := (Array.getElem?_eq_some_iff.1 h).1
theorem B1.call (h : B1 W N cl fin sv) (hb : Below W.heap.size W W') : B1 W' N cl fin sv := (hb.block N h.lt).trans h
theorem B1.facts (h : B1 W N cl fin sv) : W.cell? ⟨N, 0, none⟩ = some (.int .i64 cl) ∧ W.cell? ⟨N, 1, none⟩ = some (.bool fin) ∧ W.cell? ⟨N, 2, none⟩ = some sv ∧ (∀ k, W.frozen? ⟨N, k, none⟩ = false) :=
  ⟨cell_of_row _ _ _ _ _ _ h, cell_of_row _ _ _ _ _ _ h, cell_of_row _ _ _ _ _ _ h, fun k => by unfold B1 at h; simp [World.frozen?, h]⟩
theorem B1.put (h : B1 W N cl fin sv) (cl' : Int) (fin' : Bool) (sv' : Value) : B1 (((W.setCell ⟨N, 0, none⟩ (.int .i64 cl')).setCell ⟨N, 1, none⟩ (.bool fin')).setCell ⟨N, 2, none⟩ sv') N cl' fin' sv' := setB (setB (setB h 0 _) 1 _) 2 _
theorem B1.rd (h : B1 W N cl fin sv) {v : Value} {l : List T.Trk} (hr : RdK W v l) (cl' : Int) (fin' : Bool) (sv' : Value) : RdK (((W.setCell ⟨N, 0, none⟩ (.int .i64 cl')).setCell ⟨N, 1, none⟩ (.bool fin')).setCell ⟨N, 2, none⟩ sv') v l :=
  RdK.far (RdK.far (RdK.far hr h (by simp) 0 _) (setB h 0 _) (by simp) 1 _) (setB (setB h 0 _) 1 _) (by simp) 2 _
theorem B1.below (h : B1 W N cl fin sv) {w : World} (hb : Below w.heap.size w W) (hN : w.heap.size ≤ N) (cl' : Int) (fin' : Bool) (sv' : Value) : Below w.heap.size w (((W.setCell ⟨N, 0, none⟩ (.int .i64 cl')).setCell ⟨N, 1, none⟩ (.bool fin')).setCell ⟨N, 2, none⟩ sv') :=
  ((hb.setCell hN _).setCell hN _).setCell hN _
end
set_option maxRecDepth 100000 in
set_option maxHeartbeats 2000000 in
theorem awake_any (w : World) : Calls Try.prog 9 #[] w (RB true w) := by
  have H1 := Lib.hid (reserve_any 400 0 false (.slice none 0 0) [] 100 0 w (RdK.nil w) (by decide) (by unfold i64; omega))
  go_enter Try.func9, Try.ntmps9
  go_wp2_with fail
  refine H1.out.mono ?_
  rw [ex1]
  rintro e w1 ⟨v1, rfl, hr1, hb1⟩
  obtain ⟨a1, c1, rfl, _⟩ := RdS.form hr1
  have hB1 : B1 (w1.alloc (.cells #[.int .i64 0, .bool false, .slice a1 1 c1] 24)) w1.heap.size 0 false (.slice a1 1 c1) := heap_alloc_new _ _
  go_wp2_with fail
  have hbw1 : Below w.heap.size w (w1.alloc (.cells #[.int .i64 0, .bool false, .slice a1 1 c1] 24)) := hb1.alloc hb1.size _
  have hrw1 := RdK.keep hr1 ((Below.refl _ _).alloc (Nat.le_refl _) (.cells #[.int .i64 0, .bool false, .slice a1 1 c1] 24))
  have hN : w.heap.size ≤ w1.heap.size := hb1.size
  obtain ⟨N, hNe⟩ : ∃ N, N = w1.heap.size := ⟨_, rfl⟩
  rw [← hNe] at hB1 hN
  simp only [← hNe]
  generalize w1.alloc (.cells #[.int .i64 0, .bool false, .slice a1 1 c1] 24) = x1 at hB1 hbw1 hrw1 ⊢
  clear hr1 hb1 hNe
  refine (append_any 400 0 false _ [⟨1, 1, 0, 100, 0, 0, 0⟩] 0 40 _ hrw1 (by decide) (by unfold i64; omega) (by unfold i64; omega)).mono ?_
  rw [ex2]
  rintro e w2 ⟨v2, rfl, hr2, hb2⟩
  obtain ⟨a2, c2, rfl, _⟩ := RdS.form hr2
  have hBc2 := hB1.call hb2
  obtain ⟨ht0, ht1, ht2, hf0⟩ := hBc2.facts
  have hlt2 := hBc2.lt
  have hbc2 := hbw1.trans (hb2.mono hbw1.size)
  clear hB1 hrw1 hbw1 hb2
  simp only at hr2
  go_wp2_with fail
  have hB2 := hBc2.put 0 false (.slice a2 1 c2)
  have hrw2 := hBc2.rd hr2 0 false (.slice a2 1 c2)
  have hbw2 := hBc2.below hbc2 hN 0 false (.slice a2 1 c2)
  generalize ((w2.setCell ⟨N, 0, none⟩ (.int .i64 0)).setCell ⟨N, 1, none⟩ (.bool false)).setCell ⟨N, 2, none⟩ (.slice a2 1 c2) = x2 at hB2 hrw2 hbw2 ⊢
  clear ht0 ht1 ht2 hf0 hBc2 hbc2 hr2 hlt2
  refine (ctrack_any 400 0 false _ [⟨1, 1, 0, 100, 40, 1, 0⟩] 1 _ hrw2 (by decide)).mono ?_
  rw [ex3]
  rintro e w3 ⟨v3, rfl, hr3, hb3⟩
  obtain ⟨a3, c3, rfl, _⟩ := RdS.form hr3
  have hBc3 := hB2.call hb3
  obtain ⟨ht0, ht1, ht2, hf0⟩ := hBc3.facts
  have hlt3 := hBc3.lt
  have hbc3 := hbw2.trans (hb3.mono hbw2.size)
  clear hB2 hrw2 hbw2 hb3
  simp only at hr3
  go_wp2_with fail
  have hB3 := hBc3.put 0 false (.slice a3 1 c3)
  have hrw3 := hBc3.rd hr3 0 false (.slice a3 1 c3)
  have hbw3 := hBc3.below hbc3 hN 0 false (.slice a3 1 c3)
  generalize ((w3.setCell ⟨N, 0, none⟩ (.int .i64 0)).setCell ⟨N, 1, none⟩ (.bool false)).setCell ⟨N, 2, none⟩ (.slice a3 1 c3) = x3 at hB3 hrw3 hbw3 ⊢
  clear ht0 ht1 ht2 hf0 hBc3 hbc3 hr3 hlt3
  refine (csess_any 400 0 false _ [⟨1, 1, 0, 40, 40, 2, 0⟩] false _ hrw3 (by decide)).mono ?_
  rw [ex4]
  rintro e w4 ⟨v4, rfl, hr4, hb4⟩
  obtain ⟨a4, c4, rfl, _⟩ := RdS.form hr4
  have hBc4 := hB3.call hb4
  obtain ⟨ht0, ht1, ht2, hf0⟩ := hBc4.facts
  have hlt4 := hBc4.lt
  have hbc4 := hbw3.trans (hb4.mono hbw3.size)
  clear hB3 hrw3 hbw3 hb4
  simp only at hr4
  go_wp2_with fail
  have hB4 := hBc4.put 1 false (.slice a4 1 c4)
  have hrw4 := hBc4.rd hr4 1 false (.slice a4 1 c4)
  have hbw4 := hBc4.below hbc4 hN 1 false (.slice a4 1 c4)
  generalize ((w4.setCell ⟨N, 0, none⟩ (.int .i64 1)).setCell ⟨N, 1, none⟩ (.bool false)).setCell ⟨N, 2, none⟩ (.slice a4 1 c4) = x4 at hB4 hrw4 hbw4 ⊢
  clear ht0 ht1 ht2 hf0 hBc4 hbc4 hr4 hlt4
  refine (reserve_any 400 1 false _ [⟨1, 1, 0, 40, 40, 2, 0⟩] 10 0 _ hrw4 (by decide) (by unfold i64; omega)).mono ?_
  rw [ex5]
  rintro e w5 ⟨v5, rfl, hr5, hb5⟩
  obtain ⟨a5, c5, rfl, _⟩ := RdS.form hr5
  have hBc5 := hB4.call hb5
  obtain ⟨ht0, ht1, ht2, hf0⟩ := hBc5.facts
  have hlt5 := hBc5.lt
  have hbc5 := hbw4.trans (hb5.mono hbw4.size)
  clear hB4 hrw4 hbw4 hb5
  simp only at hr5
  simp only
  go_upto_region 14 with (fail)
  have hB5 := hBc5.put 1 false (.slice a5 2 c5)
  have hrw5 := hBc5.rd hr5 1 false (.slice a5 2 c5)
  have hbw5 := hBc5.below hbc5 hN 1 false (.slice a5 2 c5)
  generalize ((w5.setCell ⟨N, 0, none⟩ (.int .i64 1)).setCell ⟨N, 1, none⟩ (.bool false)).setCell ⟨N, 2, none⟩ (.slice a5 2 c5) = x5 at hB5 hrw5 hbw5 ⊢
  clear ht0 ht1 ht2 hf0 hBc5 hbc5 hr5 hlt5
  obtain ⟨ht0, ht1, ht2, hf0⟩ := hB5.facts
  obtain ⟨a', c', b, off, hv', hac', hcell⟩ := hrw5
  obtain ⟨rfl, rfl⟩ : a5 = a' ∧ c5 = c' := by injection hv' with h1 h2 h3; exact ⟨h1, h3⟩
  obtain ⟨ha, g0⟩ := hcell 0 (by simp)
  obtain ⟨_, g1⟩ := hcell 1 (by simp)
  obtain ⟨hc0, hc1, hc2, hc3, hc4, hc5, hc6⟩ := rd7 (x := ⟨1, 1, 0, 40, 40, 2, 0⟩) g0
  obtain ⟨hd0, hd1, hd2, hd3, hd4, hd5, hd6⟩ := rd7 (x := ⟨2, 2, 56, 10, 56, 0, 0⟩) g1
  have hix0 := fun w' => run_idxS Try.underlying22 Try.sizeTrack (cap := c5) ha (by omega : 0 < 2) (0 : Int) rfl w'
  have hix1 := fun w' => run_idxS Try.underlying22 Try.sizeTrack (cap := c5) ha (by omega : 1 < 2) (1 : Int) rfl w'
  simp only [Nat.zero_mul, Nat.one_mul, Nat.add_zero] at hix0 hix1 hc0 hc1 hc2 hc3 hc4 hc5 hc6 hd0 hd1 hd2 hd3 hd4 hd5 hd6
  clear g0 g1 hcell hv' ha
  go_wp2_with fail
  go_ret
  exact ⟨rfl, hbw5⟩
end Go.Proofs.Ytiioojlihapdaaa
