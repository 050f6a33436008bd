/- Chapter 10: Program of the package walked. -/
import Derived.Test.YtiioojlihapdaaaQw
import Derived.Test.YtiioojlihapdaaaQi
namespace Go.Proofs.Ytiioojlihapdaaa.W10
open Go.RowKit
set_option linter.unusedVariables false

def fcs (f : Q.Fr) : List Value := [.int .i64 f.ctl, .int .i64 f.trk, .int .i64 f.pt, .int .i64 f.rm, .int .i64 f.rs, .int .i64 f.rf, .int .i64 f.am, .int .i64 f.as, .int .i64 f.af]
abbrev fagg (f : Q.Fr) : Value := .agg #[.int .i64 f.ctl, .int .i64 f.trk, .int .i64 f.pt, .int .i64 f.rm, .int .i64 f.rs, .int .i64 f.rf, .int .i64 f.am, .int .i64 f.as, .int .i64 f.af]
abbrev fobj (f : Q.Fr) : Obj := .cells #[.int .i64 f.ctl, .int .i64 f.trk, .int .i64 f.pt, .int .i64 f.rm, .int .i64 f.rs, .int .i64 f.rf, .int .i64 f.am, .int .i64 f.as, .int .i64 f.af] 80
/-- a frame and a code are returned -/
def FP (r : Q.Fr × Int) (w : World) (e : Ending) (w' : World) : Prop := e = .returned (.tuple #[fagg r.1, .int .i64 r.2]) ∧ Below w.heap.size w w'
/-- the boxes of Program: the block, the result -/
abbrev pbox (w : World) (lba : Int) : World := (w.alloc (.cells #[.int .i64 lba] 3)).alloc (.cells #[.int .i64 0, .int .i64 0, .int .i64 0, .int .i64 0, .int .i64 0, .int .i64 0, .int .i64 0, .int .i64 0, .int .i64 0] 80)
structure PB (w0 : World) (lba : Int) (W : World) : Prop where
  b : Bx W w0.heap.size 3 [.int .i64 lba]
  r : Bx W (w0.heap.size + 1) 80 (fcs Q.z)
  le : Below w0.heap.size w0 W
theorem PB.new (w : World) (lba : Int) : PB w lba (pbox w lba) :=
  ⟨heap_alloc2_old _ _ _, heap_alloc2_new _ _ _, ((Below.refl _ _).alloc (Nat.le_refl _) _).alloc (by simp) _⟩
theorem PB.call {w0 W W' : World} {lba : Int} (h : PB w0 lba W) (hb : Below W.heap.size W W') : PB w0 lba W' := ⟨h.b.call hb, h.r.call hb, h.le.trans (hb.mono h.le.size)⟩
theorem PB.rd {w0 W : World} {lba : Int} (h : PB w0 lba W) {v : Value} {l : List T.Trk} (hr : RdK w0 v l) : RdK W v l := hr.keep h.le

/-- a frame is stored into a box -/
abbrev put9 (W : World) (g : Nat) (f : Q.Fr) : World :=
  ((((((((W.setCell ⟨g, 0, none⟩ (.int .i64 f.ctl)).setCell ⟨g, 1, none⟩ (.int .i64 f.trk)).setCell ⟨g, 2, none⟩ (.int .i64 f.pt)).setCell ⟨g, 3, none⟩ (.int .i64 f.rm)).setCell ⟨g, 4, none⟩ (.int .i64 f.rs)).setCell ⟨g, 5, none⟩ (.int .i64 f.rf)).setCell ⟨g, 6, none⟩ (.int .i64 f.am)).setCell
    ⟨g, 7, none⟩ (.int .i64 f.as)).setCell ⟨g, 8, none⟩ (.int .i64 f.af)
theorem put9_box {W : World} {g : Nat} {t : TypeId} {f0 : Q.Fr} (h : Bx W g t (fcs f0)) (f : Q.Fr) : Bx (put9 W g f) g t (fcs f) :=
  ((((((((h.set 0 (.int .i64 f.ctl)).set 1 (.int .i64 f.trk)).set 2 (.int .i64 f.pt)).set 3 (.int .i64 f.rm)).set 4 (.int .i64 f.rs)).set 5 (.int .i64 f.rf)).set 6 (.int .i64 f.am)).set 7 (.int .i64 f.as)).set 8 (.int .i64 f.af)
theorem put9_below {B : Nat} {w W : World} (h : Below B w W) {g : Nat} (hg : B ≤ g) (f : Q.Fr) : Below B w (put9 W g f) :=
  ((((((((h.setCell hg _).setCell hg _).setCell hg _).setCell hg _).setCell hg _).setCell hg _).setCell hg _).setCell hg _).setCell hg _
/-- the cells of a boxed frame -/
theorem fcs_cells {W : World} {g : Nat} {t : TypeId} {f : Q.Fr} (h : Bx W g t (fcs f)) : W.cell? ⟨g, 0, none⟩ = some (.int .i64 f.ctl) ∧ W.cell? ⟨g, 1, none⟩ = some (.int .i64 f.trk) ∧ W.cell? ⟨g, 2, none⟩ = some (.int .i64 f.pt) ∧ W.cell? ⟨g, 3, none⟩ = some (.int .i64 f.rm) ∧
    W.cell? ⟨g, 4, none⟩ = some (.int .i64 f.rs) ∧ W.cell? ⟨g, 5, none⟩ = some (.int .i64 f.rf) ∧ W.cell? ⟨g, 6, none⟩ = some (.int .i64 f.am) ∧ W.cell? ⟨g, 7, none⟩ = some (.int .i64 f.as) ∧ W.cell? ⟨g, 8, none⟩ = some (.int .i64 f.af) :=
  ⟨h.cell (i := 0) rfl, h.cell (i := 1) rfl, h.cell (i := 2) rfl, h.cell (i := 3) rfl, h.cell (i := 4) rfl, h.cell (i := 5) rfl, h.cell (i := 6) rfl, h.cell (i := 7) rfl, h.cell (i := 8) rfl⟩
theorem firstP_spec {l : List T.Trk} {lba : Int} {n i : Nat} (h : Q.firstP l lba n = some i) : i < n ∧ lba < Q.en l i ∧ ∀ j, j < i → ¬ lba < Q.en l j := by
  unfold Q.firstP at h
  rw [List.find?_range_eq_some] at h
  obtain ⟨h1, h2, h3⟩ := h
  exact ⟨by simpa using h2, by simpa using h1, fun j hj => by simpa using h3 j hj⟩
theorem firstP_spec' {l : List T.Trk} {lba : Int} {n : Nat} (h : Q.firstP l lba n = none) : ∀ j, j < n → ¬ lba < Q.en l j := by
  unfold Q.firstP at h
  rw [List.find?_range_eq_none] at h
  exact fun j hj => by simpa using h j hj
end Go.Proofs.Ytiioojlihapdaaa.W10
