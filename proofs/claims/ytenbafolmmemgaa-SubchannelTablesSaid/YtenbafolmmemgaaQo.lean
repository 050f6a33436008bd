/- Tracks that came in: opened (chapter 10). -/
import Derived.Test.YtenbafolmmemgaaQd
namespace Go.Proofs.Ytenbafolmmemgaa
open Go.ChangeShapes Go.WideShapes Go.RowKit Go.Deep Go.Joins W10
set_option linter.unusedVariables false

section
variable {H : Type} {enc : TypeId × Value → H} {w : World} {base b0 : Nat} {sp : Nat → Bool} {held : Bool}
theorem Try.cellsT : Try.prog.cellsOf 53 = 7 := by kernel_rfl
theorem Try.cellsI : Try.prog.cellsOf 3 = 1 := by kernel_rfl
set_option maxRecDepth 100000 in
theorem trk_cells (n : Nat) (cs : List Value) (x : DataW H × List MemPlace) (h : DataW.trod enc Try.prog w base sp held n 53 cs = some x) : ∃ t : T.Trk, cs = tcs t ∧ WfT t := by
  obtain ⟨ys, n', _, _, hlen, hyl, hf⟩ := DataW.trod_struct Try.underlying53 h
  rw [Try.cellsT] at hlen
  match cs, hlen with
  | [c0, c1, c2, c3, c4, c5, c6], _ =>
    have g0 : DataW.trod enc Try.prog w base sp held n' 3 (([c0, c1, c2, c3, c4, c5, c6].drop 0).take (Try.prog.cellsOf 3)) = ys[0]? := hf 0 _ rfl
    have g1 : DataW.trod enc Try.prog w base sp held n' 3 (([c0, c1, c2, c3, c4, c5, c6].drop 1).take (Try.prog.cellsOf 3)) = ys[1]? := hf 1 _ rfl
    have g2 : DataW.trod enc Try.prog w base sp held n' 3 (([c0, c1, c2, c3, c4, c5, c6].drop 2).take (Try.prog.cellsOf 3)) = ys[2]? := hf 2 _ rfl
    have g3 : DataW.trod enc Try.prog w base sp held n' 3 (([c0, c1, c2, c3, c4, c5, c6].drop 3).take (Try.prog.cellsOf 3)) = ys[3]? := hf 3 _ rfl
    have g4 : DataW.trod enc Try.prog w base sp held n' 3 (([c0, c1, c2, c3, c4, c5, c6].drop 4).take (Try.prog.cellsOf 3)) = ys[4]? := hf 4 _ rfl
    have g5 : DataW.trod enc Try.prog w base sp held n' 3 (([c0, c1, c2, c3, c4, c5, c6].drop 5).take (Try.prog.cellsOf 3)) = ys[5]? := hf 5 _ rfl
    have g6 : DataW.trod enc Try.prog w base sp held n' 3 (([c0, c1, c2, c3, c4, c5, c6].drop 6).take (Try.prog.cellsOf 3)) = ys[6]? := hf 6 _ rfl
    rw [Try.cellsI] at g0 g1 g2 g3 g4 g5 g6
    simp only [List.drop, List.take] at g0 g1 g2 g3 g4 g5 g6
    obtain ⟨a0, e0, w0⟩ := leaf_int Try.underlying3 g0 (some_at hyl (by decide))
    obtain ⟨a1, e1, w1⟩ := leaf_int Try.underlying3 g1 (some_at hyl (by decide))
    obtain ⟨a2, e2, w2⟩ := leaf_int Try.underlying3 g2 (some_at hyl (by decide))
    obtain ⟨a3, e3, w3⟩ := leaf_int Try.underlying3 g3 (some_at hyl (by decide))
    obtain ⟨a4, e4, w4⟩ := leaf_int Try.underlying3 g4 (some_at hyl (by decide))
    obtain ⟨a5, e5, w5⟩ := leaf_int Try.underlying3 g5 (some_at hyl (by decide))
    obtain ⟨a6, e6, w6⟩ := leaf_int Try.underlying3 g6 (some_at hyl (by decide))
    simp only [List.cons.injEq, and_true] at e0 e1 e2 e3 e4 e5 e6
    subst e0 e1 e2 e3 e4 e5 e6
    exact ⟨⟨a0, a1, a2, a3, a4, a5, a6⟩, rfl, w0, w1, w2, w3, w4, w5, w6⟩

/-- a slice of tracks that came in -/
def CameK (w : World) (v : Value) (l : List T.Trk) : Prop := RdK w v l ∧ l.length ≤ 9223372036854775807 ∧ WfL l
theorem open_ctracks {v : Value} {d : DataW H} {ps : List MemPlace} {r : Reach} (hval : Value.okWide Try.prog w r b0 22 v) (hd : DataW.Trod enc Try.prog w base sp held 22 v d ps) : ∃ l, CameK w v l := by
  obtain ⟨a, len, cap, rfl⟩ := okWide_slice Try.underlying22 hval
  obtain ⟨fuel, hf⟩ := hd
  obtain ⟨l, h1, h2, h3⟩ := open_rdS T.z tcs WfT Try.underlying22 Try.cellsT (by omega) (fun n cs x h => trk_cells n cs x h) (by simpa [Value.cells] using hf)
  exact ⟨l, h1, h2, h3⟩
end
end Go.Proofs.Ytenbafolmmemgaa
