/- Frames that came in: opened (chapter 10). -/
import Derived.Test.YtenbafolmmemgaaQo
import Derived.Test.YtenbafolmmemgaaQs
namespace Go.Proofs.Ytenbafolmmemgaa
open Go.ChangeShapes Go.WideShapes Go.RowKit Go.Deep Go.Joins W10
set_option linter.unusedVariables false

section
variable {H : Type} {enc : TypeId × Value → H} {w : World} {base b0 : Nat} {sp : Nat → Bool} {held : Bool}
theorem Try.cellsF : Try.prog.cellsOf 27 = 9 := by kernel_rfl
theorem Try.cellsM : Try.prog.cellsOf 25 = 3 := by kernel_rfl
def WfF (q : Q.Fr) : Prop := In64 q.ctl ∧ In64 q.trk ∧ In64 q.pt ∧ In64 q.rm ∧ In64 q.rs ∧ In64 q.rf ∧ In64 q.am ∧ In64 q.as ∧ In64 q.af
set_option maxRecDepth 100000 in
theorem msf_cells (n : Nat) (cs : List Value) (x : DataW H × List MemPlace) (h : DataW.trod enc Try.prog w base sp held n 25 cs = some x) : ∃ m s f : Int, cs = [.int .i64 m, .int .i64 s, .int .i64 f] ∧ In64 m ∧ In64 s ∧ In64 f := by
  obtain ⟨ys, n', _, _, hlen, hyl, hf⟩ := DataW.trod_struct Try.underlying25 h
  rw [Try.cellsM] at hlen
  match cs, hlen with
  | [c0, c1, c2], _ =>
    have g0 : DataW.trod enc Try.prog w base sp held n' 3 (([c0, c1, c2].drop 0).take (Try.prog.cellsOf 3)) = ys[0]? := hf 0 _ rfl
    have g1 : DataW.trod enc Try.prog w base sp held n' 3 (([c0, c1, c2].drop 1).take (Try.prog.cellsOf 3)) = ys[1]? := hf 1 _ rfl
    have g2 : DataW.trod enc Try.prog w base sp held n' 3 (([c0, c1, c2].drop 2).take (Try.prog.cellsOf 3)) = ys[2]? := hf 2 _ rfl
    rw [Try.cellsI] at g0 g1 g2
    simp only [List.drop, List.take] at g0 g1 g2
    obtain ⟨a0, e0, w0⟩ := leaf_int Try.underlying3 g0 (some_at hyl (by decide))
    obtain ⟨a1, e1, w1⟩ := leaf_int Try.underlying3 g1 (some_at hyl (by decide))
    obtain ⟨a2, e2, w2⟩ := leaf_int Try.underlying3 g2 (some_at hyl (by decide))
    simp only [List.cons.injEq, and_true] at e0 e1 e2
    subst e0 e1 e2
    exact ⟨a0, a1, a2, rfl, w0, w1, w2⟩
theorem some_val {α : Type} {l : List α} {n i : Nat} {y : Option α} (h : y = l[i]?) (hl : l.length = n) (hi : i < n) : ∃ x, y = some x := by
  rw [h]; exact ⟨_, List.getElem?_eq_getElem (by omega)⟩
set_option maxRecDepth 100000 in
theorem fr_cells (n : Nat) (cs : List Value) (x : DataW H × List MemPlace) (h : DataW.trod enc Try.prog w base sp held n 27 cs = some x) : ∃ q : Q.Fr, cs = fcs q ∧ WfF q := by
  obtain ⟨ys, n', _, _, hlen, hyl, hf⟩ := DataW.trod_struct Try.underlying27 h
  rw [Try.cellsF] at hlen
  match cs, hlen with
  | [c0, c1, c2, c3, c4, c5, c6, c7, c8], _ =>
    have g0 : DataW.trod enc Try.prog w base sp held n' 3 (([c0, c1, c2, c3, c4, c5, c6, c7, c8].drop 0).take (Try.prog.cellsOf 3)) = ys[0]? := hf 0 _ rfl
    have g1 : DataW.trod enc Try.prog w base sp held n' 3 (([c0, c1, c2, c3, c4, c5, c6, c7, c8].drop 1).take (Try.prog.cellsOf 3)) = ys[1]? := hf 1 _ rfl
    have g2 : DataW.trod enc Try.prog w base sp held n' 3 (([c0, c1, c2, c3, c4, c5, c6, c7, c8].drop 2).take (Try.prog.cellsOf 3)) = ys[2]? := hf 2 _ rfl
    have g3 : DataW.trod enc Try.prog w base sp held n' 25 (([c0, c1, c2, c3, c4, c5, c6, c7, c8].drop 3).take (Try.prog.cellsOf 25)) = ys[3]? := hf 3 _ rfl
    have g4 : DataW.trod enc Try.prog w base sp held n' 25 (([c0, c1, c2, c3, c4, c5, c6, c7, c8].drop 6).take (Try.prog.cellsOf 25)) = ys[4]? := hf 4 _ rfl
    rw [Try.cellsI] at g0 g1 g2
    rw [Try.cellsM] at g3 g4
    simp only [List.drop, List.take] at g0 g1 g2 g3 g4
    obtain ⟨a0, e0, w0⟩ := leaf_int Try.underlying3 g0 (some_at hyl (by decide))
    obtain ⟨a1, e1, w1⟩ := leaf_int Try.underlying3 g1 (some_at hyl (by decide))
    obtain ⟨a2, e2, w2⟩ := leaf_int Try.underlying3 g2 (some_at hyl (by decide))
    obtain ⟨x3, h3⟩ := some_val g3 hyl (by decide)
    obtain ⟨x4, h4⟩ := some_val g4 hyl (by decide)
    obtain ⟨m, s, f, e3, w3⟩ := msf_cells _ _ _ h3
    obtain ⟨m', s', f', e4, w4⟩ := msf_cells _ _ _ h4
    simp only [List.cons.injEq, and_true] at e0 e1 e2 e3 e4
    obtain ⟨rfl, rfl, rfl⟩ := e3
    obtain ⟨rfl, rfl, rfl⟩ := e4
    subst e0 e1 e2
    exact ⟨⟨a0, a1, a2, m, s, f, m', s', f'⟩, rfl, w0, w1, w2, w3.1, w3.2.1, w3.2.2, w4.1, w4.2.1, w4.2.2⟩
/-- a frame that came in -/
def CameF (w : World) (v : Value) (q : Q.Fr) : Prop := v = fagg q
theorem open_cframe {v : Value} {d : DataW H} {ps : List MemPlace} {r : Reach} (hval : Value.okWide Try.prog w r b0 27 v) (hd : DataW.Trod enc Try.prog w base sp held 27 v d ps) : ∃ q, CameF w v q := by
  obtain ⟨cs, rfl, hsz⟩ := okWide_struct Try.underlying27 hval
  obtain ⟨fuel, hf⟩ := hd
  obtain ⟨q, h1, h2⟩ := fr_cells _ _ _ hf
  refine ⟨q, ?_⟩
  show Value.agg cs = .agg (fcs q).toArray
  congr 1
  rw [← h1]
  simp [Value.cells]
/-- a slice of frames that came in -/
def CameFs (w : World) (v : Value) (l : List Q.Fr) : Prop := RdF w v l ∧ l.length ≤ 9223372036854775807 ∧ ∀ i, i < l.length → WfF (fr l i)
theorem open_cframes {v : Value} {d : DataW H} {ps : List MemPlace} {r : Reach} (hval : Value.okWide Try.prog w r b0 31 v) (hd : DataW.Trod enc Try.prog w base sp held 31 v d ps) : ∃ l, CameFs w v l := by
  obtain ⟨a, len, cap, rfl⟩ := okWide_slice Try.underlying31 hval
  obtain ⟨fuel, hf⟩ := hd
  obtain ⟨l, h1, h2, h3⟩ := open_rdS Q.z fcs WfF Try.underlying31 Try.cellsF (by omega) (fun n cs x h => fr_cells n cs x h) (by simpa [Value.cells] using hf)
  exact ⟨l, h1, h2, h3⟩
end
end Go.Proofs.Ytenbafolmmemgaa
