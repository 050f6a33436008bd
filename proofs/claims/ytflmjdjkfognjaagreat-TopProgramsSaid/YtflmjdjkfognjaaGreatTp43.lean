/- Shaken out of XTkOpen -/
import Derived.Test.YtflmjdjkfognjaaGreatTp08
import Derived.Test.YtflmjdjkfognjaaGreatTp40
namespace Go.Proofs.YtflmjdjkfognjaaGreat
open Go.ChangeShapes Go.WideShapes Go.RowKit Go.Deep Go.Joins
set_option linter.unusedVariables false
section
variable {H : Type} {enc : TypeId × Value → H} {w : World} {base b0 : Nat} {sp : Nat → Bool} {held : Bool}
def Wf (x : T.Trk) : Prop := In64 x.num ∧ In64 x.ses ∧ In64 x.st ∧ In64 x.len ∧ In64 x.nx ∧ In64 x.sta ∧ In64 x.pk
theorem Tryz.cellsT : Tryz.prog.cellsOf 28 = 7 := by kernel_rfl
theorem Tryz.cellsI : Tryz.prog.cellsOf 3 = 1 := by kernel_rfl
set_option maxRecDepth 100000 in
theorem trk_cells (n : Nat) (cs : List Value) (x : DataW H × List MemPlace) (h : DataW.trod enc Tryz.prog w base sp held n 28 cs = some x) : ∃ t : T.Trk, cs = tcs t ∧ Wf t := by
  obtain ⟨ys, n', _, _, hlen, hyl, hf⟩ := DataW.trod_struct Tryz.underlying28 h
  rw [Tryz.cellsT] at hlen
  match cs, hlen with
  | [c0, c1, c2, c3, c4, c5, c6], _ =>
    have g0 : DataW.trod enc Tryz.prog w base sp held n' 3 (([c0, c1, c2, c3, c4, c5, c6].drop 0).take (Tryz.prog.cellsOf 3)) = ys[0]? := hf 0 _ rfl
    have g1 : DataW.trod enc Tryz.prog w base sp held n' 3 (([c0, c1, c2, c3, c4, c5, c6].drop 1).take (Tryz.prog.cellsOf 3)) = ys[1]? := hf 1 _ rfl
    have g2 : DataW.trod enc Tryz.prog w base sp held n' 3 (([c0, c1, c2, c3, c4, c5, c6].drop 2).take (Tryz.prog.cellsOf 3)) = ys[2]? := hf 2 _ rfl
    have g3 : DataW.trod enc Tryz.prog w base sp held n' 3 (([c0, c1, c2, c3, c4, c5, c6].drop 3).take (Tryz.prog.cellsOf 3)) = ys[3]? := hf 3 _ rfl
    have g4 : DataW.trod enc Tryz.prog w base sp held n' 3 (([c0, c1, c2, c3, c4, c5, c6].drop 4).take (Tryz.prog.cellsOf 3)) = ys[4]? := hf 4 _ rfl
    have g5 : DataW.trod enc Tryz.prog w base sp held n' 3 (([c0, c1, c2, c3, c4, c5, c6].drop 5).take (Tryz.prog.cellsOf 3)) = ys[5]? := hf 5 _ rfl
    have g6 : DataW.trod enc Tryz.prog w base sp held n' 3 (([c0, c1, c2, c3, c4, c5, c6].drop 6).take (Tryz.prog.cellsOf 3)) = ys[6]? := hf 6 _ rfl
    rw [Tryz.cellsI] at g0 g1 g2 g3 g4 g5 g6
    simp only [List.drop, List.take] at g0 g1 g2 g3 g4 g5 g6
    obtain ⟨a0, e0, w0⟩ := leaf_int Tryz.underlying3 g0 (some_at hyl (by decide))
    obtain ⟨a1, e1, w1⟩ := leaf_int Tryz.underlying3 g1 (some_at hyl (by decide))
    obtain ⟨a2, e2, w2⟩ := leaf_int Tryz.underlying3 g2 (some_at hyl (by decide))
    obtain ⟨a3, e3, w3⟩ := leaf_int Tryz.underlying3 g3 (some_at hyl (by decide))
    obtain ⟨a4, e4, w4⟩ := leaf_int Tryz.underlying3 g4 (some_at hyl (by decide))
    obtain ⟨a5, e5, w5⟩ := leaf_int Tryz.underlying3 g5 (some_at hyl (by decide))
    obtain ⟨a6, e6, w6⟩ := leaf_int Tryz.underlying3 g6 (some_at hyl (by decide))
    simp only [List.cons.injEq, and_true] at e0 e1 e2 e3 e4 e5 e6
    subst e0 e1 e2 e3 e4 e5 e6
    exact ⟨⟨a0, a1, a2, a3, a4, a5, a6⟩, rfl, w0, w1, w2, w3, w4, w5, w6⟩
/-- a slice of tracks that came in -/
def CameK (w : World) (v : Value) (l : List T.Trk) : Prop := RdK w v l ∧ l.length ≤ 9223372036854775807 ∧ ∀ i, i < l.length → Wf (T.tr l i)
theorem open_tracks {n : Nat} {v : Value} {x : DataW H × List MemPlace} (hd : DataW.trod enc Tryz.prog w base sp held n 22 [v] = some x) : ∃ l, CameK w v l :=
  open_rdS T.z tcs Wf Tryz.underlying22 Tryz.cellsT (by omega) (fun n cs x h => trk_cells n cs x h) hd
set_option maxRecDepth 100000 in
/-- a table that came in -/
theorem open_toc {v : Value} {d : DataW H} {ps : List MemPlace} {r : Reach} (hval : Value.okWide Tryz.prog w r b0 24 v) (hd : DataW.Trod enc Tryz.prog w base sp held 24 v d ps) :
    ∃ (cl : Int) (fin : Bool) (sv : Value) (l : List T.Trk), v = tval cl fin sv ∧ In64 cl ∧ CameK w sv l := by
  obtain ⟨v0, v1, v2, y0, y1, y2, n, rfl, _, _, h0, h1, h2⟩ := open_agg3 Tryz.underlying24 (by kernel_rfl) (by kernel_rfl) hval hd
  obtain ⟨a, e0, w0⟩ := leaf_int Tryz.underlying3 h0 (by simp)
  obtain ⟨b, e1⟩ := leaf_bool Tryz.underlying4 h1 (by simp)
  obtain ⟨l, hl⟩ := open_tracks h2
  simp only [List.cons.injEq, and_true] at e0 e1
  subst e0 e1
  exact ⟨a, b, v2, l, rfl, w0, hl⟩
structure Tb where
  cl : Int
  fin : Bool
  sv : Value
  l : List T.Trk
def CameToc (w : World) (v : Value) (t : Tb) : Prop := v = tval t.cl t.fin t.sv ∧ In64 t.cl ∧ CameK w t.sv t.l
set_option maxRecDepth 100000 in
theorem open_ctoc {v : Value} {d : DataW H} {ps : List MemPlace} {r : Reach} (hval : Value.okWide Tryz.prog w r b0 24 v) (hd : DataW.Trod enc Tryz.prog w base sp held 24 v d ps) : ∃ t, CameToc w v t := by
  obtain ⟨cl, fin, sv, l, h⟩ := open_toc hval hd
  exact ⟨⟨cl, fin, sv, l⟩, h⟩
structure Ac where
  kind : Int
  a : Int
  b : Int
  fz : Bool
end
end Go.Proofs.YtflmjdjkfognjaaGreat
