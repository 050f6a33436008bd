/- Chapter 12: damage and calls that came in: opened. -/
import Derived.Test.YtpncjadhpnapnaaMq02
import Derived.Test.YtpncjadhpnapnaaMq04
namespace Go.Proofs.Ytpncjadhpnapnaa.D12
open Go.ChangeShapes Go.WideShapes Go.RowKit Go.Deep Go.Joins C9
open D13 (RdI ixI)
set_option linter.unusedVariables false

/-- a slice of ints that came in -/
def CameI1 (w : World) (v : Value) (l : List Int) : Prop := RdS w 1 v l.length (fun i => [.int .i64 (ixI l i)]) ∧ l.length ≤ 9223372036854775807 ∧ ∀ i, i < l.length → In64 (ixI l i)
theorem CameI1.rd {w : World} {v : Value} {l : List Int} (h : CameI1 w v l) (hl : l.length ≤ 17592186044416) : RdI w v l := by
  obtain ⟨⟨a, c, b, off, hv, hc, hcell⟩, _, hw⟩ := h
  refine ⟨hl, ⟨a, c, b, off, hv, hc, fun i hi => ⟨(hcell i hi).1, ?_⟩⟩, hw⟩
  have := (hcell i hi).2 0 _ rfl
  rwa [Nat.mul_one, Nat.add_zero] at this
theorem CameI1.keep {w w' : World} {v : Value} {l : List Int} (h : CameI1 w v l) (hb : Below w.heap.size w w') : CameI1 w' v l := ⟨h.1.keep hb, h.2⟩
/-- a slice of changes that came in -/
def CameCh (w : World) (v : Value) (l : List (Int × Int)) : Prop := RdCh w v l ∧ l.length ≤ 9223372036854775807 ∧ ∀ i, i < l.length → In64 (chA l i).1 ∧ In64 (chA l i).2
theorem CameCh.keep {w w' : World} {v : Value} {l : List (Int × Int)} (h : CameCh w v l) (hb : Below w.heap.size w w') : CameCh w' v l := ⟨RdD.keep h.1 hb, h.2⟩
/-- damage that came in -/
structure CameD (w : World) (vE vC : Value) (d : Dam) : Prop where
  er : CameI1 w vE d.er
  ch : CameCh w vC d.ch
  lba : In64 d.lba
theorem CameD.keep {w w' : World} {vE vC : Value} {d : Dam} (h : CameD w vE vC d) (hb : Below w.heap.size w w') : CameD w' vE vC d := ⟨h.er.keep hb, h.ch.keep hb, h.lba⟩
theorem CameD.dam {w : World} {vE vC : Value} {d : Dam} (h : CameD w vE vC d) (h1 : d.er.length ≤ 200) (h2 : d.ch.length ≤ 200) : DamV w vE vC d := ⟨h.er.rd (by omega), h.ch.1, h.lba, by omega, h.ch.2.2⟩
structure DV where
  d : Dam
  vE : Value
  vC : Value
def CameDV (w : World) (v : Value) (x : DV) : Prop := v = damv x.vE x.vC x.d ∧ CameD w x.vE x.vC x.d
/-- a call that came in, and its slices -/
structure AV where
  a : AC
  vs : Value
  vE : Value
  vC : Value
def avz : AV := ⟨⟨0, 0, 0, false, [], ⟨0, [], []⟩⟩, .slice none 0 0, .slice none 0 0, .slice none 0 0⟩
def avD (x : AV) : List Value := [.int .i64 x.a.kind, .int .i64 x.a.at_, .int .i64 x.a.byte, .bool x.a.short, x.vs, .int .i64 x.a.dam.lba, x.vE, x.vC]
theorem avD_len (x : AV) : (avD x).length = 8 := rfl
structure CameAV (w : World) (x : AV) : Prop where
  k : In64 x.a.kind
  a : In64 x.a.at_
  b : In64 x.a.byte
  s : CameSc w x.vs x.a.scr
  d : CameD w x.vE x.vC x.a.dam
theorem CameAV.keep {w w' : World} {x : AV} (h : CameAV w x) (hb : Below w.heap.size w w') : CameAV w' x := ⟨h.k, h.a, h.b, h.s.keep hb, h.d.keep hb⟩
/-- calls that came in -/
def CameActs (w : World) (v : Value) (l : List AV) : Prop := RdD avz avD 8 w v l ∧ l.length ≤ 9223372036854775807 ∧ ∀ i, i < l.length → CameAV w (atD avz l i)
theorem CameActs.keep {w w' : World} {v : Value} {l : List AV} (h : CameActs w v l) (hb : Below w.heap.size w w') : CameActs w' v l := ⟨RdD.keep h.1 hb, h.2.1, fun i hi => (h.2.2 i hi).keep hb⟩
section
variable {H : Type} {enc : TypeId × Value → H} {w : World} {base b0 : Nat} {sp : Nat → Bool} {held : Bool}
theorem Try.cells12i : Try.prog.cellsOf 3 = 1 := by kernel_rfl
theorem Try.cells12b : Try.prog.cellsOf 4 = 1 := by kernel_rfl
theorem Try.cells12s : Try.prog.cellsOf 22 = 1 := by kernel_rfl
theorem Try.cells12n : Try.prog.cellsOf 30 = 1 := by kernel_rfl
theorem Try.cells12h : Try.prog.cellsOf 42 = 1 := by kernel_rfl
theorem Try.cells12c : Try.prog.cellsOf 105 = 2 := by kernel_rfl
theorem Try.cells12d : Try.prog.cellsOf 44 = 3 := by kernel_rfl
theorem Try.cells12a : Try.prog.cellsOf 46 = 8 := by kernel_rfl
set_option maxRecDepth 100000 in
theorem chg_cells (n : Nat) (cs : List Value) (x : DataW H × List MemPlace) (h : DataW.trod enc Try.prog w base sp held n 105 cs = some x) : ∃ t : Int × Int, cs = chc t ∧ In64 t.1 ∧ In64 t.2 := by
  obtain ⟨ys, n', _, _, hlen, hyl, hf⟩ := DataW.trod_struct Try.underlying105 h
  rw [Try.cells12c] at hlen
  match cs, hlen with
  | [c0, c1], _ =>
    have g0 : DataW.trod enc Try.prog w base sp held n' 3 (([c0, c1].drop 0).take (Try.prog.cellsOf 3)) = ys[0]? := hf 0 _ rfl
    have g1 : DataW.trod enc Try.prog w base sp held n' 3 (([c0, c1].drop 1).take (Try.prog.cellsOf 3)) = ys[1]? := hf 1 _ rfl
    rw [Try.cells12i] at g0 g1
    simp only [List.drop, List.take] at g0 g1
    obtain ⟨a0, e0, w0⟩ := leaf_int Try.underlying3 g0 (some_at hyl (by decide))
    obtain ⟨a1, e1, w1⟩ := leaf_int Try.underlying3 g1 (some_at hyl (by decide))
    simp only [List.cons.injEq, and_true] at e0 e1
    subst e0 e1
    exact ⟨(a0, a1), rfl, w0, w1⟩
theorem leafI {n : Nat} {v : Value} {x : DataW H × List MemPlace} (hd : DataW.trod enc Try.prog w base sp held n 30 [v] = some x) : ∃ l, CameI1 w v l := by
  obtain ⟨l, h1, h2, h3⟩ := open_rdS (0 : Int) (fun x => [.int .i64 x]) In64 Try.underlying30 Try.cells12i (by omega) (fun n cs x h => leaf_int Try.underlying3 h (by simp)) hd
  have e : ∀ i, (l[i]?).getD 0 = ixI l i := fun i => by unfold ixI; rw [List.getD_eq_getElem?_getD]
  simp only [e] at h1 h3
  exact ⟨l, h1, h2, h3⟩
theorem leafCh {n : Nat} {v : Value} {x : DataW H × List MemPlace} (hd : DataW.trod enc Try.prog w base sp held n 42 [v] = some x) : ∃ l, CameCh w v l := by
  obtain ⟨l, h1, h2, h3⟩ := open_rdS ((0, 0) : Int × Int) chc (fun t => In64 t.1 ∧ In64 t.2) Try.underlying42 Try.cells12c (by omega) (fun n cs x h => chg_cells n cs x h) hd
  exact ⟨l, h1, h2, h3⟩
theorem leafSc {n : Nat} {v : Value} {x : DataW H × List MemPlace} (hd : DataW.trod enc Try.prog w base sp held n 22 [v] = some x) : ∃ l, CameSc w v l := by
  obtain ⟨l, h1, h2, h3⟩ := open_rdS scz scc Wf Try.underlying22 Try.cellsSc (by omega) (fun n cs x h => scr_cells n cs x h) hd
  exact ⟨l, h1, h3, h2⟩
theorem some_of {α : Type} {x : Option α} (h : x ≠ none) : ∃ y, x = some y := by cases x with
  | none => exact absurd rfl h
  | some y => exact ⟨y, rfl⟩
set_option maxRecDepth 100000 in
theorem dam_cells (n : Nat) (cs : List Value) (x : DataW H × List MemPlace) (h : DataW.trod enc Try.prog w base sp held n 44 cs = some x) : ∃ t : DV, cs = [.int .i64 t.d.lba, t.vE, t.vC] ∧ CameD w t.vE t.vC t.d := by
  obtain ⟨ys, n', _, _, hlen, hyl, hf⟩ := DataW.trod_struct Try.underlying44 h
  rw [Try.cells12d] at hlen
  match cs, hlen with
  | [c0, c1, c2], _ =>
    have g0 : DataW.trod enc Try.prog w base sp held n' 3 (([c0, c1, c2].drop 0).take (Try.prog.cellsOf 3)) = ys[0]? := hf 0 _ rfl
    have g1 : DataW.trod enc Try.prog w base sp held n' 30 (([c0, c1, c2].drop 1).take (Try.prog.cellsOf 30)) = ys[1]? := hf 1 _ rfl
    have g2 : DataW.trod enc Try.prog w base sp held n' 42 (([c0, c1, c2].drop 2).take (Try.prog.cellsOf 42)) = ys[2]? := hf 2 _ rfl
    rw [Try.cells12i] at g0
    rw [Try.cells12n] at g1
    rw [Try.cells12h] at g2
    simp only [List.drop, List.take] at g0 g1 g2
    obtain ⟨a0, e0, w0⟩ := leaf_int Try.underlying3 g0 (some_at hyl (by decide))
    obtain ⟨y1, hy1⟩ := some_of (some_at hyl (i := 1) (by decide))
    obtain ⟨y2, hy2⟩ := some_of (some_at hyl (i := 2) (by decide))
    rw [hy1] at g1
    rw [hy2] at g2
    obtain ⟨l1, w1⟩ := leafI g1
    obtain ⟨l2, w2⟩ := leafCh g2
    simp only [List.cons.injEq, and_true] at e0
    subst e0
    exact ⟨⟨⟨a0, l1, l2⟩, c1, c2⟩, rfl, w1, w2, w0⟩
set_option maxRecDepth 100000 in
theorem open_cdam {v : Value} {d : DataW H} {ps : List MemPlace} {r : Reach} (hval : Value.okWide Try.prog w r b0 44 v) (hd : DataW.Trod enc Try.prog w base sp held 44 v d ps) : ∃ t, CameDV w v t := by
  obtain ⟨v0, v1, v2, y0, y1, y2, n, rfl, _, _, h0, h1, h2⟩ := open_agg3 Try.underlying44 (by kernel_rfl) (by kernel_rfl) hval hd
  obtain ⟨a, e0, w0⟩ := leaf_int Try.underlying3 h0 (by simp)
  obtain ⟨l1, w1⟩ := leafI h1
  obtain ⟨l2, w2⟩ := leafCh h2
  simp only [List.cons.injEq, and_true] at e0
  subst e0
  exact ⟨⟨⟨a, l1, l2⟩, v1, v2⟩, rfl, w1, w2, w0⟩
set_option maxRecDepth 100000 in
theorem act_cells (n : Nat) (cs : List Value) (x : DataW H × List MemPlace) (h : DataW.trod enc Try.prog w base sp held n 46 cs = some x) : ∃ t : AV, cs = avD t ∧ CameAV w t := by
  obtain ⟨ys, n', _, _, hlen, hyl, hf⟩ := DataW.trod_struct Try.underlying46 h
  rw [Try.cells12a] at hlen
  match cs, hlen with
  | [c0, c1, c2, c3, c4, c5, c6, c7], _ =>
    have g0 : DataW.trod enc Try.prog w base sp held n' 3 (([c0, c1, c2, c3, c4, c5, c6, c7].drop 0).take (Try.prog.cellsOf 3)) = ys[0]? := hf 0 _ rfl
    have g1 : DataW.trod enc Try.prog w base sp held n' 3 (([c0, c1, c2, c3, c4, c5, c6, c7].drop 1).take (Try.prog.cellsOf 3)) = ys[1]? := hf 1 _ rfl
    have g2 : DataW.trod enc Try.prog w base sp held n' 3 (([c0, c1, c2, c3, c4, c5, c6, c7].drop 2).take (Try.prog.cellsOf 3)) = ys[2]? := hf 2 _ rfl
    have g3 : DataW.trod enc Try.prog w base sp held n' 4 (([c0, c1, c2, c3, c4, c5, c6, c7].drop 3).take (Try.prog.cellsOf 4)) = ys[3]? := hf 3 _ rfl
    have g4 : DataW.trod enc Try.prog w base sp held n' 22 (([c0, c1, c2, c3, c4, c5, c6, c7].drop 4).take (Try.prog.cellsOf 22)) = ys[4]? := hf 4 _ rfl
    have g5 : DataW.trod enc Try.prog w base sp held n' 44 (([c0, c1, c2, c3, c4, c5, c6, c7].drop 5).take (Try.prog.cellsOf 44)) = ys[5]? := hf 5 _ rfl
    rw [Try.cells12i] at g0 g1 g2
    rw [Try.cells12b] at g3
    rw [Try.cells12s] at g4
    rw [Try.cells12d] at g5
    simp only [List.drop, List.take] at g0 g1 g2 g3 g4 g5
    obtain ⟨a0, e0, w0⟩ := leaf_int Try.underlying3 g0 (some_at hyl (by decide))
    obtain ⟨a1, e1, w1⟩ := leaf_int Try.underlying3 g1 (some_at hyl (by decide))
    obtain ⟨a2, e2, w2⟩ := leaf_int Try.underlying3 g2 (some_at hyl (by decide))
    obtain ⟨a3, e3⟩ := leaf_bool Try.underlying4 g3 (some_at hyl (by decide))
    obtain ⟨y4, hy4⟩ := some_of (some_at hyl (i := 4) (by decide))
    obtain ⟨y5, hy5⟩ := some_of (some_at hyl (i := 5) (by decide))
    rw [hy4] at g4
    rw [hy5] at g5
    obtain ⟨l4, w4⟩ := leafSc g4
    obtain ⟨⟨d5, vE, vC⟩, e5, w5⟩ := dam_cells _ _ _ g5
    simp only [List.cons.injEq, and_true] at e0 e1 e2 e3 e5
    obtain ⟨e5, e6, e7⟩ := e5
    subst e0 e1 e2 e3 e5 e6 e7
    exact ⟨⟨⟨a0, a1, a2, a3, l4, d5⟩, c4, c6, c7⟩, rfl, w0, w1, w2, w4, w5⟩
set_option maxRecDepth 100000 in
theorem open_cacts {v : Value} {d : DataW H} {ps : List MemPlace} {r : Reach} (hval : Value.okWide Try.prog w r b0 54 v) (hd : DataW.Trod enc Try.prog w base sp held 54 v d ps) : ∃ l, CameActs w v l := by
  obtain ⟨a, len, cap, rfl⟩ := okWide_slice Try.underlying54 hval
  obtain ⟨fuel, hf⟩ := hd
  obtain ⟨l, h1, h2, h3⟩ := open_rdS avz avD (CameAV w) Try.underlying54 Try.cells12a (by omega) (fun n cs x h => act_cells n cs x h) (by simpa [Value.cells] using hf)
  exact ⟨l, h1, h2, h3⟩
end
end Go.Proofs.Ytpncjadhpnapnaa.D12
