/- A block that is known whole. No program is named here. -/
import Derived.Test.YtpncjadhpnapnaaSt
namespace Go.Proofs.Ytpncjadhpnapnaa
open Go.RowKit
set_option linter.unusedVariables false

/-- the block 'g' holds the cells 'cs' and may be written -/
def Bx (W : World) (g : Nat) (t : TypeId) (cs : List Value) : Prop := W.heap[g]? = some (.cells cs.toArray t (0, 0))
section
variable {W W' : World} {g : Nat} {t : TypeId} {cs : List Value}
theorem Bx.lt (h : Bx W g t cs) : g < W.heap.size := (Array.getElem?_eq_some_iff.1 h).1
theorem Bx.keepB (h : Bx W g t cs) {B : Nat} (hb : Below B W W') (hB : g < B) : Bx W' g t cs := (hb.block g hB).trans h
theorem Bx.call (h : Bx W g t cs) (hb : Below W.heap.size W W') : Bx W' g t cs := h.keepB hb h.lt
theorem Bx.drewN (h : Bx W g t cs) (n : Nat) : Bx (W.drewN n) g t cs := h
theorem Bx.new (W : World) (t : TypeId) (cs : List Value) : Bx (W.alloc (.cells cs.toArray t)) W.heap.size t cs := heap_alloc_new _ _
theorem Bx.alloc (h : Bx W g t cs) (o : Obj) : Bx (W.alloc o) g t cs := h.call ((Below.refl _ _).alloc (Nat.le_refl _) o)
theorem Bx.cell (h : Bx W g t cs) {i : Nat} {u : Value} (hu : cs[i]? = some u) : W.cell? ⟨g, i, none⟩ = some u := by
  rw [cell_of_row _ _ _ _ _ _ h]; simpa using hu
theorem Bx.free (h : Bx W g t cs) (i : Nat) : W.frozen? ⟨g, i, none⟩ = false := by unfold Bx at h; simp [World.frozen?, h]
theorem Bx.set (h : Bx W g t cs) (i : Nat) (u : Value) : Bx (W.setCell ⟨g, i, none⟩ u) g t (cs.set i u) := by
  unfold Bx at h ⊢
  simp [World.setCell, Array.getElem?_modify, h]
theorem Bx.far (h : Bx W g t cs) {p : Addr} (hp : p.block ≠ g) (u : Value) : Bx (W.setCell p u) g t cs := (Below.heap_setCell W p u g (Ne.symm hp)).trans h
theorem Bx.ofOwn {base e : Nat} {n sz : Nat} (h : W.ownsRow base e sz (.slice (some ⟨g, 0, none⟩) n n) n cs) : Bx W g e cs := by
  rcases h.2 with ⟨h0, _⟩ | ⟨g', cap, cur, hv, hg, hh, hn, hm, hc, ht⟩
  · simp at h0
  · simp only [Value.slice.injEq, Option.some.injEq, Addr.mk.injEq, and_true, true_and] at hv
    obtain ⟨rfl, rfl⟩ := hv
    unfold Bx
    rw [hh, ← ht, List.take_of_length_le (by rw [Array.length_toList, hc]; exact Nat.le_refl _)]
/-- what is read in other blocks stays -/
theorem RdS.farB {sz n : Nat} {v : Value} {f : Nat → List Value} (h : RdS W sz v n f) (hb : Bx W g t cs) (hd : ∀ i, i < n → ∃ (j : Nat) (u : Value), (f i)[j]? = some u ∧ u ∉ cs) (k : Nat) (x : Value) : RdS (W.setCell ⟨g, k, none⟩ x) sz v n f := by
  obtain ⟨a, c, b, off, rfl, hac, hcell⟩ := h
  refine ⟨a, c, b, off, rfl, hac, fun i hi => ⟨(hcell i hi).1, fun j y hy => ?_⟩⟩
  have hne : g ≠ b := by
    rintro rfl
    obtain ⟨j', u, hu, hnot⟩ := hd i hi
    have h6 := (hcell i hi).2 j' u hu
    rw [cell_of_row _ _ _ _ _ _ hb] at h6
    exact hnot (by simpa using Array.mem_of_getElem? h6)
  rw [World.cell?_setCell_other W _ _ _ (fun e => hne (congrArg Addr.block e))]
  exact (hcell i hi).2 j y hy
end
/-- bools as cells -/
def bb (l : List Bool) : List Value := l.map Value.bool
theorem bb_length (l : List Bool) : (bb l).length = l.length := by simp [bb]
theorem bb_get {l : List Bool} {i : Nat} {b : Bool} (h : l[i]? = some b) : (bb l)[i]? = some (.bool b) := by simp [bb, h]
theorem bb_set (l : List Bool) (i : Nat) (b : Bool) : (bb l).set i (.bool b) = bb (l.set i b) := by simp [bb]
theorem bb_int (l : List Bool) (k : IntKind) (n : Int) : Value.int k n ∉ bb l := by simp [bb]
/-- 'make([]bool, n)' -/
theorem wpList_mkBool {P : Program} {w : World} {ops : Array Oper} {rest : List Oper} {o : Oper} {a : Act} {Q : Exit → Act → World → Prop}
    (hg : o.guard = none) (l c : Operand) {t : TypeId} (hop : o.op = Op.makeSlice t l c)
    {e : TypeId} (h1 : P.underlying t = some (.slice e)) (h2 : (P.info? e).map (fun i => (i.zero, i.size, i.bytes)) = some (some (.bool false), 1, 1))
    {L C : Int} (n : Nat) (hl : a.eval l = .int .i64 L) (hc : a.eval c = .int .i64 C) (hL : L = (n : Int)) (hC : C = (n : Int)) (b3 : n ≤ 281474976710656)
    (hK : ∀ w', Bx w' w.heap.size e (bb (List.replicate n false)) → Below w.heap.size w w' → wpList P ops Q rest (a.put o.dst (.slice (some ⟨w.heap.size, 0, none⟩) n n)) w') :
    wpList P ops Q (o :: rest) a w := by
  obtain ⟨i0, hi, hz0, hz1, hz2⟩ := info_parts h2
  refine wpList_make_full w hg l c t hop w.heap.size e i0 _ 1 h1 hi hz0 hz1 .i64 .i64 L C n hl hc hL hC (by rw [hz2]; omega) (by unfold maxLen; omega) (Nat.le_refl _) fun w' h3 h4 => hK w' ?_ ((Below.refl _ _).grown h4 (Nat.le_refl _) (fun k hk => by cases hk))
  have e1 : (madeCells (Value.bool false).cells (n * 1)).toList = bb (List.replicate n false) := by
    simp only [Value.cells, toList_madeCells_one, bb, List.map_replicate, Nat.mul_one]
  rw [e1] at h3
  exact Bx.ofOwn h3
end Go.Proofs.Ytpncjadhpnapnaa
