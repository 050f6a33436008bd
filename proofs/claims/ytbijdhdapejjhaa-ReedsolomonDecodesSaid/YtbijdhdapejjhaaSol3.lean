/- Rows of bytes in memory, and the walk of solve of the reference of chapter 4: the equations. -/
import Derived.Test.YtbijdhdapejjhaaSol2
import Derived.Deep.LoopGhost
namespace Go.Proofs.Ytbijdhdapejjhaa
open Go.RowKit
set_option linter.unusedVariables false

theorem Try.sizeRow : (Try.prog.info? 26).map (·.size) = some 1 := by kernel_rfl

/-- a row of bytes that is not empty, at the head of a block of bytes -/
def RdT (w : World) (v : Value) (l : List UInt8) : Prop :=
  l.length ≤ 1000 ∧ ∃ cap bb cur fz, v = .slice (some ⟨bb, 0, none⟩) l.length cap ∧ l.length ≤ cap ∧ w.heap[bb]? = some (.cells cur 5 fz) ∧ ∀ i, i < l.length → w.cell? ⟨bb, i, none⟩ = some (B (G.ix l i))
theorem RdT.rd {w : World} {v : Value} {l : List UInt8} (h : RdT w v l) : Rd w v l := by
  obtain ⟨h0, cap, bb, cur, fz, rfl, hc, hg, h⟩ := h
  exact ⟨by omega, _, cap, bb, 0, rfl, hc, fun i hi => ⟨rfl, by rw [Nat.zero_add]; exact h i hi⟩⟩
theorem RdT.keepW {w w' : World} {v : Value} {l : List UInt8} (h : RdT w v l) (hk : ∀ (k : Nat) (cur : Array Value) (fz : Nat × Nat), w.heap[k]? = some (Obj.cells cur 5 fz) → w'.heap[k]? = w.heap[k]?) : RdT w' v l := by
  obtain ⟨h0, cap, bb, cur, fz, rfl, hc, hg, h⟩ := h
  have e := hk bb cur fz hg
  exact ⟨h0, cap, bb, cur, fz, rfl, hc, e.trans hg, fun i hi => by rw [← h i hi]; exact World.cell?_of_block e⟩
theorem RdT.below {w w' : World} {v : Value} {l : List UInt8} (h : RdT w v l) (hb : Below w.heap.size w w') : RdT w' v l := h.keepW fun k cur fz hk => hb.block k (Array.getElem?_eq_some_iff.1 hk).1
theorem RdT.ofOwn {w : World} {base n : Nat} {v : Value} {l : List UInt8} (h : w.ownsRow base 5 1 v n (bs l)) (hn : l.length = n) (h0 : 0 < n) (hl : n ≤ 1000) : RdT w v l := by
  subst hn
  rcases h.2 with ⟨rfl, h1⟩ | ⟨g, cap, cur, rfl, hg, hh, hn, hm, hcs, ht⟩
  · omega
  · refine ⟨hl, cap, g, cur, _, rfl, hn, hh, fun i hi => ?_⟩
    rw [h.cellAt i (by omega), bs_get hi]
theorem RdT.form {w : World} {v : Value} {l : List UInt8} (h : RdT w v l) {k : Nat} (hk : l.length = k) : ∃ cap bb, v = .slice (some ⟨bb, 0, none⟩) k cap := by
  obtain ⟨h0, cap, bb, cur, fz, rfl, _⟩ := h
  exact ⟨cap, bb, by rw [hk]⟩
theorem RdT.byte {w : World} {v : Value} {l : List UInt8} (h : RdT w v l) {m : Nat} (hl : l.length = m) (k : Nat) (hk : k < m) : ∃ cap bb, v = .slice (some ⟨bb, 0, none⟩) m cap ∧ w.cell? ⟨bb, k, none⟩ = some (B (G.ix l k)) ∧ m ≤ cap := by
  obtain ⟨h0, cap, bb, cur, fz, rfl, hc, _, h⟩ := h
  exact ⟨cap, bb, by rw [hl], h k (by omega), by omega⟩
theorem RdT.one {w : World} {v : Value} {l : List UInt8} (h : RdT w v l) : v.oneCell' = true := by
  obtain ⟨h0, cap, bb, cur, fz, rfl, _⟩ := h; rfl

/-- block 'g' holds rows -/
def RowsM (w : World) (g : Nat) (R : List (List UInt8)) : Prop :=
  ∃ cur, w.heap[g]? = some (.cells cur 26 (0, 0)) ∧ R.length ≤ cur.size ∧ ∀ i, i < R.length → ∃ v, cur[i]? = some v ∧ RdT w v (G.rw_ R i)
theorem RowsM.lt {w : World} {g : Nat} {R : List (List UInt8)} (h : RowsM w g R) : g < w.heap.size := by
  obtain ⟨cur, hg, _⟩ := h; exact (Array.getElem?_eq_some_iff.1 hg).1
theorem RowsM.cell {w : World} {g : Nat} {R : List (List UInt8)} (h : RowsM w g R) (i : Nat) (hi : i < R.length) : ∃ v, w.cell? ⟨g, i, none⟩ = some v ∧ RdT w v (G.rw_ R i) := by
  obtain ⟨cur, hg, hs, h⟩ := h
  obtain ⟨v, hv, hr⟩ := h i hi
  exact ⟨v, by rw [cell_of_row w g i cur _ _ hg]; exact hv, hr⟩
theorem RowsM.frozen {w : World} {g : Nat} {R : List (List UInt8)} (h : RowsM w g R) (i : Nat) : w.frozen? ⟨g, i, none⟩ = false := by
  obtain ⟨cur, hg, hs, h⟩ := h
  simp [World.frozen?, hg]
theorem RowsM.below {w w' : World} {g : Nat} {R : List (List UInt8)} (h : RowsM w g R) (hb : Below w.heap.size w w') : RowsM w' g R := by
  have hlt := h.lt
  obtain ⟨cur, hg, hs, h⟩ := h
  exact ⟨cur, (hb.block g hlt).trans hg, hs, fun i hi => by obtain ⟨v, hv, hr⟩ := h i hi; exact ⟨v, hv, hr.below hb⟩⟩
theorem RowsM.drew {w : World} {g : Nat} {R : List (List UInt8)} (h : RowsM w g R) : RowsM w.drew g R := h.below ⟨rfl, rfl, rfl, Nat.le_refl _, fun _ _ => rfl⟩
theorem RowsM.store {w : World} {g : Nat} {R : List (List UInt8)} (h : RowsM w g R) (i : Nat) (hi : i < R.length) {v : Value} {l : List UInt8} (hv : RdT w v l) : RowsM (w.setCell ⟨g, i, none⟩ v) g (R.set i l) := by
  obtain ⟨cur, hg, hs, h⟩ := h
  have hkeep : ∀ (k : Nat) (c : Array Value) (fz : Nat × Nat), w.heap[k]? = some (Obj.cells c 5 fz) → (w.setCell ⟨g, i, none⟩ v).heap[k]? = w.heap[k]? := fun k c fz hk => by
    by_cases e : k = g
    · subst e
      rw [hg] at hk
      simp at hk
    · exact Below.heap_setCell _ _ _ _ e
  refine ⟨cur.setIfInBounds i v, ?_, by simpa using hs, fun j hj => ?_⟩
  · rw [setCell_eq_setRow w g i cur _ _ v hg]
    exact setRow_heap w g cur _ _ _ hg
  · rw [List.length_set] at hj
    by_cases e : j = i
    · subst e
      refine ⟨v, by simp [(by omega : j < cur.size)], ?_⟩
      rw [G.rw_set_self _ _ _ hj]
      exact hv.keepW hkeep
    · obtain ⟨u, hu, hr⟩ := h j hj
      refine ⟨u, by rw [Array.getElem?_setIfInBounds_ne (by omega)]; exact hu, ?_⟩
      rw [G.rw_set_ne _ _ e]
      exact hr.keepW hkeep

theorem RowsM.setRdT {w : World} {g : Nat} {R : List (List UInt8)} (h : RowsM w g R) (i : Nat) (u : Value) {v : Value} {l : List UInt8} (hv : RdT w v l) : RdT (w.setCell ⟨g, i, none⟩ u) v l := by
  obtain ⟨cur, hg, hs, h⟩ := h
  refine hv.keepW fun k c fz hk => ?_
  by_cases e : k = g
  · subst e
    rw [hg] at hk
    simp at hk
  · exact Below.heap_setCell _ _ _ _ e

theorem RowsM.ne {w : World} {g : Nat} {R : List (List UInt8)} (h : RowsM w g R) {bb m c : Nat} {l : List UInt8} (hv : RdT w (.slice (some ⟨bb, 0, none⟩) m c) l) : bb ≠ g := by
  obtain ⟨cur, hg, _⟩ := h
  obtain ⟨_, _, bb', cur', _, hse, _, hh, _⟩ := hv
  simp only [Value.slice.injEq, Option.some.injEq, Addr.mk.injEq, and_true] at hse
  obtain ⟨rfl, _⟩ := hse
  rintro rfl
  rw [hg] at hh
  simp at hh

/-- a slice of the call's own that grows by rows -/
def Bld (w : World) (base : Nat) (v : Value) (R : List (List UInt8)) : Prop :=
  ∃ vs, w.ownsRow base 26 1 v R.length vs ∧ vs.length = R.length ∧ ∀ i, i < R.length → ∃ u, vs[i]? = some u ∧ RdT w u (G.rw_ R i)
theorem Bld.below {w w' : World} {base : Nat} {v : Value} {R : List (List UInt8)} (h : Bld w base v R) (hb : Below w.heap.size w w') : Bld w' base v R := by
  obtain ⟨vs, h1, h2, h3⟩ := h
  exact ⟨vs, own_keep h1 hb, h2, fun i hi => by obtain ⟨u, hu, hr⟩ := h3 i hi; exact ⟨u, hu, hr.below hb⟩⟩
theorem Bld.ge {w : World} {base : Nat} {v : Value} {R : List (List UInt8)} (h : Bld w base v R) : ∀ k, v.ownBlock = some k → base ≤ k := by
  obtain ⟨vs, h1, _⟩ := h; exact ownBlock_ge h1
theorem Bld.toM {w : World} {base : Nat} {v : Value} {R : List (List UInt8)} (h : Bld w base v R) (h0 : 0 < R.length) : ∃ g cap, v = .slice (some ⟨g, 0, none⟩) R.length cap ∧ base ≤ g ∧ R.length ≤ cap ∧ RowsM w g R := by
  obtain ⟨vs, h1, h2, h3⟩ := h
  rcases h1.2 with ⟨rfl, h4⟩ | ⟨g, cap, cur, rfl, hg, hh, hn, hm, hcs, ht⟩
  · omega
  · refine ⟨g, cap, rfl, hg, hn, cur, hh, ?_, fun i hi => ?_⟩
    · rw [hcs]; omega
    · obtain ⟨u, hu, hr⟩ := h3 i hi
      refine ⟨u, ?_, hr⟩
      have : (cur.toList.take (R.length * 1))[i]? = some u := by rw [ht]; exact hu
      rw [List.getElem?_take] at this
      split at this
      · simpa using this
      · cases this
/-- 'append(rows, row)' -/
theorem wpList_appR {P : Program} {ops : Array Oper} {rest : List Oper} {o : Oper} {a : Act} {Q : Exit → Act → World → Prop} {w : World} (hg : o.guard = none) (s x : Operand) {t : TypeId}
    (hop : o.op = .call { callee := .builtin .append, args := #[s, x], argTypes := #[t, t] }) {base : Nat}
    (ht : P.underlying t = some (.slice 26)) (h2 : (P.info? 26).map (fun i => (i.zero, i.size, i.bytes)) = some (some (.slice none 0 0), 1, 24))
    {v : Value} {R : List (List UInt8)} (hown : Bld w base v R) (hv : a.eval s = v) {g : Nat} {nv : Value} {row : List UInt8} (hrow : RdT w nv row) (hc : w.cell? ⟨g, 0, none⟩ = some nv) (hx : a.eval x = .slice (some ⟨g, 0, none⟩) 1 1)
    (h63 : R.length ≤ 1000) (hbase : base ≤ w.heap.size)
    (hK : ∀ v' w', Bld w' base v' (R ++ [row]) → w.grownBy w' v.ownBlock → wpList P ops Q rest (a.put o.dst v') w') : wpList P ops Q (o :: rest) a w := by
  obtain ⟨i0, hi, hz0, hz1, hz2⟩ := info_parts h2
  obtain ⟨vs, h3, h4, h5⟩ := hown
  refine wpList_app hg s x hop ht hi hz0 hz1 hz2 rfl (by omega) h3 hv (m := 1) (news := [nv]) ⟨by simp, _, 1, g, 0, rfl, Nat.le_refl _, fun i u hu => ?_⟩ hx (by simp [hrow.one]) (by unfold maxLen; omega) (by omega) hbase fun v' w' g1 g2 g3 => ?_
  · have hi0 : i = 0 := by
      by_cases h : i = 0
      · exact h
      · simp [h] at hu
    subst hi0
    simp only [List.getElem?_cons_zero, Option.some.injEq] at hu
    subst hu
    exact ⟨rfl, hc⟩
  · have hkeep : ∀ (k : Nat) (c : Array Value) (fz : Nat × Nat), w.heap[k]? = some (Obj.cells c 5 fz) → w'.heap[k]? = w.heap[k]? := fun k c fz hk => by
      refine g2.block k (Array.getElem?_eq_some_iff.1 hk).1 (fun e => ?_)
      rcases h3.2 with ⟨rfl, _⟩ | ⟨gg, cap, cur, rfl, _, hh, _⟩
      · simp [Value.ownBlock] at e
      · simp only [Value.ownBlock, Option.some.injEq] at e
        subst e
        rw [hh] at hk
        simp at hk
    refine hK v' w' ⟨vs ++ [nv], by simpa using g1, by simp [h4], fun i hi => ?_⟩ g2
    rw [List.length_append, List.length_singleton] at hi
    by_cases e : i < R.length
    · obtain ⟨u, hu, hr⟩ := h5 i e
      refine ⟨u, by rw [List.getElem?_append_left (by omega)]; exact hu, ?_⟩
      have : G.rw_ (R ++ [row]) i = G.rw_ R i := by simp [G.rw_, List.getElem?_append_left e]
      rw [this]
      exact hr.keepW hkeep
    · obtain rfl : i = R.length := by omega
      refine ⟨nv, by rw [List.getElem?_append_right (by omega)]; simp [h4], ?_⟩
      have : G.rw_ (R ++ [row]) R.length = row := by simp [G.rw_]
      rw [this]
      exact hrow.keepW hkeep

theorem Bld.t26 {w : World} {base : Nat} {v : Value} {R : List (List UInt8)} (h : Bld w base v R) : ∀ k, v.ownBlock = some k → ∃ cur fz, w.heap[k]? = some (Obj.cells cur 26 fz) := by
  obtain ⟨vs, h1, h2, h3⟩ := h
  intro k hk
  rcases h1.2 with ⟨rfl, _⟩ | ⟨g, cap, cur, rfl, hg, hh, hn, hm, hcs, ht⟩
  · simp [Value.ownBlock] at hk
  · simp only [Value.ownBlock, Option.some.injEq] at hk
    subst hk
    exact ⟨cur, _, hh⟩
theorem RdT.keepG {w w' : World} {v : Value} {l : List UInt8} {row : Option Nat} (h : RdT w v l) (hg : w.grownBy w' row) (h26 : ∀ k, row = some k → ∃ cur fz, w.heap[k]? = some (Obj.cells cur 26 fz)) : RdT w' v l :=
  h.keepW fun k cur fz hk => hg.block k (Array.getElem?_eq_some_iff.1 hk).1 fun e => by
    obtain ⟨cur', fz', h2⟩ := h26 k e.symm
    rw [hk] at h2
    simp at h2
end Go.Proofs.Ytbijdhdapejjhaa
