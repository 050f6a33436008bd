/- Rows of ints in memory, without the texts of other chapters. No program is named here. -/
import Derived.Test.YtpncjadhpnapnaaOwn
import Derived.Test.YtpncjadhpnapnaaBx
import Derived.Deep.RegionWith
namespace Go.Proofs.Ytpncjadhpnapnaa.D13
open Go.RowKit
set_option linter.unusedVariables false

def ixI (l : List Int) (i : Nat) : Int := l.getD i 0
/-- a slice of ints that is only read; nil or not -/
def RdI (w : World) (v : Value) (l : List Int) : Prop :=
  l.length ≤ 17592186044416 ∧ (∃ a cap b off, v = .slice a l.length cap ∧ l.length ≤ cap ∧ ∀ i, i < l.length → a = some ⟨b, off, none⟩ ∧ w.cell? ⟨b, off + i, none⟩ = some (.int .i64 (ixI l i))) ∧ ∀ i, i < l.length → -9223372036854775808 ≤ ixI l i ∧ ixI l i ≤ 9223372036854775807
theorem RdI.keepW {w w' : World} {v : Value} {l : List Int} (h : RdI w v l) (hb : ∀ k, k < w.heap.size → w'.heap[k]? = w.heap[k]?) : RdI w' v l := by
  obtain ⟨h0, ⟨a, cap, b, off, e, hc, hcell⟩, hr⟩ := h
  refine ⟨h0, ⟨a, cap, b, off, e, hc, fun i hi => ⟨(hcell i hi).1, ?_⟩⟩, hr⟩
  have h2 := (hcell i hi).2
  have h3 := World.block_lt_of_cell? w _ h2
  rw [← h2]
  simp [World.cell?, hb b (by simpa using h3)]
theorem RdI.keep {w w' : World} {v : Value} {l : List Int} (h : RdI w v l) (hb : Below w.heap.size w w') : RdI w' v l := h.keepW hb.block
/-- ints as cells -/
def is (l : List Int) : List Value := l.map (Value.int .i64)
theorem is_append (l m : List Int) : is (l ++ m) = is l ++ is m := by simp [is]
theorem is_length (l : List Int) : (is l).length = l.length := by simp [is]
theorem is_one (l : List Int) : ∀ u ∈ is l, u.oneCell' = true := by
  intro u hu
  simp only [is, List.mem_map] at hu
  obtain ⟨c, _, rfl⟩ := hu
  rfl
theorem is_get {l : List Int} {i : Nat} (h : i < l.length) : (is l)[i]? = some (.int .i64 (ixI l i)) := by
  simp [is, ixI, h]
theorem ixI_get {l : List Int} {i : Nat} (h : i < l.length) : ixI l i = l[i] := by simp [ixI, h]
theorem ixI_mem {l : List Int} {i : Nat} (h : i < l.length) : ixI l i ∈ l := by rw [ixI_get h]; exact List.getElem_mem h
/-- an owned row of ints can be read -/
theorem rdI_own {w : World} {base e n : Nat} {v : Value} {l : List Int} (h : w.ownsRow base e 1 v n (is l)) (hn : l.length = n) (hl : n ≤ 17592186044416) (hr : ∀ x ∈ l, -9223372036854775808 ≤ x ∧ x ≤ 9223372036854775807) : RdI w v l := by
  subst hn
  refine ⟨hl, ?_, fun i hi => hr _ (ixI_mem hi)⟩
  rcases h.2 with ⟨rfl, h0⟩ | ⟨g, cap, cur, rfl, hg, hh, hn, hm, hcs, ht⟩
  · rw [h0]; exact ⟨none, 0, 0, 0, rfl, by omega, fun i hi => by omega⟩
  · refine ⟨_, cap, g, 0, rfl, hn, fun i hi => ⟨rfl, ?_⟩⟩
    rw [Nat.zero_add, h.cellAt i (by omega), is_get hi]
theorem RdI.reads {w : World} {v : Value} {l : List Int} (h : RdI w v l) : Reads w 1 v l.length (is l) := by
  obtain ⟨h0, ⟨a, c, b, off, rfl, hc, hcell⟩, hr⟩ := h
  refine ⟨by simp [is_length], a, c, b, off, rfl, hc, fun i u hu => ?_⟩
  have hi : i < l.length := by have := (List.getElem?_eq_some_iff.1 hu).1; rwa [is_length] at this
  rw [is_get hi] at hu
  obtain rfl := Option.some.inj hu
  exact hcell i hi
theorem reads_lit (W : World) (l : List Int) (e : TypeId) (hl : l ≠ []) : Reads (W.alloc (.cells (is l).toArray e)) 1 (.slice (some ⟨W.heap.size, 0, none⟩) l.length l.length) l.length (is l) := by
  refine ⟨by simp [is_length], _, _, W.heap.size, 0, rfl, Nat.le_refl _, fun i u hu => ⟨rfl, ?_⟩⟩
  rw [cell_of_row _ _ _ _ _ _ (heap_alloc_new W _), Nat.zero_add]
  simpa using hu
/-- 'append(v, s...)' at ints -/
theorem wpList_appI {P : Program} {ops : Array Oper} {rest : List Oper} {o : Oper} {a : Act} {Q : Exit → Act → World → Prop} {w : World} (hg : o.guard = none) (s x : Operand) {t : TypeId}
    (hop : o.op = .call { callee := .builtin .append, args := #[s, x], argTypes := #[t, t] }) {e : TypeId} {base : Nat}
    (ht : P.underlying t = some (.slice e)) (h2 : (P.info? e).map (fun i => (i.zero, i.size, i.bytes)) = some (some (.int .i64 0), 1, 8))
    {v : Value} {n : Nat} {l : List Int} (hown : w.ownsRow base e 1 v n (is l)) (hv : a.eval s = v) {vs : Value} {m : List Int} (hs : Reads w 1 vs m.length (is m)) (hx : a.eval x = vs)
    (h63 : n + m.length ≤ 1073741824) (hbase : base ≤ w.heap.size)
    (hK : ∀ v' w', w'.ownsRow base e 1 v' (n + m.length) (is (l ++ m)) → w.grownBy w' v.ownBlock → wpList P ops Q rest (a.put o.dst v') w') : wpList P ops Q (o :: rest) a w := by
  obtain ⟨i0, hi, hz0, hz1, hz2⟩ := info_parts h2
  refine wpList_app hg s x hop ht hi hz0 hz1 hz2 rfl (by omega) hown hv hs hx (is_one _) (by unfold maxLen; omega) (by omega) hbase fun v' w' g1 g2 g3 => ?_
  rw [← is_append] at g1
  exact hK v' w' g1 g2
theorem own_keep' {w w' : World} {base e size n : Nat} {v : Value} {xs : List Value} (h : w.ownsRow base e size v n xs) (hb : Below w.heap.size w w') : w'.ownsRow base e size v n xs := by
  refine ⟨h.1, ?_⟩
  rcases h.2 with h2 | ⟨g, cap, cur, h1, h2, h3, h4⟩
  · exact .inl h2
  · exact .inr ⟨g, cap, cur, h1, h2, (hb.block g (Array.getElem?_eq_some_iff.1 h3).1).trans h3, h4⟩
theorem ownBlock_ge' {w : World} {base e size n : Nat} {v : Value} {xs : List Value} (h : w.ownsRow base e size v n xs) : ∀ k, v.ownBlock = some k → base ≤ k := by
  intro k hk
  rcases h.2 with ⟨rfl, _⟩ | ⟨g, cap, cur, rfl, h2, _⟩
  · simp [Value.ownBlock] at hk
  · simp only [Value.ownBlock, Option.some.injEq] at hk
    omega
theorem ownsRow_nil (w : World) (base e : Nat) : w.ownsRow base e 1 (.slice none 0 0) 0 (is []) := ⟨rfl, .inl ⟨rfl, rfl⟩⟩
end Go.Proofs.Ytpncjadhpnapnaa.D13
