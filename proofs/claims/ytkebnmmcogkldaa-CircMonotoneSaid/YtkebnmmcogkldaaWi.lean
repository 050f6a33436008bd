/- Rows of ints in memory: owned, read, appended to; the words of the product code as lists. No program is named here. -/
import Derived.Test.YtkebnmmcogkldaaEras
namespace Go.Proofs.Ytkebnmmcogkldaa.W8
open Go.RowKit
set_option linter.unusedVariables false

/-- ints as cells -/
def is (l : List Int) : List Value := l.map (Value.int .i64)
theorem is_append (l m : List Int) : is (l ++ m) = is l ++ is m := by simp [is]
theorem is_length (l : List Int) : (is l).length = l.length := by simp [is]
theorem is_one (l : List Int) : ∀ u ∈ is l, u.oneCell' = true := by
  intro u hu
  simp only [is, List.mem_map] at hu
  obtain ⟨c, _, rfl⟩ := hu
  rfl
theorem is_get {l : List Int} {i : Nat} (h : i < l.length) : (is l)[i]? = some (.int .i64 (ixI l i)) := by
  simp [is, ixI, h]
theorem ixI_get {l : List Int} {i : Nat} (h : i < l.length) : ixI l i = l[i] := by simp [ixI, h]
theorem ixI_mem {l : List Int} {i : Nat} (h : i < l.length) : ixI l i ∈ l := by rw [ixI_get h]; exact List.getElem_mem h
/-- an owned row of ints can be read -/
theorem rdI_own {w : World} {base e n : Nat} {v : Value} {l : List Int} (h : w.ownsRow base e 1 v n (is l)) (hn : l.length = n) (hl : n ≤ 17592186044416) (hr : ∀ x ∈ l, -9223372036854775808 ≤ x ∧ x ≤ 9223372036854775807) : RdI w v l := by
  subst hn
  refine ⟨hl, ?_, fun i hi => hr _ (ixI_mem hi)⟩
  rcases h.2 with ⟨rfl, h0⟩ | ⟨g, cap, cur, rfl, hg, hh, hn, hm, hcs, ht⟩
  · rw [h0]; exact ⟨none, 0, 0, 0, rfl, by omega, fun i hi => by omega⟩
  · refine ⟨_, cap, g, 0, rfl, hn, fun i hi => ⟨rfl, ?_⟩⟩
    rw [Nat.zero_add, h.cellAt i (by omega), is_get hi]
theorem RdI.reads {w : World} {v : Value} {l : List Int} (h : RdI w v l) : Reads w 1 v l.length (is l) := by
  obtain ⟨h0, ⟨a, c, b, off, rfl, hc, hcell⟩, hr⟩ := h
  refine ⟨by simp [is_length], a, c, b, off, rfl, hc, fun i u hu => ?_⟩
  have hi : i < l.length := by have := (List.getElem?_eq_some_iff.1 hu).1; rwa [is_length] at this
  rw [is_get hi] at hu
  obtain rfl := Option.some.inj hu
  exact hcell i hi
theorem reads_lit (W : World) (l : List Int) (e : TypeId) (hl : l ≠ []) : Reads (W.alloc (.cells (is l).toArray e)) 1 (.slice (some ⟨W.heap.size, 0, none⟩) l.length l.length) l.length (is l) := by
  refine ⟨by simp [is_length], _, _, W.heap.size, 0, rfl, Nat.le_refl _, fun i u hu => ⟨rfl, ?_⟩⟩
  rw [cell_of_row _ _ _ _ _ _ (heap_alloc_new W _), Nat.zero_add]
  simpa using hu
/-- 'append(v, s...)' at ints -/
theorem wpList_appI {P : Program} {ops : Array Oper} {rest : List Oper} {o : Oper} {a : Act} {Q : Exit → Act → World → Prop} {w : World} (hg : o.guard = none) (s x : Operand) {t : TypeId}
    (hop : o.op = .call { callee := .builtin .append, args := #[s, x], argTypes := #[t, t] }) {e : TypeId} {base : Nat}
    (ht : P.underlying t = some (.slice e)) (h2 : (P.info? e).map (fun i => (i.zero, i.size, i.bytes)) = some (some (.int .i64 0), 1, 8))
    {v : Value} {n : Nat} {l : List Int} (hown : w.ownsRow base e 1 v n (is l)) (hv : a.eval s = v) {vs : Value} {m : List Int} (hs : Reads w 1 vs m.length (is m)) (hx : a.eval x = vs)
    (h63 : n + m.length ≤ 1073741824) (hbase : base ≤ w.heap.size)
    (hK : ∀ v' w', w'.ownsRow base e 1 v' (n + m.length) (is (l ++ m)) → w.grownBy w' v.ownBlock → wpList P ops Q rest (a.put o.dst v') w') : wpList P ops Q (o :: rest) a w := by
  obtain ⟨i0, hi, hz0, hz1, hz2⟩ := info_parts h2
  refine wpList_app hg s x hop ht hi hz0 hz1 hz2 rfl (by omega) hown hv hs hx (is_one _) (by unfold maxLen; omega) (by omega) hbase fun v' w' g1 g2 g3 => ?_
  rw [← is_append] at g1
  exact hK v' w' g1 g2
theorem own_keep' {w w' : World} {base e size n : Nat} {v : Value} {xs : List Value} (h : w.ownsRow base e size v n xs) (hb : Below w.heap.size w w') : w'.ownsRow base e size v n xs := by
  refine ⟨h.1, ?_⟩
  rcases h.2 with h2 | ⟨g, cap, cur, h1, h2, h3, h4⟩
  · exact .inl h2
  · exact .inr ⟨g, cap, cur, h1, h2, (hb.block g (Array.getElem?_eq_some_iff.1 h3).1).trans h3, h4⟩
theorem ownBlock_ge' {w : World} {base e size n : Nat} {v : Value} {xs : List Value} (h : w.ownsRow base e size v n xs) : ∀ k, v.ownBlock = some k → base ≤ k := by
  intro k hk
  rcases h.2 with ⟨rfl, _⟩ | ⟨g, cap, cur, rfl, h2, _⟩
  · simp [Value.ownBlock] at hk
  · simp only [Value.ownBlock, Option.some.injEq] at hk
    omega
theorem ownsRow_nil (w : World) (base e : Nat) : w.ownsRow base e 1 (.slice none 0 0) 0 (is []) := ⟨rfl, .inl ⟨rfl, rfl⟩⟩

/-- the offsets of the P word 'm', the first 'k' of them; of the Q word -/
def pf (m i : Nat) : Int := 12 + 2 * ((m : Int) / 2 + 43 * i) + m % 2
def qf (m i : Nat) : Int := 12 + 2 * ((44 * i + 43 * ((m : Int) / 2)) % 1118) + m % 2
def pl (m k : Nat) : List Int := (List.range k).map (pf m)
def ql (m k : Nat) : List Int := (List.range k).map (qf m)
def pw (m : Nat) : List Int := pl m 26
def qw (m : Nat) : List Int := ql m 43 ++ [12 + 2 * (1118 + (m : Int) / 2) + m % 2, 12 + 2 * (1144 + (m : Int) / 2) + m % 2]
theorem pl_succ (m k : Nat) : pl m (k + 1) = pl m k ++ [pf m k] := by simp [pl, List.range_succ]
theorem ql_succ (m k : Nat) : ql m (k + 1) = ql m k ++ [qf m k] := by simp [ql, List.range_succ]
theorem pl_length (m k : Nat) : (pl m k).length = k := by simp [pl]
theorem ql_length (m k : Nat) : (ql m k).length = k := by simp [ql]
theorem pw_length (m : Nat) : (pw m).length = 26 := pl_length _ _
theorem qw_length (m : Nat) : (qw m).length = 45 := by simp [qw, ql_length]
theorem pf_bd {m i : Nat} (hm : m < 86) (hi : i < 26) : 12 ≤ pf m i ∧ pf m i < 2248 := by unfold pf; omega
theorem qf_bd {m i : Nat} (hm : m < 52) : 12 ≤ qf m i ∧ qf m i < 2248 := by unfold qf; omega
theorem pw_bd {m : Nat} (hm : m < 86) : ∀ x ∈ pw m, 12 ≤ x ∧ x < 2352 := by
  intro x hx
  simp only [pw, pl, List.mem_map, List.mem_range] at hx
  obtain ⟨i, hi, rfl⟩ := hx
  have := pf_bd hm hi
  omega
theorem qw_bd {m : Nat} (hm : m < 52) : ∀ x ∈ qw m, 12 ≤ x ∧ x < 2352 := by
  intro x hx
  simp only [qw, ql, List.mem_append, List.mem_map, List.mem_range, List.mem_cons, List.not_mem_nil, or_false] at hx
  rcases hx with ⟨i, hi, rfl⟩ | rfl | rfl
  · have := qf_bd (i := i) hm
    omega
  · omega
  · omega
/-- the word 'k' of all: first those of P -/
def wd (k : Nat) : List Int := if k < 86 then pw k else qw (k - 86)
theorem wd_bd {k : Nat} (hk : k < 138) : ∀ x ∈ wd k, 12 ≤ x ∧ x < 2352 := by
  unfold wd
  split
  · exact pw_bd ‹_›
  · exact qw_bd (by omega)
theorem wd_length (k : Nat) : (wd k).length = if k < 86 then 26 else 45 := by
  unfold wd
  split
  · exact pw_length _
  · exact qw_length _
end Go.Proofs.Ytkebnmmcogkldaa.W8
