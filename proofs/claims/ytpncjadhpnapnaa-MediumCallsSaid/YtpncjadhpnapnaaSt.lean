/- Slices of structs that are only read, and those that a call owns. No program is named here. -/
import Derived.Test.YtpncjadhpnapnaaLib
import Derived.Deep.MidRow
import Derived.Deep.Fields
import Derived.Deep.Slices
import Derived.ChangeSame
namespace Go.Proofs.Ytpncjadhpnapnaa
open Go.RowKit
set_option linter.unusedVariables false

/-- the slice 'v' has 'n' elements of 'sz' cells each; the element 'i' holds the cells 'f i' -/
def RdS (w : World) (sz : Nat) (v : Value) (n : Nat) (f : Nat → List Value) : Prop :=
  ∃ a cap b off, v = .slice a n cap ∧ n ≤ cap ∧ ∀ i, i < n → a = some ⟨b, off, none⟩ ∧ w.rangeAt b (off + i * sz) (f i)

section
variable {w : World} {sz n : Nat} {v : Value} {f : Nat → List Value}
theorem RdS.form (h : RdS w sz v n f) : ∃ a c, v = .slice a n c ∧ n ≤ c := by
  obtain ⟨a, c, _, _, rfl, hc, _⟩ := h
  exact ⟨a, c, rfl, hc⟩
theorem RdS.keepW {w' : World} (h : RdS w sz v n f) (hb : ∀ k, k < w.heap.size → w'.heap[k]? = w.heap[k]?) : RdS w' sz v n f := by
  obtain ⟨a, c, b, off, rfl, hc, h⟩ := h
  refine ⟨a, c, b, off, rfl, hc, fun i hi => ⟨(h i hi).1, fun j u hu => ?_⟩⟩
  have e := (h i hi).2 j u hu
  rw [← e]
  exact World.cell?_of_block (hb b (World.block_lt_of_cell? w _ e))
theorem RdS.keep {w' : World} (h : RdS w sz v n f) (hb : Below w.heap.size w w') : RdS w' sz v n f := h.keepW hb.block
theorem RdS.drewN (h : RdS w sz v n f) (k : Nat) : RdS (w.drewN k) sz v n f := h
theorem RdS.congr {g : Nat → List Value} (h : RdS w sz v n f) (hg : ∀ i, i < n → g i = f i) : RdS w sz v n g := by
  obtain ⟨a, c, b, off, rfl, hc, h⟩ := h
  exact ⟨a, c, b, off, rfl, hc, fun i hi => by rw [hg i hi]; exact h i hi⟩
theorem RdS.nil (w : World) (sz : Nat) (f : Nat → List Value) : RdS w sz (.slice none 0 0) 0 f := ⟨none, 0, 0, 0, rfl, Nat.le_refl _, fun i hi => by omega⟩
theorem RdS.empty (w : World) (sz : Nat) (a : Option Addr) (c : Nat) (f : Nat → List Value) : RdS w sz (.slice a 0 c) 0 f := ⟨a, c, 0, 0, rfl, Nat.zero_le _, fun i hi => by omega⟩

theorem get_flat {f : Nat → List Value} (hf : ∀ i, (f i).length = sz) : ∀ (n i j : Nat), i < n → j < sz → ((List.range n).flatMap f)[i * sz + j]? = (f i)[j]?
  | 0, i, j, hi, hj => by omega
  | n + 1, i, j, hi, hj => by
    have hL : ∀ m, ((List.range m).flatMap f).length = m * sz := fun m => by
      induction m with
      | zero => simp
      | succ m ih => rw [List.range_succ, List.flatMap_append, List.length_append, ih]; simp [hf, Nat.succ_mul]
    rw [List.range_succ, List.flatMap_append]
    by_cases h : i < n
    · rw [List.getElem?_append_left]
      · exact get_flat hf n i j h hj
      · rw [hL]
        have : (i + 1) * sz ≤ n * sz := Nat.mul_le_mul_right _ h
        rw [Nat.succ_mul] at this
        omega
    · obtain rfl : i = n := by omega
      rw [List.getElem?_append_right (by rw [hL]; omega), hL, Nat.add_sub_cancel_left]
      simp
theorem length_flat {f : Nat → List Value} (hf : ∀ i, (f i).length = sz) (m : Nat) : ((List.range m).flatMap f).length = m * sz := by
  induction m with
  | zero => simp
  | succ m ih => rw [List.range_succ, List.flatMap_append, List.length_append, ih]; simp [hf, Nat.succ_mul]
/-- what is owned can be read -/
theorem RdS.ofOwn {base e : Nat} (hf : ∀ i, (f i).length = sz) (h : w.ownsRow base e sz v n ((List.range n).flatMap f)) : RdS w sz v n f := by
  rcases h.2 with ⟨rfl, h0⟩ | ⟨g, cap, cur, rfl, hg, hh, hn, hm, hcs, ht⟩
  · subst h0; exact RdS.nil _ _ _
  · refine ⟨_, cap, g, 0, rfl, hn, fun i hi => ⟨rfl, fun j u hu => ?_⟩⟩
    have hj : j < sz := by have := (List.getElem?_eq_some_iff.1 hu).1; rwa [hf] at this
    rw [Nat.zero_add]
    have := h.cells (g := g) rfl (i * sz + j) u (by rw [get_flat hf n i j hi hj]; exact hu)
    rwa [Addr.add_lit, Nat.zero_add] at this
/-- as a row of cells -/
theorem RdS.reads (hf : ∀ i, (f i).length = sz) (h : RdS w sz v n f) : Reads w sz v n ((List.range n).flatMap f) := by
  obtain ⟨a, c, b, off, rfl, hc, h⟩ := h
  refine ⟨length_flat hf n, a, c, b, off, rfl, hc, fun k u hu => ?_⟩
  have hk : k < n * sz := by have := (List.getElem?_eq_some_iff.1 hu).1; rwa [length_flat hf] at this
  have hs : 0 < sz := by
    rcases Nat.eq_zero_or_pos sz with h0 | h0
    · rw [h0] at hk; omega
    · exact h0
  have hi : k / sz < n := Nat.div_lt_of_lt_mul (by rw [Nat.mul_comm]; exact hk)
  have hj : k % sz < sz := Nat.mod_lt _ hs
  have e : k / sz * sz + k % sz = k := by rw [Nat.mul_comm]; exact Nat.div_add_mod k sz
  have hu' : (f (k / sz))[k % sz]? = some u := by rw [← get_flat hf n _ _ hi hj, e]; exact hu
  obtain ⟨h1, h2⟩ := h _ hi
  refine ⟨h1, ?_⟩
  have := h2 _ _ hu'
  rwa [Nat.add_assoc, e] at this
end

section
variable {P : Program} {t e : TypeId}
/-- the address of an element -/
theorem run_idxS (ht : P.underlying t = some (.slice e)) {sz : Nat} (hs : (P.info? e).map (·.size) = some sz) {a : Option Addr} {n cap b off k : Nat} (ha : a = some ⟨b, off, none⟩) (hk : k < n) (i : Int) (hi : i = k) (w : World) :
    (Instr.indexAt t (.slice a n cap) (.int .i64 i)).run P w = .ok (.pointer (some ⟨b, off + k * sz, none⟩)) w := by
  subst ha hi
  cases hq : P.info? e with
  | none => simp [hq] at hs
  | some i =>
    have h1 : i.size = sz := by simpa [hq] using hs
    simp [Instr.indexAt, run_underlying ht, asIntOf, sizeOf, typeInfo, hq, h1, hk, Addr.add]
/-- 'v[:hi:hi]' -/
theorem run_cut3 (ht : P.underlying t = some (.slice e)) {sz : Nat} (hs : (P.info? e).map (·.size) = some sz) {v : Value} {w : World} {n : Nat} {f : Nat → List Value} (h : RdS w sz v n f) (hi : Nat) (h2 : hi ≤ n) :
    ∃ v', RdS w sz v' hi f ∧ ∀ (x y : Int) (w' : World), x = hi → y = hi → (Instr.slice t v none (some (.int .i64 x)) (some (.int .i64 y))).run P w' = .ok v' w' := by
  obtain ⟨a, c, b, off, rfl, hc, hcell⟩ := h
  cases hq : P.info? e with
  | none => simp [hq] at hs
  | some i =>
    have hs1 : i.size = sz := by simpa [hq] using hs
    refine ⟨.slice a hi hi, ⟨a, hi, b, off, rfl, Nat.le_refl _, fun j hj => hcell j (by omega)⟩, ?_⟩
    rintro x y w' rfl rfl
    have ha : ¬ hi = 0 → Option.map (fun x => x.add 0) a = a := fun h0 => by
      rw [(hcell 0 (by omega)).1]; simp [Addr.add]
    simp [Instr.slice, run_underlying ht, Instr.sliceBounds, run_sliceBound, sizeOf, typeInfo, hq, (by omega : hi ≤ c)]
    exact ha
end
end Go.Proofs.Ytpncjadhpnapnaa
