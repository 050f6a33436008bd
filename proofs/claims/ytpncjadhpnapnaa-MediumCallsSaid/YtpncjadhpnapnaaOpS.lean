/- Slices of structs that came in: opened. No program is named here. -/
import Derived.Test.YtpncjadhpnapnaaSt
import Derived.Lib.SmallJoins
namespace Go.Proofs.Ytpncjadhpnapnaa
open Go.ChangeShapes Go.WideShapes Go.RowKit Go.Deep
set_option linter.unusedVariables false

/-- an integer of 64 bits -/
def In64 (a : Int) : Prop := -9223372036854775808 ≤ a ∧ a ≤ 9223372036854775807
theorem in64_wf {a : Int} (h : (Lit.int .i64 a).wf = true) : In64 a := by
  simpa [Lit.wf, IntKind.min, IntKind.max, IntKind.signed, IntKind.bits, In64] using h
section
variable {H : Type} {enc : TypeId × Value → H} {P : Program} {w : World} {base b0 : Nat} {sp : Nat → Bool} {held : Bool}
/-- the reading of a field that is an int -/
theorem leaf_int {t : TypeId} {n : Nat} {cs : List Value} {y : Option (DataW H × List MemPlace)} (ht : P.underlying t = some (.int .i64)) (h : DataW.trod enc P w base sp held n t cs = y) (hy : y ≠ none) : ∃ a, cs = [.int .i64 a] ∧ In64 a := by
  cases y with
  | none => exact (hy rfl).elim
  | some y =>
    obtain ⟨a, h1, _, h2⟩ := DataW.trod_int ht h
    exact ⟨a, h1, in64_wf h2⟩
theorem leaf_bool {t : TypeId} {n : Nat} {cs : List Value} {y : Option (DataW H × List MemPlace)} (ht : P.underlying t = some .bool) (h : DataW.trod enc P w base sp held n t cs = y) (hy : y ≠ none) : ∃ a, cs = [.bool a] := by
  cases y with
  | none => exact (hy rfl).elim
  | some y =>
    obtain ⟨a, h1, _⟩ := DataW.trod_bool ht h
    exact ⟨a, h1⟩
theorem some_at {α : Type} {xs : List α} {n i : Nat} (h : xs.length = n) (hi : i < n) : xs[i]? ≠ none := by
  rw [List.getElem?_eq_getElem (by omega)]; simp

/-- a slice of structs that came in, each read by 'D' -/
theorem open_rdS {α : Type} (d : α) (D : α → List Value) (Q : α → Prop) {t e : TypeId} {sz : Nat} (ht : P.underlying t = some (.slice e)) (hC : P.cellsOf e = sz) (hs : 0 < sz)
    (hE : ∀ n cs x, DataW.trod enc P w base sp held n e cs = some x → ∃ a : α, cs = D a ∧ Q a) {n : Nat} {v : Value} {x : DataW H × List MemPlace} (hd : DataW.trod enc P w base sp held n t [v] = some x) :
    ∃ l : List α, RdS w sz v l.length (fun i => D ((l[i]?).getD d)) ∧ l.length ≤ 9223372036854775807 ∧ ∀ i, i < l.length → Q ((l[i]?).getD d) := by
  rcases open_slice ht hd with ⟨hcs, _⟩ | ⟨a, len, cap, m, n', Dd, Pl, hcs, hb, hl, hm, hmm, hx, hi⟩
  · simp only [List.cons.injEq, and_true] at hcs
    subst hcs
    exact ⟨[], RdS.nil _ _ _, by simp, fun i hi => by simp at hi⟩
  · simp only [List.cons.injEq, and_true] at hcs
    subst hcs
    rw [hC] at hi
    by_cases h0 : len = 0
    · subst h0
      exact ⟨[], RdS.empty _ _ _ _ _, by simp, fun i hi => by simp at hi⟩
    obtain ⟨ab, ao, asp⟩ := a
    have hle : len ≤ m := by rw [hmm]; split <;> omega
    obtain rfl : asp = none := by
      obtain ⟨cs', h1, h2⟩ := hi 0 (by omega)
      obtain ⟨_, hL, hc⟩ := World.cells?_some h1
      have e := hc 0 hs
      rw [List.getElem?_eq_getElem (by omega), Nat.zero_mul] at e
      cases asp with
      | none => rfl
      | some s => unfold World.cell? at e; split at e <;> simp [Addr.add] at e
    have key : ∀ i, ∃ z : α, i < len → Q z ∧ w.rangeAt ab (ao + i * sz) (D z) := fun i => by
      by_cases h : i < len
      · obtain ⟨cs', h1, h2⟩ := hi i (by omega)
        obtain ⟨z, rfl, hq⟩ := hE _ _ _ h2
        obtain ⟨_, hL, hc⟩ := World.cells?_some h1
        refine ⟨z, fun _ => ⟨hq, fun j u hu => ?_⟩⟩
        have hj : j < sz := by have := (List.getElem?_eq_some_iff.1 hu).1; omega
        have e := hc j hj
        rw [hu, Addr.add_lit, Addr.add_lit] at e
        exact e
      · exact ⟨d, fun h' => absurd h' h⟩
    obtain ⟨f, hf⟩ : ∃ f : Nat → α, ∀ i, i < len → Q (f i) ∧ w.rangeAt ab (ao + i * sz) (D (f i)) := ⟨fun i => Classical.choose (key i), fun i => Classical.choose_spec (key i)⟩
    have hL : ((List.range len).map f).length = len := by simp
    have hG : ∀ i, i < len → (((List.range len).map f)[i]?).getD d = f i := fun i h => by simp [h]
    refine ⟨(List.range len).map f, ⟨some ⟨ab, ao, none⟩, cap, ab, ao, by rw [hL], by rw [hL]; exact hl, fun i h => ?_⟩, by rw [hL]; unfold maxLen at hm; omega, fun i h => ?_⟩
    · rw [hL] at h
      simp only [hG i h]
      exact ⟨trivial, (hf i h).2⟩
    · rw [hL] at h
      rw [hG i h]
      exact (hf i h).1
end
end Go.Proofs.Ytpncjadhpnapnaa
