/- Chapter 13: slices of ints that come in: opened. -/
import Derived.Test.YtjnedcncfdpjoaaOpen
import Derived.Test.YtjnedcncfdpjoaaE2
namespace Go.Proofs.Ytjnedcncfdpjoaa.D13
open Go.ChangeShapes Go.WideShapes Go.ChangeAt Go.RowKit
set_option linter.unusedVariables false

/-- a slice of ints that came in -/
def CameI (w : World) (v : Value) (l : List Int) : Prop :=
  (l.length ≤ 17592186044416 → RdI w v l) ∧ l.length ≤ 9223372036854775807 ∧ ∃ a c, v = .slice a l.length c
theorem RdI.nil (w : World) : RdI w (.slice none 0 0) [] := ⟨by simp, ⟨none, 0, 0, 0, rfl, by simp, fun i hi => by simp at hi⟩, fun i hi => by simp at hi⟩

section
variable {H : Type} {enc : TypeId × Value → H} {w : World} {base b0 : Nat} {held : Bool}
set_option maxRecDepth 100000 in
theorem open_cints {v : Value} {d : DataW H} {ps : List MemPlace} {r : Reach}
    (hval : Value.okWide Try.prog w r b0 22 v) (hd : DataW.Trod enc Try.prog w base (fun _ => true) held 22 v d ps) : ∃ l : List Int, CameI w v l := by
  obtain ⟨a, len, cap, rfl⟩ := okWide_slice Try.underlying22 hval
  obtain ⟨fuel, hf⟩ := hd
  rcases open_ints Try.underlying22 Try.underlying3 (by kernel_rfl) hf with ⟨hcs, _⟩ | ⟨x, l, c, zs, hcs, _, hl, hm, hz, _, hcell, hwz⟩
  · simp [Value.cells] at hcs
    obtain ⟨rfl, rfl, rfl⟩ := hcs
    exact ⟨[], fun _ => RdI.nil w, by simp, none, 0, rfl⟩
  · simp [Value.cells] at hcs
    obtain ⟨rfl, rfl, rfl⟩ := hcs
    have hz' : zs.length = cap := by simpa using hz
    have hL : (zs.take len).length = len := by simp; omega
    unfold maxLen at hm
    have hr : ∀ i, i < len → ixI (zs.take len) i = zs.getD i 0 := fun i hi => by unfold ixI; simp [hi]
    refine ⟨zs.take len, fun hb => ?_, by rw [hL]; omega, some x, cap, by rw [hL]⟩
    refine ⟨hb, ?_, fun i hi => ?_⟩
    · rw [hL]
      by_cases h0 : len = 0
      · subst h0
        exact ⟨_, cap, 0, 0, rfl, hl, fun i hi => by omega⟩
      · obtain ⟨b, off, rfl, hcc⟩ := ints_at hcell (by omega)
        refine ⟨_, cap, b, off, rfl, hl, fun i hi => ⟨rfl, ?_⟩⟩
        rw [hcc i (by omega), hr i hi]
    · rw [hL] at hi
      have hi' : i < zs.length := by omega
      have hw := hwz (zs[i]) (List.getElem_mem hi')
      rw [hr i hi]
      have e1 : zs.getD i 0 = zs[i] := by simp [hi']
      rw [e1]
      simpa [Lit.wf, IntKind.min, IntKind.max, IntKind.signed, IntKind.bits] using hw
end

end Go.Proofs.Ytjnedcncfdpjoaa.D13
