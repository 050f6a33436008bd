/- Slices of ints and of uint16 that come in: opened. -/
import Derived.Test.YtbijdhdapejjhaaOpen
import Derived.Test.YtbijdhdapejjhaaEras
namespace Go.Proofs.Ytbijdhdapejjhaa
open Go.ChangeShapes Go.WideShapes Go.ChangeAt Go.RowKit
set_option linter.unusedVariables false

/-- a slice of ints that came in -/
def CameI (w : World) (v : Value) (l : List Int) : Prop :=
  (l.length ≤ 17592186044416 → RdI w v l) ∧ l.length ≤ 9223372036854775807 ∧ ∃ a c, v = .slice a l.length c
theorem RdI.nil (w : World) : RdI w (.slice none 0 0) [] := ⟨by simp, ⟨none, 0, 0, 0, rfl, by simp, fun i hi => by simp at hi⟩, fun i hi => by simp at hi⟩

section
variable {H : Type} {enc : TypeId × Value → H} {w : World} {base b0 : Nat} {held : Bool}
theorem open_cints {v : Value} {d : DataW H} {ps : List MemPlace} {r : Reach}
    (hval : Value.okWide Try.prog w r b0 34 v) (hd : DataW.Trod enc Try.prog w base (fun _ => true) held 34 v d ps) : ∃ l : List Int, CameI w v l := by
  obtain ⟨a, len, cap, rfl⟩ := okWide_slice Try.underlying34 hval
  obtain ⟨fuel, hf⟩ := hd
  rcases open_ints Try.underlying34 Try.underlying3 (by kernel_rfl) hf with ⟨hcs, _⟩ | ⟨x, l, c, zs, hcs, _, hl, hm, hz, _, hcell, hwz⟩
  · simp [Value.cells] at hcs
    obtain ⟨rfl, rfl, rfl⟩ := hcs
    exact ⟨[], fun _ => RdI.nil w, by simp, none, 0, rfl⟩
  · simp [Value.cells] at hcs
    obtain ⟨rfl, rfl, rfl⟩ := hcs
    have hz' : zs.length = cap := by simpa using hz
    have hL : (zs.take len).length = len := by simp; omega
    unfold maxLen at hm
    have hr : ∀ i, i < len → ixI (zs.take len) i = zs.getD i 0 := fun i hi => by unfold ixI; simp [List.getElem?_take, hi]
    refine ⟨zs.take len, fun hb => ?_, by rw [hL]; omega, some x, cap, by rw [hL]⟩
    refine ⟨hb, ?_, fun i hi => ?_⟩
    · rw [hL]
      by_cases h0 : len = 0
      · subst h0
        exact ⟨_, cap, 0, 0, rfl, hl, fun i hi => by omega⟩
      · obtain ⟨b, off, rfl, hcc⟩ := ints_at hcell (by omega)
        refine ⟨_, cap, b, off, rfl, hl, fun i hi => ⟨rfl, ?_⟩⟩
        rw [hcc i (by omega), hr i hi]
    · rw [hL] at hi
      have hi' : i < zs.length := by omega
      have hw := hwz (zs[i]) (List.getElem_mem hi')
      rw [hr i hi]
      have e1 : zs.getD i 0 = zs[i] := by simp [hi']
      rw [e1]
      simpa [Lit.wf, IntKind.min, IntKind.max, IntKind.signed, IntKind.bits] using hw
end

theorem Try.sizeU16 : (Try.prog.info? 37).map (·.size) = some 1 := by kernel_rfl
/-- a slice of uint16 that is only read -/
def RdU (w : World) (v : Value) (l : List Int) : Prop :=
  l.length ≤ 17592186044416 ∧ (∃ a cap b off, v = .slice a l.length cap ∧ l.length ≤ cap ∧ ∀ i, i < l.length → a = some ⟨b, off, none⟩ ∧ w.cell? ⟨b, off + i, none⟩ = some (.int .u16 (ixI l i))) ∧ ∀ i, i < l.length → 0 ≤ ixI l i ∧ ixI l i ≤ 65535
def CameU (w : World) (v : Value) (l : List Int) : Prop :=
  (l.length ≤ 17592186044416 → RdU w v l) ∧ l.length ≤ 9223372036854775807 ∧ ∃ a c, v = .slice a l.length c
theorem RdU.nil (w : World) : RdU w (.slice none 0 0) [] := ⟨by simp, ⟨none, 0, 0, 0, rfl, by simp, fun i hi => by simp at hi⟩, fun i hi => by simp at hi⟩
section
variable {H : Type} {enc : TypeId × Value → H} {w : World} {base b0 : Nat} {held : Bool}
theorem open_cu16 {v : Value} {d : DataW H} {ps : List MemPlace} {r : Reach}
    (hval : Value.okWide Try.prog w r b0 33 v) (hd : DataW.Trod enc Try.prog w base (fun _ => true) held 33 v d ps) : ∃ l : List Int, CameU w v l := by
  obtain ⟨a, len, cap, rfl⟩ := okWide_slice Try.underlying33 hval
  obtain ⟨fuel, hf⟩ := hd
  rcases open_ints Try.underlying33 Try.underlying37 (by kernel_rfl) hf with ⟨hcs, _⟩ | ⟨x, l, c, zs, hcs, _, hl, hm, hz, _, hcell, hwz⟩
  · simp [Value.cells] at hcs
    obtain ⟨rfl, rfl, rfl⟩ := hcs
    exact ⟨[], fun _ => RdU.nil w, by simp, none, 0, rfl⟩
  · simp [Value.cells] at hcs
    obtain ⟨rfl, rfl, rfl⟩ := hcs
    have hz' : zs.length = cap := by simpa using hz
    have hL : (zs.take len).length = len := by simp; omega
    unfold maxLen at hm
    have hr : ∀ i, i < len → ixI (zs.take len) i = zs.getD i 0 := fun i hi => by unfold ixI; simp [List.getElem?_take, hi]
    refine ⟨zs.take len, fun hb => ?_, by rw [hL]; omega, some x, cap, by rw [hL]⟩
    refine ⟨hb, ?_, fun i hi => ?_⟩
    · rw [hL]
      by_cases h0 : len = 0
      · subst h0
        exact ⟨_, cap, 0, 0, rfl, hl, fun i hi => by omega⟩
      · obtain ⟨b, off, rfl, hcc⟩ := ints_at hcell (by omega)
        refine ⟨_, cap, b, off, rfl, hl, fun i hi => ⟨rfl, ?_⟩⟩
        rw [hcc i (by omega), hr i hi]
    · rw [hL] at hi
      have hi' : i < zs.length := by omega
      have hw := hwz (zs[i]) (List.getElem_mem hi')
      rw [hr i hi]
      have e1 : zs.getD i 0 = zs[i] := by simp [hi']
      rw [e1]
      simpa [Lit.wf, IntKind.min, IntKind.max, IntKind.signed, IntKind.bits] using hw
end
end Go.Proofs.Ytbijdhdapejjhaa
