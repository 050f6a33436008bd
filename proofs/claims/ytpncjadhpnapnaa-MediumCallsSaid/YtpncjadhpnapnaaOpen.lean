/- Arguments as they come in: opened. -/
import Derived.Test.YtpncjadhpnapnaaLib
import Derived.WalkKit
import Derived.ProofKit
import Derived.OpenShut
import Derived.ShutString
import Derived.ChangeOld
import Derived.Below
namespace Go.Proofs.Ytpncjadhpnapnaa
open Go.ChangeShapes Go.WideShapes Go.ChangeAt Go.RowKit
set_option linter.unusedVariables false

/-- a slice of bytes that came in -/
def Came (w : World) (v : Value) (l : List UInt8) : Prop :=
  (l.length ≤ 140737488351232 → Rd w v l) ∧ l.length ≤ 9223372036854775807 ∧ ∃ a c, v = .slice a l.length c

section
variable {H : Type} {enc : TypeId × Value → H} {P : Program} {w : World} {base b0 : Nat} {held : Bool}
theorem open_bytes {t e : TypeId} {v : Value} {d : DataW H} {ps : List MemPlace} {r : Reach} (ht : P.underlying t = some (.slice e)) (he : P.underlying e = some (.int .u8)) (hc : P.cellsOf e = 1)
    (hval : Value.okWide P w r b0 t v) (hd : DataW.Trod enc P w base (fun _ => true) held t v d ps) : ∃ l : List UInt8, Came w v l := by
  obtain ⟨a, len, cap, rfl⟩ := okWide_slice ht hval
  obtain ⟨fuel, hf⟩ := hd
  rcases open_ints ht he hc hf with ⟨hcs, _⟩ | ⟨x, l, c, zs, hcs, _, hl, hm, hz, _, hcell, hwz⟩
  · simp [Value.cells] at hcs
    obtain ⟨rfl, rfl, rfl⟩ := hcs
    exact ⟨[], fun _ => Rd.nil w, by simp, none, 0, rfl⟩
  · simp [Value.cells] at hcs
    obtain ⟨rfl, rfl, rfl⟩ := hcs
    have hz' : zs.length = cap := by simpa using hz
    have hL : ((zs.take len).map fun n => UInt8.ofNat n.toNat).length = len := by simp; omega
    unfold maxLen at hm
    refine ⟨(zs.take len).map fun n => UInt8.ofNat n.toNat, fun hb => ?_, by rw [hL]; omega, some x, cap, by rw [hL]⟩
    refine ⟨hb, ?_⟩
    rw [hL]
    by_cases h0 : len = 0
    · subst h0
      exact ⟨_, cap, 0, 0, rfl, hl, fun i hi => by omega⟩
    · obtain ⟨b, off, rfl, hcc⟩ := ints_at hcell (by omega)
      refine ⟨_, cap, b, off, rfl, hl, fun i hi => ⟨rfl, ?_⟩⟩
      rw [hcc i (by omega)]
      have hi' : i < zs.length := by omega
      have hw := hwz (zs[i]) (List.getElem_mem hi')
      have hbd : 0 ≤ zs[i] ∧ zs[i] ≤ 255 := by simpa [Lit.wf, IntKind.min, IntKind.max, IntKind.signed, IntKind.bits] using hw
      have e1 : zs.getD i 0 = zs[i] := by simp [hi']
      have e2 : G.ix ((zs.take len).map fun n => UInt8.ofNat n.toNat) i = UInt8.ofNat zs[i].toNat := by
        simp [G.ix, hi, hi']
      rw [e1, e2, B, G.toNat_of (by omega)]
      congr 2
      omega
end
theorem bd_u8 {a : Int} (h : (Lit.int .u8 a).wf = true) : 0 ≤ a ∧ a ≤ 255 := by simpa [Lit.wf, IntKind.min, IntKind.max, IntKind.signed, IntKind.bits] using h
theorem bd_i64 {a : Int} (h : (Lit.int .i64 a).wf = true) : -9223372036854775808 ≤ a ∧ a ≤ 9223372036854775807 := by simpa [Lit.wf, IntKind.min, IntKind.max, IntKind.signed, IntKind.bits] using h
theorem nat_u8 {a : Int} (h : (Lit.int .u8 a).wf = true) : ∃ n : Nat, a = n ∧ n < 256 := by
  have := bd_u8 h
  exact ⟨a.toNat, by omega, by omega⟩
theorem byte_u8 {a : Int} (h : (Lit.int .u8 a).wf = true) : ∃ c : UInt8, a = c.toNat := by
  obtain ⟨n, rfl, hn⟩ := nat_u8 h
  exact ⟨UInt8.ofNat n, by rw [G.toNat_of hn]⟩
end Go.Proofs.Ytpncjadhpnapnaa
