/- A map of ints, whatever its elements are: its keys within bounds bound its size; what a map of entries of any kind holds, as raw values. -/
import Derived.Test.YtpncjadhpnapnaaChecked
import Derived.Maps.OwnOps
import Derived.Maps.OwnSet
import Derived.Maps.Views
import Derived.Maps.Range
import Derived.Lib.SlKeysI
import Derived.Below
namespace Go.Proofs.Ytpncjadhpnapnaa.Mp
open Go.RowKit Go.Maps Go.MapKept
set_option linter.unusedVariables false

section
variable {H : Type} {R : Value → Option (DataW H × List MemPlace)} {w : World} {b n : Nat} {D : DataW H}
theorem keyedI : Keyed Try.prog 3 := int_keyed Try.underlying3
theorem perm_keysI (hown : w.ownsMap Try.prog 3 R b n D) {K : List Int} (hK : K.Nodup) (hm : ∀ x, x ∈ K ↔ Maps.has D (.int .i64 x) = true) : K.Perm (intKeys D) := by
  obtain ⟨es, hD, hpw, _⟩ := hown.entries keyedI
  obtain ⟨es', hD', hko⟩ := hown.keysOf
  obtain rfl : es = es' := by rw [hD] at hD'; simpa using hD'
  subst hD
  exact perm_intKeys hpw (fun p hp => by obtain ⟨v, hv⟩ := hko p hp; obtain ⟨x, _, hx, _⟩ := Maps.keyOf_i64 Try.underlying3 hv; exact ⟨x, hx⟩) hK hm
/-- its keys, in order, where they are below 'N' -/
def keysB (D : DataW H) (N : Nat) : List Int := ((List.range N).filter fun k => Maps.has D (.int .i64 (k : Nat))).map Int.ofNat
theorem mem_keysB {N : Nat} (hk : ∀ x : Int, Maps.has D (.int .i64 x) = true → 0 ≤ x ∧ x < N) (x : Int) : x ∈ keysB D N ↔ Maps.has D (.int .i64 x) = true := by
  unfold keysB
  simp only [List.mem_map, List.mem_filter, List.mem_range]
  constructor
  · rintro ⟨k, ⟨_, h⟩, rfl⟩; exact h
  · intro h
    obtain ⟨h1, h2⟩ := hk x h
    obtain ⟨y, rfl⟩ : ∃ y : Nat, x = y := ⟨x.toNat, by omega⟩
    exact ⟨y, ⟨by omega, h⟩, rfl⟩
theorem keysB_sorted (D : DataW H) (N : Nat) : (keysB D N).Pairwise (· < ·) := by
  unfold keysB
  rw [List.pairwise_map]
  exact (List.Pairwise.filter _ List.pairwise_lt_range).imp fun h => by simpa using h
theorem keysB_length (D : DataW H) (N : Nat) : (keysB D N).length ≤ N := by
  unfold keysB
  rw [List.length_map]
  exact Nat.le_trans (List.length_filter_le _ _) (by simp)
theorem tight {N : Nat} (hown : w.ownsMap Try.prog 3 R b n D) (hk : ∀ x : Int, Maps.has D (.int .i64 x) = true → 0 ≤ x ∧ x < N) : w.ownsMap Try.prog 3 R b N D := by
  have hnd : (keysB D N).Nodup := (keysB_sorted D N).imp fun h e => by omega
  have hp := perm_keysI hown hnd (mem_keysB hk)
  have hl := hp.length_eq
  have hb := keysB_length D N
  obtain ⟨es0, hD, _, _⟩ := hown.entries keyedI
  subst hD
  have e : (intKeys (DataW.map es0)).length = Maps.size (DataW.map es0) := by simp [intKeys, Maps.size]
  obtain ⟨es, clock, hb0, F, hs, hD⟩ := hown
  refine ⟨es, clock, hb0, F, ?_, hD⟩
  have e2 : Maps.size (DataW.map es0) = es.size := by rw [hD]; simp [Maps.size, length_sorted]
  omega
end
theorem intOf_has {H : Type} {D : DataW H} {x : Int} {es : List (Lit × DataW H)} (hD : D = .map es) (hko : ∀ p ∈ es, ∃ x, p.1 = .int .i64 x) (h : x ∈ intKeys D) : Maps.has D (.int .i64 x) = true := by
  subst hD
  simp only [intKeys, List.mem_map] at h
  obtain ⟨p, hp, rfl⟩ := h
  obtain ⟨y, hy⟩ := hko p hp
  rw [has_eq, List.any_eq_true]
  refine ⟨p, hp, ?_⟩
  rw [hy]
  simp [Lit.sameKey, intOf]
/-- an entry of any kind, as it is -/
def rawE (v : Value) : Option (DataW Value × List MemPlace) := some (.held v, [])
end Go.Proofs.Ytpncjadhpnapnaa.Mp
