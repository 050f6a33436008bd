/- The law ReedsolomonCodes: the walk. -/
import Derived.Test.YtepdcpbgdfjobaaAw4
import Derived.Test.YtepdcpbgdfjobaaRef4b
import Derived.Test.YtepdcpbgdfjobaaOpen
namespace Go.Proofs.Ytepdcpbgdfjobaa
open Go.RowKit
set_option linter.unusedVariables false

namespace G
def encR (l : List UInt8) (n : Int) : List UInt8 × Int := if encB l n then (enc l n.toNat, 0) else ([], 1)
def synR (l : List UInt8) (n : Int) : List UInt8 × Int := if shapedB l n then (synd l n.toNat, 0) else ([], 1)
theorem encB_iff (l : List UInt8) (n : Int) : encB l n = true ↔ 1 ≤ n ∧ n ≤ 16 ∧ l ≠ [] ∧ (l.length : Int) + n ≤ 255 := by simp [encB, and_assoc]
theorem encR_ok {l : List UInt8} {n : Int} (h : encB l n = true) : encR l n = (enc l n.toNat, 0) := by rw [encR, if_pos h]
theorem encR_bad {l : List UInt8} {n : Int} (h : encB l n = false) : encR l n = ([], 1) := by rw [encR, if_neg (by simp [h])]
theorem encR_len (l : List UInt8) (n : Int) : (encR l n).1.length ≤ 255 := by
  cases h : encB l n with
  | true =>
    have := (encB_iff l n).1 h
    rw [encR_ok h, enc_length]; omega
  | false => rw [encR_bad h]; simp
theorem encR_code (l : List UInt8) (n : Int) : (encR l n).2 = 0 ∨ (encR l n).2 = 1 := by
  unfold encR; split <;> simp
end G

theorem encode_any (l : List UInt8) (n : Int) (w : World) (hl : l.length ≤ 9223372036854775000) (h1 : -9223372036854775808 ≤ n) (h2 : n ≤ 9223372036854775807) :
    Calls Try.prog 36 #[.string (str l), .int .i64 n] w fun e w' => e = .returned (.tuple #[.string (str (G.encR l n).1), .int .i64 (G.encR l n).2]) ∧ Below w.heap.size w w' := by
  cases h : G.encB l n with
  | false =>
    rw [G.encR_bad h]
    exact (encode_bad l n w hl h1 h2 h).mono fun e w' ⟨h, hw⟩ => ⟨h, by rw [hw]; exact Below.refl _ _⟩
  | true =>
    obtain ⟨g1, g2, g3, g4⟩ := (G.encB_iff l n).1 h
    obtain ⟨m, rfl⟩ : ∃ m : Nat, n = m := ⟨n.toNat, by omega⟩
    rw [G.encR_ok h]
    exact encode_ok l m w g3 (by omega) (by omega) (by omega)
theorem rencode_any (l : List UInt8) (n : Int) (w : World) (hl : l.length ≤ 9223372036854775000) (h1 : -9223372036854775808 ≤ n) (h2 : n ≤ 9223372036854775807) :
    Calls Try.prog 40 #[.string (str l), .int .i64 n] w fun e w' => e = .returned (.tuple #[.string (str (G.encR l n).1), .int .i64 (G.encR l n).2]) ∧ Below w.heap.size w w' := by
  cases h : G.encB l n with
  | false =>
    rw [G.encR_bad h]
    exact (rencode_bad l n w hl h1 h2 h).mono fun e w' ⟨h, hw⟩ => ⟨h, by rw [hw]; exact Below.refl _ _⟩
  | true =>
    obtain ⟨g1, g2, g3, g4⟩ := (G.encB_iff l n).1 h
    obtain ⟨m, rfl⟩ : ∃ m : Nat, n = m := ⟨n.toNat, by omega⟩
    rw [G.encR_ok h]
    exact rencode_ok l m w g3 (by omega) (by omega) (by omega)
theorem syndromes_any (l : List UInt8) (n : Int) (w : World) (hl : l.length ≤ 9223372036854775807) :
    Calls Try.prog 88 #[.string (str l), .int .i64 n] w fun e w' => ∃ v, e = .returned (.tuple #[v, .int .i64 (G.synR l n).2]) ∧ Rd w' v (G.synR l n).1 ∧ Below w.heap.size w w' := by
  cases h : G.shapedB l n with
  | false =>
    have e1 : G.synR l n = ([], 1) := by rw [G.synR, if_neg (by simp [h])]
    rw [e1]
    exact (syndromes_bad l n w hl h).mono fun e w' ⟨h, hw⟩ => ⟨_, h, Rd.nil _, by rw [hw]; exact Below.refl _ _⟩
  | true =>
    obtain ⟨g1, g2, g3, g4, g5⟩ := (G.shapedB_iff l n).1 h
    obtain ⟨m, rfl⟩ : ∃ m : Nat, n = m := ⟨n.toNat, by omega⟩
    have e1 : G.synR l m = (G.synd l m, 0) := by rw [G.synR, if_pos h]; rfl
    rw [e1]
    exact (syndromes_ok l m w h).mono fun e w' ⟨v, h, ho, hb⟩ => ⟨v, h, Rd.ofOwn' ho (by omega), hb⟩
theorem rsyndromes_any (l : List UInt8) (n : Int) (w : World) (hl : l.length ≤ 9223372036854775807) :
    Calls Try.prog 66 #[.string (str l), .int .i64 n] w fun e w' => ∃ v, e = .returned (.tuple #[v, .int .i64 (G.synR l n).2]) ∧ Rd w' v (G.synR l n).1 ∧ Below w.heap.size w w' := by
  cases h : G.shapedB l n with
  | false =>
    have e1 : G.synR l n = ([], 1) := by rw [G.synR, if_neg (by simp [h])]
    rw [e1]
    exact (rsyndromes_bad l n w hl h).mono fun e w' ⟨h, hw⟩ => ⟨_, h, Rd.nil _, by rw [hw]; exact Below.refl _ _⟩
  | true =>
    obtain ⟨g1, g2, g3, g4, g5⟩ := (G.shapedB_iff l n).1 h
    obtain ⟨m, rfl⟩ : ∃ m : Nat, n = m := ⟨n.toNat, by omega⟩
    have e1 : G.synR l m = (G.synd l m, 0) := by rw [G.synR, if_pos h]; rfl
    rw [e1]
    exact (rsyndromes_ok l m w h).mono fun e w' ⟨v, h, ho, hb⟩ => ⟨v, h, ho, hb⟩

end Go.Proofs.Ytepdcpbgdfjobaa
