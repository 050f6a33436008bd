/- The law ReedsolomonCodes: the walk. -/
import Derived.Test.YtbijdhdapejjhaaAw4
import Derived.Test.YtbijdhdapejjhaaRef4b
import Derived.Test.YtbijdhdapejjhaaOpen
namespace Go.Proofs.Ytbijdhdapejjhaa
open Go.RowKit
set_option linter.unusedVariables false

namespace G
def encR (l : List UInt8) (n : Int) : List UInt8 × Int := if encB l n then (enc l n.toNat, 0) else ([], 1)
def synR (l : List UInt8) (n : Int) : List UInt8 × Int := if shapedB l n then (synd l n.toNat, 0) else ([], 1)
theorem encB_iff (l : List UInt8) (n : Int) : encB l n = true ↔ 1 ≤ n ∧ n ≤ 16 ∧ l ≠ [] ∧ (l.length : Int) + n ≤ 255 := by simp [encB, and_assoc]
theorem encR_ok {l : List UInt8} {n : Int} (h : encB l n = true) : encR l n = (enc l n.toNat, 0) := by rw [encR, if_pos h]
theorem encR_bad {l : List UInt8} {n : Int} (h : encB l n = false) : encR l n = ([], 1) := by rw [encR, if_neg (by simp [h])]
theorem encR_len (l : List UInt8) (n : Int) : (encR l n).1.length ≤ 255 := by
  cases h : encB l n with
  | true =>
    have := (encB_iff l n).1 h
    rw [encR_ok h, enc_length]; omega
  | false => rw [encR_bad h]; simp
theorem encR_code (l : List UInt8) (n : Int) : (encR l n).2 = 0 ∨ (encR l n).2 = 1 := by
  unfold encR; split <;> simp
end G

theorem encode_any (l : List UInt8) (n : Int) (w : World) (hl : l.length ≤ 9223372036854775000) (h1 : -9223372036854775808 ≤ n) (h2 : n ≤ 9223372036854775807) :
    Calls Try.prog 12 #[.string (str l), .int .i64 n] w fun e w' => e = .returned (.tuple #[.string (str (G.encR l n).1), .int .i64 (G.encR l n).2]) ∧ Below w.heap.size w w' := by
  cases h : G.encB l n with
  | false =>
    rw [G.encR_bad h]
    exact (encode_bad l n w hl h1 h2 h).mono fun e w' ⟨h, hw⟩ => ⟨h, by rw [hw]; exact Below.refl _ _⟩
  | true =>
    obtain ⟨g1, g2, g3, g4⟩ := (G.encB_iff l n).1 h
    obtain ⟨m, rfl⟩ : ∃ m : Nat, n = m := ⟨n.toNat, by omega⟩
    rw [G.encR_ok h]
    exact encode_ok l m w g3 (by omega) (by omega) (by omega)
theorem rencode_any (l : List UInt8) (n : Int) (w : World) (hl : l.length ≤ 9223372036854775000) (h1 : -9223372036854775808 ≤ n) (h2 : n ≤ 9223372036854775807) :
    Calls Try.prog 13 #[.string (str l), .int .i64 n] w fun e w' => e = .returned (.tuple #[.string (str (G.encR l n).1), .int .i64 (G.encR l n).2]) ∧ Below w.heap.size w w' := by
  cases h : G.encB l n with
  | false =>
    rw [G.encR_bad h]
    exact (rencode_bad l n w hl h1 h2 h).mono fun e w' ⟨h, hw⟩ => ⟨h, by rw [hw]; exact Below.refl _ _⟩
  | true =>
    obtain ⟨g1, g2, g3, g4⟩ := (G.encB_iff l n).1 h
    obtain ⟨m, rfl⟩ : ∃ m : Nat, n = m := ⟨n.toNat, by omega⟩
    rw [G.encR_ok h]
    exact rencode_ok l m w g3 (by omega) (by omega) (by omega)
theorem syndromes_any (l : List UInt8) (n : Int) (w : World) (hl : l.length ≤ 9223372036854775807) :
    Calls Try.prog 14 #[.string (str l), .int .i64 n] w fun e w' => ∃ v, e = .returned (.tuple #[v, .int .i64 (G.synR l n).2]) ∧ Rd w' v (G.synR l n).1 ∧ Below w.heap.size w w' := by
  cases h : G.shapedB l n with
  | false =>
    have e1 : G.synR l n = ([], 1) := by rw [G.synR, if_neg (by simp [h])]
    rw [e1]
    exact (syndromes_bad l n w hl h).mono fun e w' ⟨h, hw⟩ => ⟨_, h, Rd.nil _, by rw [hw]; exact Below.refl _ _⟩
  | true =>
    obtain ⟨g1, g2, g3, g4, g5⟩ := (G.shapedB_iff l n).1 h
    obtain ⟨m, rfl⟩ : ∃ m : Nat, n = m := ⟨n.toNat, by omega⟩
    have e1 : G.synR l m = (G.synd l m, 0) := by rw [G.synR, if_pos h]; rfl
    rw [e1]
    exact (syndromes_ok l m w h).mono fun e w' ⟨v, h, ho, hb⟩ => ⟨v, h, Rd.ofOwn' ho (by omega), hb⟩
theorem rsyndromes_any (l : List UInt8) (n : Int) (w : World) (hl : l.length ≤ 9223372036854775807) :
    Calls Try.prog 15 #[.string (str l), .int .i64 n] w fun e w' => ∃ v, e = .returned (.tuple #[v, .int .i64 (G.synR l n).2]) ∧ Rd w' v (G.synR l n).1 ∧ Below w.heap.size w w' := by
  cases h : G.shapedB l n with
  | false =>
    have e1 : G.synR l n = ([], 1) := by rw [G.synR, if_neg (by simp [h])]
    rw [e1]
    exact (rsyndromes_bad l n w hl h).mono fun e w' ⟨h, hw⟩ => ⟨_, h, Rd.nil _, by rw [hw]; exact Below.refl _ _⟩
  | true =>
    obtain ⟨g1, g2, g3, g4, g5⟩ := (G.shapedB_iff l n).1 h
    obtain ⟨m, rfl⟩ : ∃ m : Nat, n = m := ⟨n.toNat, by omega⟩
    have e1 : G.synR l m = (G.synd l m, 0) := by rw [G.synR, if_pos h]; rfl
    rw [e1]
    exact (rsyndromes_ok l m w h).mono fun e w' ⟨v, h, ho, hb⟩ => ⟨v, h, ho, hb⟩

set_option maxRecDepth 100000 in
set_option maxHeartbeats 2000000 in
theorem codes_walk (w : World) (l : List UInt8) (n : Int) (hl : l.length ≤ 9223372036854775807) (h1 : -9223372036854775808 ≤ n) (h2 : n ≤ 9223372036854775807) :
    Calls Try.prog 3 #[.string (str l), .int .i64 n] w fun e w' => e = .returned (.bool true) ∧ Below w.heap.size w w' := by
  have hs := str_size l
  by_cases hbig : 60 < l.length
  · have hd : decide ((60 : Int) < l.length) = true := by rw [decide_eq_true_eq]; omega
    go_enter Try.func3, Try.ntmps3
    go_wp2_with fail
    refine (awake_any _).mono ?_
    rintro e w1 ⟨rfl, hb1⟩
    go_wp2_with fail
    go_ret
    exact ⟨rfl, hb1⟩
  · have hd : decide ((60 : Int) < l.length) = false := by rw [decide_eq_false_iff_not]; omega
    go_enter Try.func3, Try.ntmps3
    go_wp2_with fail
    refine (awake_any _).mono ?_
    rintro e w1 ⟨rfl, hb1⟩
    go_wp2_with fail
    refine (encode_any l n _ (by omega) h1 h2).mono ?_
    rintro e w2 ⟨rfl, hb2⟩
    have hB2 := hb1.trans (hb2.mono hb1.size)
    clear hb1 hb2
    go_wp2_with fail
    refine (rencode_any l n _ (by omega) h1 h2).mono ?_
    rintro e w3 ⟨rfl, hb3⟩
    have hB3 := hB2.trans (hb3.mono hB2.size)
    clear hB2 hb3
    go_wp2_with fail
    refine (syndromes_any l n _ hl).mono ?_
    rintro e w4 ⟨v4, rfl, hr4, hb4⟩
    have hB4 := hB3.trans (hb4.mono hB3.size)
    clear hB3 hb4
    go_wp2_with fail
    refine (rsyndromes_any l n _ hl).mono ?_
    rintro e w5 ⟨v5, rfl, hr5, hb5⟩
    have hB5 := hB4.trans (hb5.mono hB4.size)
    have hr4 := hr4.keep hb5
    clear hB4 hb5
    go_wp2_with fail
    refine (bytes_any _ _ _ _ _ hr4 hr5).mono ?_
    rintro e w6 ⟨rfl, rfl⟩
    rw [beq_self_eq_true]
    go_wp2_with fail
    refine (valid_any l n _ hl).mono ?_
    rintro e w7 ⟨rfl, hb7⟩
    have hB7 := hB5.trans (hb7.mono hB5.size)
    clear hB5 hb7 hr4 hr5
    go_wp2_with fail
    refine (rvalid_any l n _ hl).mono ?_
    rintro e w8 ⟨rfl, hb8⟩
    have hB8 := hB7.trans (hb8.mono hB7.size)
    clear hB7 hb8
    go_wp2_with fail
    go_ret
    exact ⟨rfl, hB8⟩

theorem codes_law (w : World) (s : ByteArray) (hs : s.size ≤ maxLen) (n : Int) (wn : (Lit.int .i64 n).wf = true) :
    Calls Try.prog 3 #[.string s, .int .i64 n] w fun e w' => e = .returned (.bool true) ∧ Below w.heap.size w w' := by
  have h := bd_i64 wn
  rw [str_list s]
  unfold maxLen at hs
  exact codes_walk w _ n (by rw [Array.length_toList]; exact hs) h.1 h.2
end Go.Proofs.Ytbijdhdapejjhaa
