/- Chapter 12: Damage walked. -/
import Derived.Test.YtpncjadhpnapnaaFf
namespace Go.Proofs.Ytpncjadhpnapnaa.D12
open Go.RowKit Go.Maps C9
open D13 (RdI ixI)
set_option linter.unusedVariables false

set_option maxRecDepth 100000 in
theorem offset12 (x : Int) (w : World) : Calls Try.prog 46 #[.int .i64 x] w fun e w' => e = .returned (.bool (decide (0 ≤ x ∧ x < 2352))) ∧ w = w' := by
  by_cases h0 : 0 ≤ x
  · by_cases h1 : x < 2352
    · rw [decide_eq_true ⟨h0, h1⟩]
      go_enter Try.func46, Try.ntmps46
      go_wp2_with fail
      go_ret
      exact ⟨retB12 (by simp), rfl⟩
    · rw [decide_eq_false fun e => h1 e.2]
      go_enter Try.func46, Try.ntmps46
      go_wp2_with fail
      go_ret
      exact ⟨retB12 (by simp), rfl⟩
  · rw [decide_eq_false fun e => h0 e.1]
    go_enter Try.func46, Try.ntmps46
    go_wp2_with fail
    go_ret
    exact ⟨retB12 (by simp), rfl⟩
/-- changes as cells -/
def chc (c : Int × Int) : List Value := [.int .i64 c.1, .int .i64 c.2]
theorem chc_len (c : Int × Int) : (chc c).length = 2 := rfl
def RdCh (w : World) (v : Value) (l : List (Int × Int)) : Prop := RdD (0, 0) chc 2 w v l
def chA (l : List (Int × Int)) (i : Nat) : Int × Int := atD (0, 0) l i
def In64 (x : Int) : Prop := -9223372036854775808 ≤ x ∧ x ≤ 9223372036854775807
/-- damage that came in -/
structure DamV (w : World) (vE vC : Value) (d : Dam) : Prop where
  er : RdI w vE d.er
  ch : RdCh w vC d.ch
  lba : In64 d.lba
  len : d.ch.length ≤ 1000000000000
  wf : ∀ i, i < d.ch.length → In64 (chA d.ch i).1 ∧ In64 (chA d.ch i).2
theorem DamV.below {w w' : World} {vE vC : Value} {d : Dam} (h : DamV w vE vC d) (hb : Below w.heap.size w w') : DamV w' vE vC d := ⟨h.er.keep hb, RdD.keep h.ch hb, h.lba, h.len, h.wf⟩
def damv (vE vC : Value) (d : Dam) : Value := .agg #[.int .i64 d.lba, vE, vC]
def erK (l : List Int) (k : Nat) : Prop := (∀ i, i < k → 0 ≤ ixI l i ∧ ixI l i < 2352) ∧ ∀ i, i + 1 < k → ixI l i < ixI l (i + 1)
theorem erK_all {l : List Int} (h : erK l l.length) : (∀ x ∈ l, 0 ≤ x ∧ x < 2352) ∧ l.Pairwise (· < ·) := by
  refine ⟨fun x hx => ?_, ?_⟩
  · obtain ⟨i, hi, rfl⟩ := List.getElem_of_mem hx
    have := h.1 i hi
    rwa [D13.ixI_get hi] at this
  · rw [List.pairwise_iff_getElem]
    have key : ∀ d i, i + d + 1 < l.length → ixI l i < ixI l (i + d + 1) := by
      intro d
      induction d with
      | zero => intro i hi; exact h.2 i hi
      | succ d ih =>
        intro i hi
        have h1 := ih i (by omega)
        have h2 := h.2 (i + d + 1) (by omega)
        have e : i + (d + 1) + 1 = i + d + 1 + 1 := by omega
        rw [e]
        omega
    intro i j hi hj hij
    have := key (j - i - 1) i (by omega)
    have e : i + (j - i - 1) + 1 = j := by omega
    rw [e, D13.ixI_get hi, D13.ixI_get hj] at this
    exact this
theorem erK_not {l : List Int} {k : Nat} (hk : k < l.length) (h : ¬ erK l (k + 1)) (h0 : erK l k) : ¬ ((∀ x ∈ l, 0 ≤ x ∧ x < 2352) ∧ l.Pairwise (· < ·)) := by
  rintro ⟨h1, h2⟩
  refine h ⟨fun i hi => h1 _ (D13.ixI_mem (by omega)), fun i hi => ?_⟩
  rw [List.pairwise_iff_getElem] at h2
  have := h2 i (i + 1) (by omega) (by omega) (by omega)
  rw [D13.ixI_get (by omega), D13.ixI_get (by omega)]
  exact this
theorem erK_step {l : List Int} {k : Nat} (h : erK l k) : erK l (k + 1) ↔ (0 ≤ ixI l k ∧ ixI l k < 2352) ∧ (0 < k → ixI l (k - 1) < ixI l k) := by
  constructor
  · rintro ⟨h1, h2⟩
    refine ⟨h1 k (by omega), fun h0 => ?_⟩
    have := h2 (k - 1) (by omega)
    have e : k - 1 + 1 = k := by omega
    rwa [e] at this
  · rintro ⟨h1, h2⟩
    refine ⟨fun i hi => ?_, fun i hi => ?_⟩
    · by_cases e : i = k
      · rw [e]; exact h1
      · exact h.1 i (by omega)
    · by_cases e : i + 1 = k
      · have := h2 (by omega)
        have e2 : k - 1 = i := by omega
        rw [e2] at this
        rw [e]; exact this
      · exact h.2 i (by omega)
end Go.Proofs.Ytpncjadhpnapnaa.D12
