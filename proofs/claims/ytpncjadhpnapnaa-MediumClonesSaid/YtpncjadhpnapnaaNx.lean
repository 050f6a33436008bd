/- Chapter 9: Fits and covered of the reference walked. -/
import Derived.Test.YtpncjadhpnapnaaNw
namespace Go.Proofs.Ytpncjadhpnapnaa.C9
open Go.RowKit D13
set_option linter.unusedVariables false

/-- the first 'k' scratches fit -/
def fitK (n : Nat) (l : List Sc) (k : Nat) : Prop := ∀ m, m < k → fitB n (scA l m) = true
theorem scA_get {l : List Sc} {i : Nat} (h : i < l.length) : scA l i = l[i] := by simp [scA, atD, h]
theorem fitA_true {n : Nat} {l : List Sc} (h : fitK n l l.length) : fitA n l = true := by
  unfold fitA
  rw [List.all_eq_true]
  intro s hs
  obtain ⟨i, hi, rfl⟩ := List.getElem_of_mem hs
  rw [← scA_get hi]
  exact h i hi
theorem fitA_false {n : Nat} {l : List Sc} {k : Nat} (hk : k < l.length) (h : fitB n (scA l k) = false) : fitA n l = false := by
  rw [Bool.eq_false_iff]
  intro h2
  unfold fitA at h2
  rw [List.all_eq_true] at h2
  have := h2 _ (List.getElem_mem hk)
  rw [← scA_get hk, h] at this
  exact absurd this (by decide)
theorem fitA_at {n : Nat} {l : List Sc} (h : fitA n l = true) {k : Nat} (hk : k < l.length) : fitB n (scA l k) = true := by
  unfold fitA at h
  rw [List.all_eq_true] at h
  rw [scA_get hk]
  exact h _ (List.getElem_mem hk)
theorem gt_false {a b : Int} (h : ¬ a < b) : decide (a < b) = false := decide_eq_false h
set_option maxRecDepth 100000 in
set_option maxHeartbeats 2000000 in
theorem rfits_any (v : Value) (l : List Sc) (n : Nat) (w : World) (hr : RdSc w v l) (hwf : ∀ i, i < l.length → Wf (scA l i)) (hl : l.length ≤ 9223372036854775807) (hn : n ≤ 1000000000) :
    Calls Try.prog 50 #[.int .i64 n, v] w (RV (.bool (fitA n l)) w) := by
  obtain ⟨a, c, rfl, hac⟩ := RdD.form hr
  obtain ⟨b0, off, hcell⟩ := RdD.at hr
  have HC := Lib.hid hcell; clear hcell
  have HW := Lib.hid hwf; clear hwf
  clear hr
  go_enter Try.func50, Try.ntmps50
  go_wp2_with fail
  go_loopw [5] (fun vi wr => ∃ (i : Nat), i ≤ l.length ∧ vi = .int .i64 i ∧ Hid (fitK n l i) ∧ Below w.heap.size w wr) (fun vi _ => l.length - (intOf vi).toNat)
  case atStart => exact ⟨0, by omega, rfl, Lib.hid fun m hm => by omega, Below.refl _ _⟩
  case round =>
    obtain ⟨i, hi, rfl, HO, hb⟩ := hrel
    by_cases hlt : i < l.length
    · obtain ⟨ha, hrange⟩ := HC.out i hlt
      have HF := Lib.hid (fun h => fitA_false (n := n) hlt h)
      have hw9 := HW.out i hlt
      have HS : Hid (fitB n (scA l i) = true → fitK n l (i + 1)) := Lib.hid fun h m hm => by
        by_cases e : m < i
        · exact HO.out m e
        · have : m = i := by omega
          rw [this]; exact h
      change w.rangeAt b0 (off + i * 2) (scc (scA l i)) at hrange
      generalize scA l i = x at *
      obtain ⟨xf, xc⟩ := x
      have hrg : wr.rangeAt b0 (off + i * 2) (scc ⟨xf, xc⟩) := fun j u hu => (hb.cell (p := ⟨b0, off + i * 2 + j, none⟩) (World.block_lt_of_cell? w _ (hrange j u hu))).trans (hrange j u hu)
      clear hrange
      obtain ⟨hc0, hc1⟩ := rd2 hrg
      clear hrg
      simp only at hc0 hc1
      obtain ⟨⟨f1, f2⟩, c1, c2⟩ := hw9
      simp only at f1 f2 c1 c2
      have hix := fun w' => run_idxS Try.underlying22 Try.sizeSc (cap := c) ha hlt _ rfl w'
      have Ha := Lib.hid ha; clear ha
      have no : ∀ (h : ¬ (0 ≤ xf ∧ 1 ≤ xc ∧ xc ≤ (n : Int) ∧ xf ≤ (n : Int) - xc)), fitB n ⟨xf, xc⟩ = false := fun h => by
        rw [Bool.eq_false_iff]; intro h2; exact h ((fitB_iff n ⟨xf, xc⟩).1 h2)
      have NO := Lib.hid no; clear no
      by_cases g1 : xf < 0
      · have d1 : decide (xf < 0) = true := decide_eq_true g1
        rw [HF.out (NO.out (by omega))]
        go_wp2_with fail
        go_quiet (fail)
        go_wp2_with fail
        go_ret
        exact ⟨rfl, Below.drewN hb _⟩
      have d1 : decide (xf < 0) = false := decide_eq_false g1
      by_cases g2 : xc < 1
      · have d2 : decide (xc < 1) = true := decide_eq_true g2
        rw [HF.out (NO.out (by omega))]
        go_wp2_with fail
        go_quiet (fail)
        go_wp2_with fail
        go_ret
        exact ⟨rfl, Below.drewN hb _⟩
      have d2 : decide (xc < 1) = false := decide_eq_false g2
      by_cases g3 : (n : Int) < xf
      · have d3 : decide ((n : Int) < xf) = true := decide_eq_true g3
        rw [HF.out (NO.out (by omega))]
        go_wp2_with fail
        go_quiet (fail)
        go_wp2_with fail
        go_ret
        exact ⟨rfl, Below.drewN hb _⟩
      have d3 : decide ((n : Int) < xf) = false := decide_eq_false g3
      have hwr : IntKind.i64.wrap ((n : Int) - xf) = (n : Int) - xf := IntWalk.i64_in _ (by omega)
      by_cases g4 : (n : Int) - xf < xc
      · have d4 : decide ((n : Int) - xf < xc) = true := decide_eq_true g4
        rw [HF.out (NO.out (by omega))]
        go_wp2_with fail
        go_quiet (fail)
        go_wp2_with fail
        go_ret
        exact ⟨rfl, Below.drewN hb _⟩
      have d4 : decide ((n : Int) - xf < xc) = false := decide_eq_false g4
      have hs := HS.out ((fitB_iff n ⟨xf, xc⟩).2 ⟨by simp only; omega, by simp only; omega, by simp only; omega, by simp only; omega⟩)
      have HS2 := Lib.hid hs; clear hs
      go_wp2_with fail
      go_quiet (fail)
      clear hwr
      go_wp2_with fail
      go_roundw
      case rel => exact ⟨i + 1, by omega, by go_num, HS2, Below.drewN hb _⟩
      case measure => simp [intOf]; omega
    · obtain rfl : i = l.length := by omega
      have HT : Hid (fitA n l = true) := Lib.hid (fitA_true HO.out)
      go_wp2_with fail
      go_ret
      exact ⟨by rw [HT.out]; rfl, hb⟩
end Go.Proofs.Ytpncjadhpnapnaa.C9
