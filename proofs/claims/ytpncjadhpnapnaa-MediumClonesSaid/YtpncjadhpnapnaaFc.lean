/- Chapter 12: the small functions of a medium walked. -/
import Derived.Test.YtpncjadhpnapnaaFb
namespace Go.Proofs.Ytpncjadhpnapnaa.D12
open Go.RowKit Go.Maps C9
open D13 (RdI)
set_option linter.unusedVariables false

theorem retB12 {a b : Bool} (h : a = b) : (Ending.returned (.bool a)) = .returned (.bool b) := by rw [h]
set_option maxRecDepth 100000 in
set_option maxHeartbeats 1000000 in
theorem has12 {w : World} {g : Nat} {L : Lay} {M : Med} {X R : Nat → Prop} (h : MedC w g L M X R) (hn : M.n ≤ 4096) (b : Int) :
    Calls Try.prog 38 #[.pointer (some ⟨g, 0, none⟩), .int .i64 b] w fun e w' => e = .returned (.bool (decide (0 ≤ b ∧ b < M.n))) ∧ w = w' := by
  obtain ⟨c0, c1, c2, c3, c4⟩ := h.cells
  have e := h.n
  rw [e] at c2
  generalize M.n = n at *
  clear h e
  by_cases h0 : 0 ≤ b
  · by_cases h1 : b < (n : Int)
    · rw [decide_eq_true ⟨h0, h1⟩]
      go_enter Try.func38, Try.ntmps38
      go_wp2_with fail
      go_ret
      exact ⟨retB12 (by simp), rfl⟩
    · rw [decide_eq_false fun e => h1 e.2]
      go_enter Try.func38, Try.ntmps38
      go_wp2_with fail
      go_ret
      exact ⟨retB12 (by simp), rfl⟩
  · rw [decide_eq_false fun e => h0 e.1]
    go_enter Try.func38, Try.ntmps38
    go_wp2_with fail
    go_ret
    exact ⟨retB12 (by simp), rfl⟩
def RetQ (v : Value) (w : World) (e : Ending) (w' : World) : Prop := e = .returned v ∧ Below w.heap.size w w'
set_option maxRecDepth 100000 in
set_option maxHeartbeats 1000000 in
theorem state12 {w : World} {g : Nat} {M : Med} {X R : Nat → Prop} (h : MedW w g M X R) (hn : M.n ≤ 4096) (b : Int) :
    Calls Try.prog 19 #[.pointer (some ⟨g, 0, none⟩), .int .i64 b] w (RetQ (.tuple #[.int .i64 (M.stateR b).1, .int .i64 (M.stateR b).2]) w) := by
  obtain ⟨L, h⟩ := h
  obtain ⟨c0, c1, c2, c3, c4⟩ := h.cells
  have HH := Lib.hid (has12 h hn b)
  have e := h.n
  have HS := Lib.hid h
  rw [e] at c2
  clear h
  unfold Med.stateR
  by_cases hr : 0 ≤ b ∧ b < (M.n : Int)
  · rw [if_pos hr]
    rw [decide_eq_true hr] at HH
    obtain ⟨k, rfl⟩ : ∃ k : Nat, b = k := ⟨b.toNat, by omega⟩
    have hk : k < M.n := by omega
    have s0 := HS.out.surf (i := k) (j := 0) (by omega) (by decide)
    simp only [smD, List.getElem?_cons_zero, HS.out.at_, Nat.add_zero] at s0
    have e1 : ((k : Int)).toNat = k := by simp
    rw [e1]
    generalize M.n = n at *
    generalize L.gs = gs at *
    clear hr HS e
    go_enter Try.func19, Try.ntmps19
    go_wp2_with fail
    refine HH.out.mono ?_
    rintro e w' ⟨rfl, rfl⟩
    go_wp2_with fail
    go_ret2
    exact ⟨rfl, Below.refl _ _⟩
  · rw [if_neg hr]
    rw [decide_eq_false hr] at HH
    clear hr
    go_enter Try.func19, Try.ntmps19
    go_wp2_with fail
    refine HH.out.mono ?_
    rintro e w' ⟨rfl, rfl⟩
    go_wp2_with fail
    go_ret2
    exact ⟨rfl, Below.refl _ _⟩
end Go.Proofs.Ytpncjadhpnapnaa.D12
