/- Chapter 9: the law CircLoses; scratches that came in. -/
import Derived.Test.YtkebnmmcogkldaaD5
import Derived.Test.YtkebnmmcogkldaaOpS
namespace Go.Proofs.Ytkebnmmcogkldaa.C9
open Go.ChangeShapes Go.WideShapes Go.RowKit Go.Deep W8
set_option linter.unusedVariables false

section
variable {H : Type} {enc : TypeId × Value → H} {w : World} {base b0 : Nat} {sp : Nat → Bool} {held : Bool}
theorem Try.cellsSc : Try.prog.cellsOf 34 = 2 := by kernel_rfl
theorem Try.cellsI9 : Try.prog.cellsOf 3 = 1 := by kernel_rfl
set_option maxRecDepth 100000 in
theorem scr_cells (n : Nat) (cs : List Value) (x : DataW H × List MemPlace) (h : DataW.trod enc Try.prog w base sp held n 34 cs = some x) : ∃ t : Sc, cs = scc t ∧ Wf t := by
  obtain ⟨ys, n', _, _, hlen, hyl, hf⟩ := DataW.trod_struct Try.underlying34 h
  rw [Try.cellsSc] at hlen
  match cs, hlen with
  | [c0, c1], _ =>
    have g0 : DataW.trod enc Try.prog w base sp held n' 3 (([c0, c1].drop 0).take (Try.prog.cellsOf 3)) = ys[0]? := hf 0 _ rfl
    have g1 : DataW.trod enc Try.prog w base sp held n' 3 (([c0, c1].drop 1).take (Try.prog.cellsOf 3)) = ys[1]? := hf 1 _ rfl
    rw [Try.cellsI9] at g0 g1
    simp only [List.drop, List.take] at g0 g1
    obtain ⟨a0, e0, w0⟩ := leaf_int Try.underlying3 g0 (some_at hyl (by decide))
    obtain ⟨a1, e1, w1⟩ := leaf_int Try.underlying3 g1 (some_at hyl (by decide))
    simp only [List.cons.injEq, and_true] at e0 e1
    subst e0 e1
    exact ⟨⟨a0, a1⟩, rfl, w0, w1⟩
/-- a slice of scratches that came in -/
def CameSc (w : World) (v : Value) (l : List Sc) : Prop := RdSc w v l ∧ (∀ i, i < l.length → Wf (scA l i)) ∧ l.length ≤ 9223372036854775807
set_option maxRecDepth 100000 in
theorem open_cscrs {v : Value} {d : DataW H} {ps : List MemPlace} {r : Reach} (hval : Value.okWide Try.prog w r b0 22 v) (hd : DataW.Trod enc Try.prog w base sp held 22 v d ps) : ∃ l, CameSc w v l := by
  obtain ⟨a, len, cap, rfl⟩ := okWide_slice Try.underlying22 hval
  obtain ⟨fuel, hf⟩ := hd
  obtain ⟨l, h1, h2, h3⟩ := open_rdS scz scc Wf Try.underlying22 Try.cellsSc (by omega) (fun n cs x h => scr_cells n cs x h) (by simpa [Value.cells] using hf)
  exact ⟨l, h1, h3, h2⟩
end
/-- Lost of both, for any numbers -/
theorem plost_any (d : Int) (v : Value) (l : List Sc) (w : World) (h : CameSc w v l) : Calls Try.prog 11 #[.int .i64 d, v] w (LostP (lostR d l) w) := by
  obtain ⟨hr, hwf, hl⟩ := h
  unfold lostR
  by_cases hd : d < 1 ∨ 401408 < d
  · rw [if_pos hd]
    exact plost_range d v l w hr hd
  · rw [if_neg hd]
    obtain ⟨n, rfl⟩ : ∃ n : Nat, d = n := ⟨d.toNat, by omega⟩
    exact plost_ok n v l w (by omega) (by omega) hr hwf hl
theorem rlost_any (d : Int) (v : Value) (l : List Sc) (w : World) (h : CameSc w v l) : Calls Try.prog 12 #[.int .i64 d, v] w (LostP (lostR d l) w) := by
  obtain ⟨hr, hwf, hl⟩ := h
  unfold lostR
  by_cases hd : d < 1 ∨ 401408 < d
  · rw [if_pos hd]
    exact rlost_range d v l w hr hd
  · rw [if_neg hd]
    obtain ⟨n, rfl⟩ : ∃ n : Nat, d = n := ⟨d.toNat, by omega⟩
    rw [Int.toNat_natCast]
    by_cases hf : fitA (n + 108) l = false
    · rw [if_pos hf]
      exact rlost_fit n v l w (by omega) (by omega) hr hwf hl hf
    · rw [if_neg hf]
      exact rlost_ok n v l w (by omega) (by omega) hr hwf hl (by simpa using hf)
theorem CameSc.keep {w w' : World} {v : Value} {l : List Sc} (h : CameSc w v l) (hb : Below w.heap.size w w') : CameSc w' v l := ⟨RdD.keep h.1 hb, h.2⟩
theorem lostR_bd (d : Int) (l : List Sc) : (lostR d l).1.length ≤ 11300000 ∧ ∀ x ∈ (lostR d l).1, -9223372036854775808 ≤ x ∧ x ≤ 9223372036854775807 := by
  unfold lostR
  split
  · simp
  · split
    · simp
    · have h1 := lostN_length l d.toNat
      refine ⟨by simp only; omega, fun x hx => ?_⟩
      have := lostN_bd l d.toNat x hx
      omega
/-- what is lost, as a slice that can be read -/
theorem LostP.rd {d : Int} {l : List Sc} {w w' : World} {e : Ending} (h : LostP (lostR d l) w e w') : ∃ v, e = .returned (.tuple #[v, .int .i64 (lostR d l).2]) ∧ RdI w' v (lostR d l).1 ∧ Below w.heap.size w w' := by
  obtain ⟨v, he, ho, hb⟩ := h
  obtain ⟨h1, h2⟩ := lostR_bd d l
  exact ⟨v, he, rdI_own ho rfl (by omega) h2, hb⟩
theorem RdI.form9 {w : World} {v : Value} {l : List Int} (h : RdI w v l) : ∃ a c, v = .slice a l.length c := by
  obtain ⟨_, ⟨a, c, _, _, rfl, _⟩, _⟩ := h
  exact ⟨a, c, rfl⟩
set_option maxRecDepth 100000 in
set_option maxHeartbeats 2000000 in
theorem loses_law (w : World) (d : Int) (hd : (Lit.int .i64 d).wf = true) (v : Value) (l : List Sc) (h : CameSc w v l) :
    Calls Try.prog 3 #[.int .i64 d, v] w fun e w' => e = .returned (.bool true) ∧ Below w.heap.size w w' := by
  have HP := Lib.hid (fun W hW => plost_any d v l W hW)
  have HQ := Lib.hid (fun W hW => rlost_any d v l W hW)
  have HC := Lib.hid h
  obtain ⟨a, c, rfl, _⟩ := RdD.form h.1
  have hl := h.2.2
  clear h hd
  have hcase : (300 < d ∧ d ≤ 401408) ∨ (¬ 300 < d ∧ 20 < l.length) ∨ (300 < d ∧ ¬ d ≤ 401408 ∧ 20 < l.length) ∨ (¬ 300 < d ∧ ¬ 20 < l.length) ∨ (300 < d ∧ ¬ d ≤ 401408 ∧ ¬ 20 < l.length) := by omega
  rcases hcase with ⟨h1, h2⟩ | ⟨h1, h2⟩ | ⟨h1, h2, h3⟩ | ⟨h1, h2⟩ | ⟨h1, h2, h3⟩
  all_goals
    go_enter Try.func3, Try.ntmps3
    go_wp2_with fail
    refine (awake9_any _).mono ?_
    rintro e w1 ⟨rfl, hb1⟩
    have hd1 := decide_eq_true h1
    go_wp2_with fail
  iterate 3
    go_ret
    exact ⟨rfl, hb1⟩
  all_goals
    refine (HP.out _ (HC.out.keep hb1)).mono ?_
    intro e w2 hlp
    obtain ⟨v2, rfl, hr2, hb2⟩ := hlp.rd
    clear hlp
    obtain ⟨a2, c2, rfl⟩ := RdI.form9 hr2
    have hbw2 := hb1.trans (hb2.mono hb1.size)
    clear hb1 hb2
    go_wp2_with fail
    refine (HQ.out _ (HC.out.keep hbw2)).mono ?_
    intro e w3 hlp
    obtain ⟨v3, rfl, hr3, hb3⟩ := hlp.rd
    clear hlp
    obtain ⟨a3, c3, rfl⟩ := RdI.form9 hr3
    have hbw3 := hbw2.trans (hb3.mono hbw2.size)
    have HE := Lib.hid (equal9 (hr2.keep hb3) hr3)
    clear hb3 hbw2 hr2 hr3
    go_wp2_with fail
    refine HE.out.mono ?_
    rintro e w4 ⟨rfl, q, rfl⟩
    go_wp2_with fail
    go_ret
    exact ⟨retB (by simp), Below.drewN hbw3 _⟩
end Go.Proofs.Ytkebnmmcogkldaa.C9
