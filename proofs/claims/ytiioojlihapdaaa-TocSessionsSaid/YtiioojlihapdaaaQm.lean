/- Chapter 10: addresses walked. -/
import Derived.Test.YtiioojlihapdaaaQd
namespace Go.Proofs.Ytiioojlihapdaaa.W10
open Go.RowKit
set_option linter.unusedVariables false

abbrev msfv (m s f : Int) : Value := .agg #[.int .i64 m, .int .i64 s, .int .i64 f]
abbrev msfn (n : Int) : Value := msfv (Q.mM n) (Q.mS n) (Q.mF n)
/-- a value is returned, only new memory -/
def RV (v : Value) (w : World) (e : Ending) (w' : World) : Prop := e = .returned v ∧ Below w.heap.size w w'
theorem mM_two (n : Int) : Q.mM n = n / 75 / 60 := by unfold Q.mM; omega

theorem numbered_ok (n : Int) (w : World) (h0 : 0 ≤ n) (h1 : n ≤ 449999) : Calls Try.prog 95 #[.int .i64 n] w (RV (.tuple #[msfn n, .bool true]) w) := by
  show Calls _ _ _ _ (RV (.tuple #[msfv (Q.mM n) (n / 75 % 60) (n % 75), .bool true]) w)
  rw [mM_two]
  go_enter Try.func95, Try.ntmps95
  go_wp2
  exact bodyPost_ret (v := .tuple #[msfv (n / 75 / 60) (n / 75 % 60) (n % 75), .bool true]) (by simp [results, Try.results95, go_sem]) rfl ⟨rfl, (Below.refl _ _).alloc (Nat.le_refl _) _⟩
theorem numbered_no (n : Int) (w : World) (h : n < 0) : Calls Try.prog 95 #[.int .i64 n] w (RV (.tuple #[msfv 0 0 0, .bool false]) w) := by
  go_enter Try.func95, Try.ntmps95
  go_wp2
  exact bodyPost_ret (v := .tuple #[msfv 0 0 0, .bool false]) (by simp [results, Try.results95, go_sem]) rfl ⟨rfl, (Below.refl _ _).alloc (Nat.le_refl _) _⟩
set_option maxRecDepth 100000 in
theorem tomsf_ok (n : Int) (w : World) (h0 : -150 ≤ n) (h1 : n ≤ 449849) : Calls Try.prog 83 #[.int .i64 n] w (RV (.tuple #[msfn (n + 150), .int .i64 0]) w) := by
  go_enter Try.func83, Try.ntmps83
  go_wp2_with fail
  refine (numbered_ok (n + 150) _ (by omega) (by omega)).mono ?_
  rintro e w1 ⟨rfl, hb⟩
  have hb1 := ((Below.refl w.heap.size w).alloc (Nat.le_refl _) (.cells #[.int .i64 0, .int .i64 0, .int .i64 0] 78)).trans (hb.mono (by simp))
  have hB : Bx w1 w.heap.size 78 [.int .i64 0, .int .i64 0, .int .i64 0] := (Bx.new w 78 [.int .i64 0, .int .i64 0, .int .i64 0]).call hb
  have g0 := hB.cell (i := 0) rfl
  have g1 := hB.cell (i := 1) rfl
  have g2 := hB.cell (i := 2) rfl
  have gf := hB.free
  have gl := hB.lt
  go_wp2_with fail
  exact bodyPost_ret (v := .tuple #[msfn (n + 150), .int .i64 0]) (by simp [results, Try.results83, go_sem, g0, g1, g2, gl]) rfl ⟨rfl, (((hb1.setCell (Nat.le_refl _) _).setCell (Nat.le_refl _) _).setCell (Nat.le_refl _) _).alloc (by simp; omega) _⟩
set_option maxRecDepth 100000 in
theorem tomsf_no (n : Int) (w : World) (hw : In64 n) (h : n < -150 ∨ 449849 < n) : Calls Try.prog 83 #[.int .i64 n] w (RV (.tuple #[msfv 0 0 0, .int .i64 2]) w) := by
  unfold In64 at hw
  obtain ⟨hw1, hw2⟩ := hw
  by_cases h2 : 449849 < n
  · clear h
    go_enter Try.func83, Try.ntmps83
    go_wp2_with fail
    exact bodyPost_ret (v := .tuple #[msfv 0 0 0, .int .i64 2]) (by simp [results, Try.results83, go_sem]) rfl ⟨rfl, (Below.refl _ _).alloc (Nat.le_refl _) _⟩
  · have h3 : n < -150 := by omega
    clear h
    go_enter Try.func83, Try.ntmps83
    go_wp2_with fail
    refine (numbered_no (n + 150) _ (by omega)).mono ?_
    rintro e w1 ⟨rfl, hb⟩
    have hb1 := ((Below.refl w.heap.size w).alloc (Nat.le_refl _) (.cells #[.int .i64 0, .int .i64 0, .int .i64 0] 78)).trans (hb.mono (by simp))
    have hB : Bx w1 w.heap.size 78 [.int .i64 0, .int .i64 0, .int .i64 0] := (Bx.new w 78 [.int .i64 0, .int .i64 0, .int .i64 0]).call hb
    have g0 := hB.cell (i := 0) rfl
    have g1 := hB.cell (i := 1) rfl
    have g2 := hB.cell (i := 2) rfl
    have gf := hB.free
    have gl := hB.lt
    go_wp2_with fail
    exact bodyPost_ret (v := .tuple #[msfv 0 0 0, .int .i64 2]) (by simp [results, Try.results83, go_sem, g0, g1, g2, gl]) rfl ⟨rfl, (((hb1.setCell (Nat.le_refl _) _).setCell (Nat.le_refl _) _).setCell (Nat.le_refl _) _).alloc (by simp; omega) _⟩
set_option maxRecDepth 100000 in
theorem msf_any (n : Int) (w : World) (h0 : -150 ≤ n) (h1 : n ≤ 449849) : Calls Try.prog 69 #[.int .i64 n] w (RV (msfn (n + 150)) w) := by
  go_enter Try.func69, Try.ntmps69
  go_wp2_with fail
  refine (tomsf_ok n _ h0 h1).mono ?_
  rintro e w1 ⟨rfl, hb⟩
  have hb1 := ((Below.refl w.heap.size w).alloc (Nat.le_refl _) (.cells #[.int .i64 0, .int .i64 0, .int .i64 0] 78)).trans (hb.mono (by simp))
  have hB : Bx w1 w.heap.size 78 [.int .i64 0, .int .i64 0, .int .i64 0] := (Bx.new w 78 [.int .i64 0, .int .i64 0, .int .i64 0]).call hb
  have g0 := hB.cell (i := 0) rfl
  have g1 := hB.cell (i := 1) rfl
  have g2 := hB.cell (i := 2) rfl
  have gf := hB.free
  have gl := hB.lt
  go_wp2_with fail
  exact bodyPost_ret (v := msfn (n + 150)) (by simp [results, Try.results69, go_sem, g0, g1, g2, gl]) rfl ⟨rfl, (((hb1.setCell (Nat.le_refl _) _).setCell (Nat.le_refl _) _).setCell (Nat.le_refl _) _).alloc (by simp; omega) _⟩
end Go.Proofs.Ytiioojlihapdaaa.W10
