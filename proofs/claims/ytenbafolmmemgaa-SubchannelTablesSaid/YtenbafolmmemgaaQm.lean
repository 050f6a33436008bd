/- Chapter 10: addresses walked. -/
import Derived.Test.YtenbafolmmemgaaQd
namespace Go.Proofs.Ytenbafolmmemgaa.W10
open Go.RowKit
set_option linter.unusedVariables false

abbrev msfv (m s f : Int) : Value := .agg #[.int .i64 m, .int .i64 s, .int .i64 f]
abbrev msfn (n : Int) : Value := msfv (Q.mM n) (Q.mS n) (Q.mF n)
/-- a value is returned, only new memory -/
def RV (v : Value) (w : World) (e : Ending) (w' : World) : Prop := e = .returned v ∧ Below w.heap.size w w'
theorem mM_two (n : Int) : Q.mM n = n / 75 / 60 := by unfold Q.mM; omega

theorem numbered_ok (n : Int) (w : World) (h0 : 0 ≤ n) (h1 : n ≤ 449999) : Calls Try.prog 70 #[.int .i64 n] w (RV (.tuple #[msfn n, .bool true]) w) := by
  show Calls _ _ _ _ (RV (.tuple #[msfv (Q.mM n) (n / 75 % 60) (n % 75), .bool true]) w)
  rw [mM_two]
  go_enter Try.func70, Try.ntmps70
  go_wp2
  exact bodyPost_ret (v := .tuple #[msfv (n / 75 / 60) (n / 75 % 60) (n % 75), .bool true]) (by simp [results, Try.results70, go_sem]) rfl ⟨rfl, (Below.refl _ _).alloc (Nat.le_refl _) _⟩
theorem numbered_no (n : Int) (w : World) (h : n < 0) : Calls Try.prog 70 #[.int .i64 n] w (RV (.tuple #[msfv 0 0 0, .bool false]) w) := by
  go_enter Try.func70, Try.ntmps70
  go_wp2
  exact bodyPost_ret (v := .tuple #[msfv 0 0 0, .bool false]) (by simp [results, Try.results70, go_sem]) rfl ⟨rfl, (Below.refl _ _).alloc (Nat.le_refl _) _⟩
set_option maxRecDepth 100000 in
theorem tomsf_ok (n : Int) (w : World) (h0 : -150 ≤ n) (h1 : n ≤ 449849) : Calls Try.prog 54 #[.int .i64 n] w (RV (.tuple #[msfn (n + 150), .int .i64 0]) w) := by
  go_enter Try.func54, Try.ntmps54
  go_wp2_with fail
  refine (numbered_ok (n + 150) _ (by omega) (by omega)).mono ?_
  rintro e w1 ⟨rfl, hb⟩
  have hb1 := ((Below.refl w.heap.size w).alloc (Nat.le_refl _) (.cells #[.int .i64 0, .int .i64 0, .int .i64 0] 25)).trans (hb.mono (by simp))
  have hB : Bx w1 w.heap.size 25 [.int .i64 0, .int .i64 0, .int .i64 0] := (Bx.new w 25 [.int .i64 0, .int .i64 0, .int .i64 0]).call hb
  have g0 := hB.cell (i := 0) rfl
  have g1 := hB.cell (i := 1) rfl
  have g2 := hB.cell (i := 2) rfl
  have gf := hB.free
  have gl := hB.lt
  go_wp2_with fail
  exact bodyPost_ret (v := .tuple #[msfn (n + 150), .int .i64 0]) (by simp [results, Try.results54, go_sem, g0, g1, g2, gl]) rfl ⟨rfl, (((hb1.setCell (Nat.le_refl _) _).setCell (Nat.le_refl _) _).setCell (Nat.le_refl _) _).alloc (by simp; omega) _⟩
set_option maxRecDepth 100000 in
theorem tomsf_no (n : Int) (w : World) (hw : In64 n) (h : n < -150 ∨ 449849 < n) : Calls Try.prog 54 #[.int .i64 n] w (RV (.tuple #[msfv 0 0 0, .int .i64 2]) w) := by
  unfold In64 at hw
  obtain ⟨hw1, hw2⟩ := hw
  by_cases h2 : 449849 < n
  · clear h
    go_enter Try.func54, Try.ntmps54
    go_wp2_with fail
    exact bodyPost_ret (v := .tuple #[msfv 0 0 0, .int .i64 2]) (by simp [results, Try.results54, go_sem]) rfl ⟨rfl, (Below.refl _ _).alloc (Nat.le_refl _) _⟩
  · have h3 : n < -150 := by omega
    clear h
    go_enter Try.func54, Try.ntmps54
    go_wp2_with fail
    refine (numbered_no (n + 150) _ (by omega)).mono ?_
    rintro e w1 ⟨rfl, hb⟩
    have hb1 := ((Below.refl w.heap.size w).alloc (Nat.le_refl _) (.cells #[.int .i64 0, .int .i64 0, .int .i64 0] 25)).trans (hb.mono (by simp))
    have hB : Bx w1 w.heap.size 25 [.int .i64 0, .int .i64 0, .int .i64 0] := (Bx.new w 25 [.int .i64 0, .int .i64 0, .int .i64 0]).call hb
    have g0 := hB.cell (i := 0) rfl
    have g1 := hB.cell (i := 1) rfl
    have g2 := hB.cell (i := 2) rfl
    have gf := hB.free
    have gl := hB.lt
    go_wp2_with fail
    exact bodyPost_ret (v := .tuple #[msfv 0 0 0, .int .i64 2]) (by simp [results, Try.results54, go_sem, g0, g1, g2, gl]) rfl ⟨rfl, (((hb1.setCell (Nat.le_refl _) _).setCell (Nat.le_refl _) _).setCell (Nat.le_refl _) _).alloc (by simp; omega) _⟩
set_option maxRecDepth 100000 in
theorem msf_any (n : Int) (w : World) (h0 : -150 ≤ n) (h1 : n ≤ 449849) : Calls Try.prog 27 #[.int .i64 n] w (RV (msfn (n + 150)) w) := by
  go_enter Try.func27, Try.ntmps27
  go_wp2_with fail
  refine (tomsf_ok n _ h0 h1).mono ?_
  rintro e w1 ⟨rfl, hb⟩
  have hb1 := ((Below.refl w.heap.size w).alloc (Nat.le_refl _) (.cells #[.int .i64 0, .int .i64 0, .int .i64 0] 25)).trans (hb.mono (by simp))
  have hB : Bx w1 w.heap.size 25 [.int .i64 0, .int .i64 0, .int .i64 0] := (Bx.new w 25 [.int .i64 0, .int .i64 0, .int .i64 0]).call hb
  have g0 := hB.cell (i := 0) rfl
  have g1 := hB.cell (i := 1) rfl
  have g2 := hB.cell (i := 2) rfl
  have gf := hB.free
  have gl := hB.lt
  go_wp2_with fail
  exact bodyPost_ret (v := msfn (n + 150)) (by simp [results, Try.results27, go_sem, g0, g1, g2, gl]) rfl ⟨rfl, (((hb1.setCell (Nat.le_refl _) _).setCell (Nat.le_refl _) _).setCell (Nat.le_refl _) _).alloc (by simp; omega) _⟩
set_option maxRecDepth 100000 in
theorem relative_any (n : Int) (w : World) (h0 : 0 ≤ n) (h1 : n ≤ 449999) : Calls Try.prog 31 #[.int .i64 n] w (RV (msfn n) w) := by
  have hm := msf_any (n - 150) (w.alloc (.cells #[.int .i64 0, .int .i64 0, .int .i64 0] 25)) (by omega) (by omega)
  have e : n - 150 + 150 = n := by omega
  rw [e] at hm
  have HM := Lib.hid hm; clear hm e
  go_enter Try.func31, Try.ntmps31
  go_wp2_with fail
  refine HM.out.mono ?_
  rintro e w1 ⟨rfl, hb⟩
  have hb1 := ((Below.refl w.heap.size w).alloc (Nat.le_refl _) (.cells #[.int .i64 0, .int .i64 0, .int .i64 0] 25)).trans (hb.mono (by simp))
  have hB : Bx w1 w.heap.size 25 [.int .i64 0, .int .i64 0, .int .i64 0] := (Bx.new w 25 [.int .i64 0, .int .i64 0, .int .i64 0]).call hb
  have g0 := hB.cell (i := 0) rfl
  have g1 := hB.cell (i := 1) rfl
  have g2 := hB.cell (i := 2) rfl
  have gf := hB.free
  have gl := hB.lt
  go_wp2_with fail
  exact bodyPost_ret (v := msfn n) (by simp [results, Try.results31, go_sem, g0, g1, g2]) rfl ⟨rfl, ((hb1.setCell (Nat.le_refl _) _).setCell (Nat.le_refl _) _).setCell (Nat.le_refl _) _⟩
set_option maxRecDepth 100000 in
theorem rtomsf_ok (n : Int) (w : World) (h0 : -150 ≤ n) (h1 : n ≤ 449849) : Calls Try.prog 33 #[.int .i64 n] w (RV (.tuple #[msfn (n + 150), .int .i64 0]) w) := by
  show Calls _ _ _ _ (RV (.tuple #[msfv ((n + 150) / 4500) ((n + 150) / 75 % 60) ((n + 150) % 75), .int .i64 0]) w)
  go_enter Try.func33, Try.ntmps33
  go_wp2_with fail
  exact bodyPost_ret (v := .tuple #[msfv ((n + 150) / 4500) ((n + 150) / 75 % 60) ((n + 150) % 75), .int .i64 0]) (by simp [results, Try.results33, go_sem]) rfl ⟨rfl, (Below.refl _ _).alloc (Nat.le_refl _) _⟩
set_option maxRecDepth 100000 in
theorem rtomsf_no (n : Int) (w : World) (h : n < -150 ∨ 449849 < n) : Calls Try.prog 33 #[.int .i64 n] w (RV (.tuple #[msfv 0 0 0, .int .i64 2]) w) := by
  by_cases h2 : n < -150
  · clear h
    go_enter Try.func33, Try.ntmps33
    go_wp2_with fail
    exact bodyPost_ret (v := .tuple #[msfv 0 0 0, .int .i64 2]) (by simp [results, Try.results33, go_sem]) rfl ⟨rfl, (Below.refl _ _).alloc (Nat.le_refl _) _⟩
  · have h3 : 449849 < n := by omega
    clear h
    go_enter Try.func33, Try.ntmps33
    go_wp2_with fail
    exact bodyPost_ret (v := .tuple #[msfv 0 0 0, .int .i64 2]) (by simp [results, Try.results33, go_sem]) rfl ⟨rfl, (Below.refl _ _).alloc (Nat.le_refl _) _⟩
set_option maxRecDepth 100000 in
theorem raddr_any (n : Int) (w : World) (h0 : 0 ≤ n) (h1 : n ≤ 449999) : Calls Try.prog 34 #[.int .i64 n] w (RV (msfn n) w) := by
  show Calls _ _ _ _ (RV (msfv (n / 4500) (n / 75 % 60) (n % 75)) w)
  go_enter Try.func34, Try.ntmps34
  go_wp2_with fail
  exact bodyPost_ret (v := msfv (n / 4500) (n / 75 % 60) (n % 75)) (by simp [results, Try.results34, go_sem]) rfl ⟨rfl, (Below.refl _ _).alloc (Nat.le_refl _) _⟩
set_option maxRecDepth 100000 in
theorem rend_any (v : Value) (l : List T.Trk) (w : World) (hr : RdK w v l) (hs : Q.Sess l) :
    Calls Try.prog 35 #[v] w fun e w' => e = .returned (.int .i64 (Q.endL l)) ∧ ∃ n, w' = w.drewN n := by
  obtain ⟨a, c, rfl, hac⟩ := RdS.form hr
  obtain ⟨b, off, hcell⟩ := RdK.cells hr
  have hl1 := hs.1
  have hl2 := hs.2.1
  obtain ⟨ha, hrg⟩ := hcell (l.length - 1) (by omega)
  obtain ⟨_, _, hat3, hat4, hat5, hat6⟩ := hs.at (i := l.length - 1) (by omega)
  clear hcell hr hs
  show Calls _ _ _ _ fun e w' => e = .returned (.int .i64 ((T.tr l (l.length - 1)).st + (T.tr l (l.length - 1)).len)) ∧ ∃ n, w' = w.drewN n
  generalize hp : l.length - 1 = p at *
  generalize T.tr l p = x at *
  obtain ⟨hc0, hc1, hc2, hc3, hc4, hc5, hc6⟩ := rd7 hrg
  have hlw : IntKind.i64.wrap ((l.length : Int) - 1) = (l.length : Int) - 1 := IntWalk.i64_in _ (by omega)
  have hsw : IntKind.i64.wrap (x.st + x.len) = x.st + x.len := IntWalk.i64_in _ (by omega)
  have hix := fun w' => run_idxS Try.underlying22 Try.sizeTrack (cap := c) ha (by omega : p < l.length) ((l.length : Int) - 1) (by omega) w'
  have Ha := Lib.hid ha; clear ha hrg
  have Hp := Lib.hid hp; clear hp
  go_enter Try.func35, Try.ntmps35
  go_wp2_with fail
  go_quiet (fail)
  go_wp2_with fail
  go_ret
  exact ⟨rfl, _, rfl⟩
end Go.Proofs.Ytenbafolmmemgaa.W10
