/- Shaken out of XTk8 XTkV -/
import Derived.Test.YtflmjdjkfognjaaGreatTp40
import Derived.Deep.RegionHeld3
import Derived.Test.YtflmjdjkfognjaaGreatTp39
import Derived.Outline
import Derived.Deep.Cut
import Derived.Deep.CutBlock
import Derived.Deep.DeepCutAuto
namespace Go.Proofs.YtflmjdjkfognjaaGreat
open Go.RowKit
set_option linter.unusedVariables false
def R8 (x : T.Trk) : Bool := decide ((x.sta = 2 → x.nx = x.st + x.len) ∧ (x.sta ≠ 2 → x.st ≤ x.nx ∧ x.nx ≤ x.st + x.len ∧ x.sta = if x.nx = x.st then 0 else 1))
set_option maxHeartbeats 4000000 in
theorem rule8_c (v : Value) (x : T.Trk) (w : World) (sm3 : sm x.st) (sm4 : sm x.len) (h2 : ¬ x.sta = 2) (h3 : x.st ≤ x.nx) (h4 : ¬ x.nx ≤ x.st + x.len) :
    Calls Tryz.prog 107 #[v, tagg x] w (RB (R8 x) w) := by
  have hd : (x.sta == 2) = false := by rw [beq_eq_false_iff_ne]; exact h2
  have hd3 : decide (x.st ≤ x.nx) = true := decide_eq_true h3
  have hd4 : decide (x.nx ≤ x.st + x.len) = false := decide_eq_false h4
  have hd5 : x.st + x.len < x.nx := by omega
  have hR : R8 x = false := by simp [R8, h2, h3, h4]
  rw [hR]
  clear h2 hR h3 h4
  go_enter Tryz.func107, Tryz.ntmps107
  go_wp2
  first | go_region_with (go_at_call 53; refine (end_any x _ sm3 sm4).mono ?_; rintro e w1 ⟨rfl, rfl⟩) | fail
  all_goals
    go_wp2
    go_ret
    refine ⟨rfl, ?_⟩
    repeat (first | exact Below.refl _ _ | refine Below.alloc ?_ (by simp <;> omega) _ | refine Below.drew ?_)
set_option maxHeartbeats 8000000 in
theorem rule8_any (v : Value) (x : T.Trk) (w : World) (sm3 : sm x.st) (sm4 : sm x.len) :
    Calls Tryz.prog 107 #[v, tagg x] w (RB (R8 x) w) := by
  by_cases h2 : x.sta = 2
  · have hd : (x.sta == 2) = true := by rw [beq_iff_eq]; exact h2
    by_cases h3 : x.nx = x.st + x.len
    · have hR : R8 x = true := by simp [R8, h2, h3]
      rw [hR]
      have hd3 : (x.nx == x.st + x.len) = true := by rw [beq_iff_eq]; exact h3
      clear h2 hR h3
      go_enter Tryz.func107, Tryz.ntmps107
      go_wp2
      go_region_with (go_at_call 108; refine (closed_any x _ sm3 sm4).mono ?_; rintro e w1 ⟨rfl, hb⟩; have hbx : ∀ j, w1.cell? ⟨w.heap.size, j, none⟩ = (#[Value.int .i64 x.num, .int .i64 x.ses, .int .i64 x.st, .int .i64 x.len, .int .i64 x.nx, .int .i64 x.sta, .int .i64 x.pk])[j]? := fun j => (hb.cell (p := ⟨w.heap.size, j, none⟩) (by simp)).trans (by simp [go_sem]); have hx0 := hbx 0; have hx1 := hbx 1; have hx2 := hbx 2; have hx3 := hbx 3; have hx4 := hbx 4; have hx5 := hbx 5; have hx6 := hbx 6; simp only [List.getElem?_toArray, List.getElem?_cons_zero, List.getElem?_cons_succ] at hx0 hx1 hx2 hx3 hx4 hx5 hx6; clear hbx; have hB : Below w.heap.size w w1 := (Below.alloc (Below.refl _ _) (Nat.le_refl _) _).drew.trans (hb.mono (by simp)))
      all_goals
        go_wp2
        go_ret
        exact ⟨rfl, hB⟩
    · have hR : R8 x = false := by simp [R8, h2, h3]
      rw [hR]
      have hd3 : (x.nx == x.st + x.len) = false := by rw [beq_eq_false_iff_ne]; exact h3
      clear h2 hR h3
      go_enter Tryz.func107, Tryz.ntmps107
      go_wp2
      go_region_with (go_at_call 108; refine (closed_any x _ sm3 sm4).mono ?_; rintro e w1 ⟨rfl, hb⟩; have hbx : ∀ j, w1.cell? ⟨w.heap.size, j, none⟩ = (#[Value.int .i64 x.num, .int .i64 x.ses, .int .i64 x.st, .int .i64 x.len, .int .i64 x.nx, .int .i64 x.sta, .int .i64 x.pk])[j]? := fun j => (hb.cell (p := ⟨w.heap.size, j, none⟩) (by simp)).trans (by simp [go_sem]); have hx0 := hbx 0; have hx1 := hbx 1; have hx2 := hbx 2; have hx3 := hbx 3; have hx4 := hbx 4; have hx5 := hbx 5; have hx6 := hbx 6; simp only [List.getElem?_toArray, List.getElem?_cons_zero, List.getElem?_cons_succ] at hx0 hx1 hx2 hx3 hx4 hx5 hx6; clear hbx; have hB : Below w.heap.size w w1 := (Below.alloc (Below.refl _ _) (Nat.le_refl _) _).drew.trans (hb.mono (by simp)))
      all_goals
        go_wp2
        go_ret
        exact ⟨rfl, hB⟩
  · have hd : (x.sta == 2) = false := by rw [beq_eq_false_iff_ne]; exact h2
    by_cases h3 : x.st ≤ x.nx
    · have hd3 : decide (x.st ≤ x.nx) = true := decide_eq_true h3
      by_cases h4 : x.nx ≤ x.st + x.len
      · have hd4 : decide (x.nx ≤ x.st + x.len) = true := decide_eq_true h4
        by_cases h5 : x.sta = (if x.nx = x.st then 0 else 1)
        · have hR : R8 x = true := by simp [R8, h3, h4, h5]; split <;> simp
          rw [hR]
          have hd5 : (x.sta == (if x.nx = x.st then 0 else 1)) = true := by rw [beq_iff_eq]; exact h5
          have hst := fun W => state_any x W
          generalize (if x.nx = x.st then (0 : Int) else 1) = y at *
          have HST := Lib.hid hst
          clear h2 hR h3 h4 h5 hst
          go_enter Tryz.func107, Tryz.ntmps107
          go_wp2
          go_region_held3 (fun W => w.heap.size < W.heap.size ∧ W.cell? ⟨w.heap.size, 0, none⟩ = some (.int .i64 x.num) ∧ W.cell? ⟨w.heap.size, 1, none⟩ = some (.int .i64 x.ses) ∧ W.cell? ⟨w.heap.size, 2, none⟩ = some (.int .i64 x.st) ∧ W.cell? ⟨w.heap.size, 3, none⟩ = some (.int .i64 x.len) ∧ W.cell? ⟨w.heap.size, 4, none⟩ = some (.int .i64 x.nx) ∧ W.cell? ⟨w.heap.size, 5, none⟩ = some (.int .i64 x.sta) ∧ W.cell? ⟨w.heap.size, 6, none⟩ = some (.int .i64 x.pk)) (((try dsimp only); ((repeat' apply And.intro) <;> (first | (go_keep; done) | (simp; omega))))) (first | (go_at_call 53; refine (end_any x _ sm3 sm4).mono ?_; rintro e w1 ⟨rfl, rfl⟩) | (go_at_call 109; refine (HST.out _).mono ?_; rintro e w1 ⟨rfl, rfl⟩))
          all_goals
            go_wp2
            go_ret
            refine ⟨rfl, ?_⟩
            repeat (first | exact Below.refl _ _ | refine Below.alloc ?_ (by simp <;> omega) _ | refine Below.drew ?_)
        · have hR : R8 x = false := by simp [R8, h2, h3, h4, h5]
          rw [hR]
          have hd5 : (x.sta == (if x.nx = x.st then 0 else 1)) = false := by rw [beq_eq_false_iff_ne]; exact h5
          have hst := fun W => state_any x W
          generalize (if x.nx = x.st then (0 : Int) else 1) = y at *
          have HST := Lib.hid hst
          clear h2 hR h3 h4 h5 hst
          go_enter Tryz.func107, Tryz.ntmps107
          go_wp2
          go_region_held3 (fun W => w.heap.size < W.heap.size ∧ W.cell? ⟨w.heap.size, 0, none⟩ = some (.int .i64 x.num) ∧ W.cell? ⟨w.heap.size, 1, none⟩ = some (.int .i64 x.ses) ∧ W.cell? ⟨w.heap.size, 2, none⟩ = some (.int .i64 x.st) ∧ W.cell? ⟨w.heap.size, 3, none⟩ = some (.int .i64 x.len) ∧ W.cell? ⟨w.heap.size, 4, none⟩ = some (.int .i64 x.nx) ∧ W.cell? ⟨w.heap.size, 5, none⟩ = some (.int .i64 x.sta) ∧ W.cell? ⟨w.heap.size, 6, none⟩ = some (.int .i64 x.pk)) (((try dsimp only); ((repeat' apply And.intro) <;> (first | (go_keep; done) | (simp; omega))))) (first | (go_at_call 53; refine (end_any x _ sm3 sm4).mono ?_; rintro e w1 ⟨rfl, rfl⟩) | (go_at_call 109; refine (HST.out _).mono ?_; rintro e w1 ⟨rfl, rfl⟩))
          all_goals
            go_wp2
            go_ret
            refine ⟨rfl, ?_⟩
            repeat (first | exact Below.refl _ _ | refine Below.alloc ?_ (by simp <;> omega) _ | refine Below.drew ?_)
      · exact rule8_c v x w sm3 sm4 h2 h3 h4
    · have hd3 : decide (x.st ≤ x.nx) = false := decide_eq_false h3
      have hR : R8 x = false := by simp [R8, h2, h3]
      rw [hR]
      clear h2 hR h3
      go_enter Tryz.func107, Tryz.ntmps107
      go_wp2
      go_quiet (fail)
      go_wp2
      go_ret
      exact ⟨rfl, Below.drewN ((Below.refl _ _).alloc (Nat.le_refl _) _) _⟩
end Go.Proofs.YtflmjdjkfognjaaGreat
namespace Go.Proofs.YtflmjdjkfognjaaGreat
open Go.RowKit
set_option linter.unusedVariables false
namespace T
end T
def ValPost (cap cl : Int) (fin : Bool) (l : List T.Trk) (w : World) (e : Ending) (w' : World) : Prop := e = .returned (.bool (T.validB cap cl fin l)) ∧ Below w.heap.size w w'
end Go.Proofs.YtflmjdjkfognjaaGreat
