/- The package's rules walked (chapter 14). -/
import Derived.Test.YtiioojlihapdaaaTk
import Derived.Deep.RegionHeld3
import Derived.Outline
namespace Go.Proofs.Ytiioojlihapdaaa
open Go.RowKit
set_option linter.unusedVariables false

/-- a bool comes back, and nothing that was there has changed -/
def RB (b : Bool) (w : World) (e : Ending) (w' : World) : Prop := e = .returned (.bool b) ∧ Below w.heap.size w w'
/-- a track as a value -/
abbrev tagg (x : T.Trk) : Value := .agg #[.int .i64 x.num, .int .i64 x.ses, .int .i64 x.st, .int .i64 x.len, .int .i64 x.nx, .int .i64 x.sta, .int .i64 x.pk]
abbrev tobj (x : T.Trk) : Obj := .cells #[.int .i64 x.num, .int .i64 x.ses, .int .i64 x.st, .int .i64 x.len, .int .i64 x.nx, .int .i64 x.sta, .int .i64 x.pk] 40

theorem end_any (x : T.Trk) (w : World) (h1 : sm x.st) (h2 : sm x.len) :
    Calls Try.prog 38 #[tagg x] w fun e w' => e = .returned (.int .i64 (x.st + x.len)) ∧ w' = w.alloc (tobj x) := by
  unfold sm at h1 h2
  go_enter Try.func38, Try.ntmps38
  go_wp2
  go_ret
  exact ⟨rfl, rfl⟩
theorem state_any (x : T.Trk) (w : World) :
    Calls Try.prog 65 #[tagg x] w fun e w' => e = .returned (.int .i64 (if x.nx = x.st then 0 else 1)) ∧ w' = w.alloc (tobj x) := by
  by_cases h : x.nx = x.st
  · have hd : (x.nx == x.st) = true := by rw [beq_iff_eq]; exact h
    rw [if_pos h]
    clear h
    go_enter Try.func65, Try.ntmps65
    go_wp2
    go_ret
    exact ⟨rfl, rfl⟩
  · have hd : (x.nx == x.st) = false := by rw [beq_eq_false_iff_ne]; exact h
    rw [if_neg h]
    go_enter Try.func65, Try.ntmps65
    go_wp2
    go_ret
    exact ⟨rfl, rfl⟩
theorem closed_any (x : T.Trk) (w : World) (h1 : sm x.st) (h2 : sm x.len) :
    Calls Try.prog 64 #[tagg x] w fun e w' => e = .returned (tagg { x with sta := 2, nx := x.st + x.len }) ∧ Below w.heap.size w w' := by
  go_enter Try.func64, Try.ntmps64
  go_wp2_with (refine (end_any x _ h1 h2).mono ?_; rintro e w' ⟨rfl, rfl⟩)
  refine bodyPost_ret (v := tagg { x with sta := 2, nx := x.st + x.len }) (by simp [results, Try.results64, go_sem]) rfl ⟨rfl, ?_⟩
  exact (((Below.refl _ _).alloc (Nat.le_refl _) _).alloc (by simp) _).alloc (by simp; omega) _
set_option maxRecDepth 100000 in
set_option maxHeartbeats 1000000 in
theorem start_any (v : Value) (n : Nat) (l : List T.Trk) (s : Int) (w : World) (hr : RdS w 7 v n fun i => tcs (T.tr l i)) (hn : n ≤ 110) (hs : ∀ i, i < n → smT (T.tr l i)) :
    Calls Try.prog 50 #[v, .int .i64 s] w fun e w' => e = .returned (.int .i64 (if n = 0 then 0 else if (T.tr l (n - 1)).ses < s then (T.tr l (n - 1)).st + (T.tr l (n - 1)).len + 16 else (T.tr l (n - 1)).st + (T.tr l (n - 1)).len)) ∧ Below w.heap.size w w' := by
  obtain ⟨a, c, b, off, rfl, hac, hcell⟩ := hr
  by_cases h0 : n = 0
  · subst h0
    clear hcell hs
    rw [if_pos rfl]
    go_enter Try.func50, Try.ntmps50
    go_wp2
    go_ret
    exact ⟨rfl, Below.refl _ _⟩
  · rw [if_neg h0]
    obtain ⟨m, rfl⟩ : ∃ m, n = m + 1 := ⟨n - 1, by omega⟩
    simp only [Nat.add_sub_cancel]
    obtain ⟨ha, hrg⟩ := hcell m (by omega)
    simp only at hrg
    obtain ⟨sm1, sm2, sm3, sm4, sm5, sm6, sm7⟩ := hs m (by omega)
    clear hcell hs h0
    generalize T.tr l m = x at *
    have hix := fun w' => run_idxS Try.underlying22 Try.sizeTrack (cap := c) ha (Nat.lt_succ_self m) (m : Int) rfl w'
    have hm1 : (((m + 1 : Nat) : Int) - 1) = m := by omega
    have hz : (((m + 1 : Nat) : Int) == 0) = false := by rw [beq_eq_false_iff_ne]; omega
    have hz2 : ((m : Int) + 1 == 0) = false := by rw [beq_eq_false_iff_ne]; omega
    obtain ⟨hc0, hc1, hc2, hc3, hc4, hc5, hc6⟩ := rd7 hrg
    clear hrg
    have Ha := Lib.hid ha; clear ha
    have hb3 := sm3; have hb4 := sm4
    unfold sm at hb3 hb4
    by_cases hc : x.ses < s
    · have hd : decide (x.ses < s) = true := decide_eq_true hc
      rw [if_pos hc]
      clear hc
      go_enter Try.func50, Try.ntmps50
      go_wp2_with (refine (end_any x _ sm3 sm4).mono ?_; rintro e w' ⟨rfl, rfl⟩)
      go_ret
      exact ⟨rfl, ((Below.refl _ _).alloc (Nat.le_refl _) _).alloc (by simp) _⟩
    · have hd : decide (x.ses < s) = false := decide_eq_false hc
      rw [if_neg hc]
      clear hc
      go_enter Try.func50, Try.ntmps50
      go_wp2_with (refine (end_any x _ sm3 sm4).mono ?_; rintro e w' ⟨rfl, rfl⟩)
      go_ret
      exact ⟨rfl, ((Below.refl _ _).alloc (Nat.le_refl _) _).alloc (by simp) _⟩

/-- the cells of a boxed table -/
def BoxT (w : World) (g : Nat) (cl : Int) (fin : Bool) (sv : Value) : Prop := w.cell? ⟨g, 0, none⟩ = some (.int .i64 cl) ∧ w.cell? ⟨g, 1, none⟩ = some (.bool fin) ∧ w.cell? ⟨g, 2, none⟩ = some sv

theorem rule1_any (v : Value) (n : Nat) (x : T.Trk) (f : Nat → List Value) (w : World) (hr : RdS w 7 v n f) (hn : n ≤ 110) :
    Calls Try.prog 56 #[v, tagg x] w (RB (decide (x.num = n + 1)) w) := by
  obtain ⟨a, c, b, off, rfl, hac, hcell⟩ := hr
  clear hcell
  by_cases h : x.num = n + 1
  · have hd : (x.num == (n : Int) + 1) = true := by rw [beq_iff_eq]; exact h
    rw [decide_eq_true h]
    clear h
    go_enter Try.func56, Try.ntmps56
    go_wp2
    go_ret
    exact ⟨rfl, (Below.refl _ _).alloc (Nat.le_refl _) _⟩
  · have hd : (x.num == (n : Int) + 1) = false := by rw [beq_eq_false_iff_ne]; exact h
    rw [decide_eq_false h]
    clear h
    go_enter Try.func56, Try.ntmps56
    go_wp2
    go_ret
    exact ⟨rfl, (Below.refl _ _).alloc (Nat.le_refl _) _⟩
def R2 (k : Nat) (a s : Int) : Bool := decide ((k = 0 → a = 1) ∧ (0 < k → a - s = 0 ∨ a - s = 1))
theorem rule2_any (v : Value) (n : Nat) (l : List T.Trk) (x : T.Trk) (w : World) (hr : RdS w 7 v n fun i => tcs (T.tr l i)) (hn : n ≤ 110) (hs : ∀ i, i < n → smT (T.tr l i)) (hx : sm x.ses) :
    Calls Try.prog 57 #[v, tagg x] w (RB (R2 n x.ses (T.tr l (n - 1)).ses) w) := by
  obtain ⟨a, c, b, off, rfl, hac, hcell⟩ := hr
  by_cases h0 : n = 0
  · subst h0
    clear hcell hs
    by_cases h : x.ses = 1
    · have hd : (x.ses == 1) = true := by rw [beq_iff_eq]; exact h
      have hR : R2 0 x.ses (T.tr l (0 - 1)).ses = true := by simp [R2, h]
      rw [hR]
      clear h hR
      go_enter Try.func57, Try.ntmps57
      go_wp2
      go_ret
      exact ⟨rfl, (Below.refl _ _).alloc (Nat.le_refl _) _⟩
    · have hd : (x.ses == 1) = false := by rw [beq_eq_false_iff_ne]; exact h
      have hR : R2 0 x.ses (T.tr l (0 - 1)).ses = false := by simp [R2, h]
      rw [hR]
      clear h hR
      go_enter Try.func57, Try.ntmps57
      go_wp2
      go_ret
      exact ⟨rfl, (Below.refl _ _).alloc (Nat.le_refl _) _⟩
  · obtain ⟨m, rfl⟩ : ∃ m, n = m + 1 := ⟨n - 1, by omega⟩
    simp only [Nat.add_sub_cancel]
    obtain ⟨ha, hrg⟩ := hcell m (by omega)
    simp only at hrg
    obtain ⟨sm1, sm2, sm3, sm4, sm5, sm6, sm7⟩ := hs m (by omega)
    clear hcell hs h0
    generalize T.tr l m = y at *
    have hix := fun w' => run_idxS Try.underlying22 Try.sizeTrack (cap := c) ha (Nat.lt_succ_self m) (m : Int) rfl w'
    have hm1 : (((m + 1 : Nat) : Int) - 1) = m := by omega
    have hz : (((m + 1 : Nat) : Int) == 0) = false := by rw [beq_eq_false_iff_ne]; omega
    have hz2 : ((m : Int) + 1 == 0) = false := by rw [beq_eq_false_iff_ne]; omega
    obtain ⟨hc0, hc1, hc2, hc3, hc4, hc5, hc6⟩ := rd7 hrg
    have hbl := World.block_lt_of_cell? w _ hc0
    simp only at hbl
    clear hrg
    have Ha := Lib.hid ha; clear ha
    unfold sm at sm2 hx
    have hR : R2 (m + 1) x.ses y.ses = (decide (x.ses - y.ses = 0) || decide (x.ses - y.ses = 1)) := by
      rw [Bool.eq_iff_iff]; simp [R2]
    have HR := Lib.hid hR; clear hR
    go_enter Try.func57, Try.ntmps57
    go_wp2
    go_quiet (fail)
    go_wp2
    all_goals
      go_ret
      refine ⟨retB ?_, Below.drewN ((Below.refl _ _).alloc (Nat.le_refl _) _) _⟩
      rw [HR.out]
      (try simp only [beq_eq_false_iff_ne, ne_eq] at *) <;> (rw [Bool.eq_iff_iff]; (try simp) <;> (try omega))
/-- rule 3: its variable is the table's box -/
theorem rule3_any (v : Value) (x : T.Trk) (g : Nat) (cl : Int) (fin : Bool) (sv : Value) (w : World) (hg : BoxT w g cl fin sv) (hg1 : g < w.heap.size) (hc : -9223372036854775808 ≤ cl) (hc2 : cl ≤ 16) :
    Calls Try.prog 58 #[v, tagg x, .pointer (some ⟨g, 0, none⟩)] w (RB (decide (x.ses ≤ cl + 1 ∧ x.ses ≤ 16 ∧ (cl < x.ses ∨ x.sta = 2))) w) := by
  obtain ⟨hg3, hg4, hg5⟩ := hg
  go_enter Try.func58, Try.ntmps58
  go_wp2
  all_goals
    go_ret
    refine ⟨retB ?_, (Below.refl _ _).alloc (Nat.le_refl _) _⟩
    (try simp only at *) <;> (rw [Bool.eq_iff_iff]; (try simp) <;> (try omega))
theorem rule4_any (v : Value) (x : T.Trk) (g : Nat) (cl : Int) (fin : Bool) (sv : Value) (w : World) (hg : BoxT w g cl fin sv) (hg1 : g < w.heap.size) :
    Calls Try.prog 59 #[v, tagg x, .pointer (some ⟨g, 0, none⟩)] w (RB (decide (fin = true → x.ses ≤ cl)) w) := by
  obtain ⟨hg3, hg4, hg5⟩ := hg
  cases fin
  all_goals
    go_enter Try.func59, Try.ntmps59
    go_wp2
    all_goals
      go_ret
      refine ⟨retB ?_, (Below.refl _ _).alloc (Nat.le_refl _) _⟩
      (try simp only [beq_iff_eq, bne_iff_ne, beq_eq_false_iff_ne, bne_eq_false_iff_eq, ne_eq] at *) <;> (rw [Bool.eq_iff_iff]; (try simp) <;> (try omega))
theorem rule6_any (v : Value) (x : T.Trk) (g : Nat) (cap : Int) (w : World) (hg : w.cell? ⟨g, 0, none⟩ = some (.int .i64 cap)) (hg1 : g < w.heap.size) (hc : 1 ≤ cap) (hc2 : cap ≤ 449849) (hx : sm x.st) (hx2 : sm x.len) :
    Calls Try.prog 61 #[v, tagg x, .pointer (some ⟨g, 0, none⟩)] w (RB (decide (1 ≤ x.len ∧ x.len ≤ cap ∧ x.st ≤ cap - x.len)) w) := by
  unfold sm at hx hx2
  go_enter Try.func61, Try.ntmps61
  go_wp2
  all_goals
    go_ret
    refine ⟨retB ?_, (Below.refl _ _).alloc (Nat.le_refl _) _⟩
    (try simp only [beq_iff_eq, bne_iff_ne, beq_eq_false_iff_ne, bne_eq_false_iff_eq, ne_eq] at *) <;> (rw [Bool.eq_iff_iff]; (try simp) <;> (try omega))
theorem rule7_any (v : Value) (x : T.Trk) (w : World) (hx : smT x) :
    Calls Try.prog 62 #[v, tagg x] w (RB (decide (x.pk = 0 ∨ 1 ≤ x.pk ∧ x.pk ≤ 1024 ∧ x.len.tmod x.pk = 0 ∧ (x.nx - x.st).tmod x.pk = 0)) w) := by
  obtain ⟨sm1, sm2, sm3, sm4, sm5, sm6, sm7⟩ := hx
  unfold sm at sm1 sm2 sm3 sm4 sm5 sm6 sm7
  by_cases h0 : x.pk = 0
  · have hd : (x.pk == 0) = true := by rw [beq_iff_eq]; exact h0
    rw [decide_eq_true (.inl h0)]
    clear h0
    go_enter Try.func62, Try.ntmps62
    go_wp2
    go_ret
    exact ⟨rfl, (Below.refl _ _).alloc (Nat.le_refl _) _⟩
  · have hd : (x.pk == 0) = false := by rw [beq_eq_false_iff_ne]; exact h0
    go_enter Try.func62, Try.ntmps62
    go_wp2
    go_ways
    all_goals
      go_ret
      refine ⟨retB ?_, (Below.refl _ _).alloc (Nat.le_refl _) _⟩
      (try simp only [beq_eq_false_iff_ne, ne_eq] at *) <;> (rw [Bool.eq_iff_iff]; (try simp) <;> (try omega))
theorem rule5_any (v : Value) (n : Nat) (l : List T.Trk) (x : T.Trk) (w : World) (hr : RdS w 7 v n fun i => tcs (T.tr l i)) (hn : n ≤ 110) (hs : ∀ i, i < n → smT (T.tr l i)) (hx : sm x.ses) :
    Calls Try.prog 60 #[v, tagg x] w (RB (decide (x.st = if n = 0 then 0 else if (T.tr l (n - 1)).ses < x.ses then (T.tr l (n - 1)).st + (T.tr l (n - 1)).len + 16 else (T.tr l (n - 1)).st + (T.tr l (n - 1)).len)) w) := by
  have hst := fun W hW => start_any v n l x.ses W hW hn hs
  generalize (if n = 0 then 0 else if (T.tr l (n - 1)).ses < x.ses then (T.tr l (n - 1)).st + (T.tr l (n - 1)).len + 16 else (T.tr l (n - 1)).st + (T.tr l (n - 1)).len) = y at *
  have hb1 := (Below.refl w.heap.size w).alloc (Nat.le_refl _) (tobj x)
  have hr1 := RdS.keep hr hb1
  have HST := Lib.hid hst; clear hst
  go_enter Try.func60, Try.ntmps60
  go_wp2
  go_region_with (go_at_call 50; refine (HST.out _ (by exact hr1)).mono ?_; rintro e w1 ⟨rfl, hb⟩; have hbx : w1.cell? ⟨w.heap.size, 2, none⟩ = some (.int .i64 x.st) := (hb.cell (p := ⟨w.heap.size, 2, none⟩) (by simp)).trans (by simp [go_sem]); have hB : Below w.heap.size w w1 := (Below.alloc (Below.refl _ _) (Nat.le_refl _) _).drew.trans (hb.mono (by simp)))
  all_goals
    go_wp2
    go_ret
    refine ⟨retB ?_, hB⟩
    rw [Bool.eq_iff_iff]
    simp
end Go.Proofs.Ytiioojlihapdaaa
