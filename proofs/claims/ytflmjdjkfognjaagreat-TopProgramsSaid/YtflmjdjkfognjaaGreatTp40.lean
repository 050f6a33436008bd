/- Shaken out of XTkR XTkD XTkFind XTkFw XIl -/
import Derived.Test.YtflmjdjkfognjaaGreatTp39
import Derived.Deep.RegionHeld3
import Derived.Outline
import Derived.WalkSpells
import Derived.Test.YtflmjdjkfognjaaGreatTp01
import Derived.Test.YtflmjdjkfognjaaGreatTp06
namespace Go.Proofs.YtflmjdjkfognjaaGreat
open Go.RowKit
set_option linter.unusedVariables false
/-- a bool comes back, and nothing that was there has changed -/
def RB (b : Bool) (w : World) (e : Ending) (w' : World) : Prop := e = .returned (.bool b) ∧ Below w.heap.size w w'
/-- a track as a value -/
abbrev tagg (x : T.Trk) : Value := .agg #[.int .i64 x.num, .int .i64 x.ses, .int .i64 x.st, .int .i64 x.len, .int .i64 x.nx, .int .i64 x.sta, .int .i64 x.pk]
abbrev tobj (x : T.Trk) : Obj := .cells #[.int .i64 x.num, .int .i64 x.ses, .int .i64 x.st, .int .i64 x.len, .int .i64 x.nx, .int .i64 x.sta, .int .i64 x.pk] 28
theorem end_any (x : T.Trk) (w : World) (h1 : sm x.st) (h2 : sm x.len) :
    Calls Tryz.prog 53 #[tagg x] w fun e w' => e = .returned (.int .i64 (x.st + x.len)) ∧ w' = w.alloc (tobj x) := by
  unfold sm at h1 h2
  go_enter Tryz.func53, Tryz.ntmps53
  go_wp2
  go_ret
  exact ⟨rfl, rfl⟩
theorem state_any (x : T.Trk) (w : World) :
    Calls Tryz.prog 109 #[tagg x] w fun e w' => e = .returned (.int .i64 (if x.nx = x.st then 0 else 1)) ∧ w' = w.alloc (tobj x) := by
  by_cases h : x.nx = x.st
  · have hd : (x.nx == x.st) = true := by rw [beq_iff_eq]; exact h
    rw [if_pos h]
    clear h
    go_enter Tryz.func109, Tryz.ntmps109
    go_wp2
    go_ret
    exact ⟨rfl, rfl⟩
  · have hd : (x.nx == x.st) = false := by rw [beq_eq_false_iff_ne]; exact h
    rw [if_neg h]
    go_enter Tryz.func109, Tryz.ntmps109
    go_wp2
    go_ret
    exact ⟨rfl, rfl⟩
theorem closed_any (x : T.Trk) (w : World) (h1 : sm x.st) (h2 : sm x.len) :
    Calls Tryz.prog 108 #[tagg x] w fun e w' => e = .returned (tagg { x with sta := 2, nx := x.st + x.len }) ∧ Below w.heap.size w w' := by
  go_enter Tryz.func108, Tryz.ntmps108
  go_wp2_with (refine (end_any x _ h1 h2).mono ?_; rintro e w' ⟨rfl, rfl⟩)
  refine bodyPost_ret (v := tagg { x with sta := 2, nx := x.st + x.len }) (by simp [results, Tryz.results108, go_sem]) rfl ⟨rfl, ?_⟩
  exact (((Below.refl _ _).alloc (Nat.le_refl _) _).alloc (by simp) _).alloc (by simp; omega) _
set_option maxRecDepth 100000 in
set_option maxHeartbeats 1000000 in
theorem start_any (v : Value) (n : Nat) (l : List T.Trk) (s : Int) (w : World) (hr : RdS w 7 v n fun i => tcs (T.tr l i)) (hn : n ≤ 110) (hs : ∀ i, i < n → smT (T.tr l i)) :
    Calls Tryz.prog 104 #[v, .int .i64 s] w fun e w' => e = .returned (.int .i64 (if n = 0 then 0 else if (T.tr l (n - 1)).ses < s then (T.tr l (n - 1)).st + (T.tr l (n - 1)).len + 16 else (T.tr l (n - 1)).st + (T.tr l (n - 1)).len)) ∧ Below w.heap.size w w' := by
  obtain ⟨a, c, b, off, rfl, hac, hcell⟩ := hr
  by_cases h0 : n = 0
  · subst h0
    clear hcell hs
    rw [if_pos rfl]
    go_enter Tryz.func104, Tryz.ntmps104
    go_wp2
    go_ret
    exact ⟨rfl, Below.refl _ _⟩
  · rw [if_neg h0]
    obtain ⟨m, rfl⟩ : ∃ m, n = m + 1 := ⟨n - 1, by omega⟩
    simp only [Nat.add_sub_cancel]
    obtain ⟨ha, hrg⟩ := hcell m (by omega)
    simp only at hrg
    obtain ⟨sm1, sm2, sm3, sm4, sm5, sm6, sm7⟩ := hs m (by omega)
    clear hcell hs h0
    generalize T.tr l m = x at *
    have hix := fun w' => run_idxS Tryz.underlying22 Tryz.sizeTrack (cap := c) ha (Nat.lt_succ_self m) (m : Int) rfl w'
    have hm1 : (((m + 1 : Nat) : Int) - 1) = m := by omega
    have hz : (((m + 1 : Nat) : Int) == 0) = false := by rw [beq_eq_false_iff_ne]; omega
    have hz2 : ((m : Int) + 1 == 0) = false := by rw [beq_eq_false_iff_ne]; omega
    obtain ⟨hc0, hc1, hc2, hc3, hc4, hc5, hc6⟩ := rd7 hrg
    clear hrg
    have Ha := Lib.hid ha; clear ha
    have hb3 := sm3; have hb4 := sm4
    unfold sm at hb3 hb4
    by_cases hc : x.ses < s
    · have hd : decide (x.ses < s) = true := decide_eq_true hc
      rw [if_pos hc]
      clear hc
      go_enter Tryz.func104, Tryz.ntmps104
      go_wp2_with (refine (end_any x _ sm3 sm4).mono ?_; rintro e w' ⟨rfl, rfl⟩)
      go_ret
      exact ⟨rfl, ((Below.refl _ _).alloc (Nat.le_refl _) _).alloc (by simp) _⟩
    · have hd : decide (x.ses < s) = false := decide_eq_false hc
      rw [if_neg hc]
      clear hc
      go_enter Tryz.func104, Tryz.ntmps104
      go_wp2_with (refine (end_any x _ sm3 sm4).mono ?_; rintro e w' ⟨rfl, rfl⟩)
      go_ret
      exact ⟨rfl, ((Below.refl _ _).alloc (Nat.le_refl _) _).alloc (by simp) _⟩
/-- the cells of a boxed table -/
def BoxT (w : World) (g : Nat) (cl : Int) (fin : Bool) (sv : Value) : Prop := w.cell? ⟨g, 0, none⟩ = some (.int .i64 cl) ∧ w.cell? ⟨g, 1, none⟩ = some (.bool fin) ∧ w.cell? ⟨g, 2, none⟩ = some sv
theorem rule1_any (v : Value) (n : Nat) (x : T.Trk) (f : Nat → List Value) (w : World) (hr : RdS w 7 v n f) (hn : n ≤ 110) :
    Calls Tryz.prog 99 #[v, tagg x] w (RB (decide (x.num = n + 1)) w) := by
  obtain ⟨a, c, b, off, rfl, hac, hcell⟩ := hr
  clear hcell
  by_cases h : x.num = n + 1
  · have hd : (x.num == (n : Int) + 1) = true := by rw [beq_iff_eq]; exact h
    rw [decide_eq_true h]
    clear h
    go_enter Tryz.func99, Tryz.ntmps99
    go_wp2
    go_ret
    exact ⟨rfl, (Below.refl _ _).alloc (Nat.le_refl _) _⟩
  · have hd : (x.num == (n : Int) + 1) = false := by rw [beq_eq_false_iff_ne]; exact h
    rw [decide_eq_false h]
    clear h
    go_enter Tryz.func99, Tryz.ntmps99
    go_wp2
    go_ret
    exact ⟨rfl, (Below.refl _ _).alloc (Nat.le_refl _) _⟩
def R2 (k : Nat) (a s : Int) : Bool := decide ((k = 0 → a = 1) ∧ (0 < k → a - s = 0 ∨ a - s = 1))
theorem rule2_any (v : Value) (n : Nat) (l : List T.Trk) (x : T.Trk) (w : World) (hr : RdS w 7 v n fun i => tcs (T.tr l i)) (hn : n ≤ 110) (hs : ∀ i, i < n → smT (T.tr l i)) (hx : sm x.ses) :
    Calls Tryz.prog 100 #[v, tagg x] w (RB (R2 n x.ses (T.tr l (n - 1)).ses) w) := by
  obtain ⟨a, c, b, off, rfl, hac, hcell⟩ := hr
  by_cases h0 : n = 0
  · subst h0
    clear hcell hs
    by_cases h : x.ses = 1
    · have hd : (x.ses == 1) = true := by rw [beq_iff_eq]; exact h
      have hR : R2 0 x.ses (T.tr l (0 - 1)).ses = true := by simp [R2, h]
      rw [hR]
      clear h hR
      go_enter Tryz.func100, Tryz.ntmps100
      go_wp2
      go_ret
      exact ⟨rfl, (Below.refl _ _).alloc (Nat.le_refl _) _⟩
    · have hd : (x.ses == 1) = false := by rw [beq_eq_false_iff_ne]; exact h
      have hR : R2 0 x.ses (T.tr l (0 - 1)).ses = false := by simp [R2, h]
      rw [hR]
      clear h hR
      go_enter Tryz.func100, Tryz.ntmps100
      go_wp2
      go_ret
      exact ⟨rfl, (Below.refl _ _).alloc (Nat.le_refl _) _⟩
  · obtain ⟨m, rfl⟩ : ∃ m, n = m + 1 := ⟨n - 1, by omega⟩
    simp only [Nat.add_sub_cancel]
    obtain ⟨ha, hrg⟩ := hcell m (by omega)
    simp only at hrg
    obtain ⟨sm1, sm2, sm3, sm4, sm5, sm6, sm7⟩ := hs m (by omega)
    clear hcell hs h0
    generalize T.tr l m = y at *
    have hix := fun w' => run_idxS Tryz.underlying22 Tryz.sizeTrack (cap := c) ha (Nat.lt_succ_self m) (m : Int) rfl w'
    have hm1 : (((m + 1 : Nat) : Int) - 1) = m := by omega
    have hz : (((m + 1 : Nat) : Int) == 0) = false := by rw [beq_eq_false_iff_ne]; omega
    have hz2 : ((m : Int) + 1 == 0) = false := by rw [beq_eq_false_iff_ne]; omega
    obtain ⟨hc0, hc1, hc2, hc3, hc4, hc5, hc6⟩ := rd7 hrg
    have hbl := World.block_lt_of_cell? w _ hc0
    simp only at hbl
    clear hrg
    have Ha := Lib.hid ha; clear ha
    unfold sm at sm2 hx
    have hR : R2 (m + 1) x.ses y.ses = (decide (x.ses - y.ses = 0) || decide (x.ses - y.ses = 1)) := by
      rw [Bool.eq_iff_iff]; simp [R2]
    have HR := Lib.hid hR; clear hR
    go_enter Tryz.func100, Tryz.ntmps100
    go_wp2
    go_quiet (fail)
    go_wp2
    all_goals
      go_ret
      refine ⟨retB ?_, Below.drewN ((Below.refl _ _).alloc (Nat.le_refl _) _) _⟩
      rw [HR.out]
      (try simp only [beq_eq_false_iff_ne, ne_eq] at *) <;> (rw [Bool.eq_iff_iff]; (try simp) <;> (try omega))
/-- rule 3: its variable is the table's box -/
theorem rule3_any (v : Value) (x : T.Trk) (g : Nat) (cl : Int) (fin : Bool) (sv : Value) (w : World) (hg : BoxT w g cl fin sv) (hg1 : g < w.heap.size) (hc : -9223372036854775808 ≤ cl) (hc2 : cl ≤ 16) :
    Calls Tryz.prog 101 #[v, tagg x, .pointer (some ⟨g, 0, none⟩)] w (RB (decide (x.ses ≤ cl + 1 ∧ x.ses ≤ 16 ∧ (cl < x.ses ∨ x.sta = 2))) w) := by
  obtain ⟨hg3, hg4, hg5⟩ := hg
  go_enter Tryz.func101, Tryz.ntmps101
  go_wp2
  all_goals
    go_ret
    refine ⟨retB ?_, (Below.refl _ _).alloc (Nat.le_refl _) _⟩
    (try simp only at *) <;> (rw [Bool.eq_iff_iff]; (try simp) <;> (try omega))
theorem rule4_any (v : Value) (x : T.Trk) (g : Nat) (cl : Int) (fin : Bool) (sv : Value) (w : World) (hg : BoxT w g cl fin sv) (hg1 : g < w.heap.size) :
    Calls Tryz.prog 102 #[v, tagg x, .pointer (some ⟨g, 0, none⟩)] w (RB (decide (fin = true → x.ses ≤ cl)) w) := by
  obtain ⟨hg3, hg4, hg5⟩ := hg
  cases fin
  all_goals
    go_enter Tryz.func102, Tryz.ntmps102
    go_wp2
    all_goals
      go_ret
      refine ⟨retB ?_, (Below.refl _ _).alloc (Nat.le_refl _) _⟩
      (try simp only [beq_iff_eq, bne_iff_ne, beq_eq_false_iff_ne, bne_eq_false_iff_eq, ne_eq] at *) <;> (rw [Bool.eq_iff_iff]; (try simp) <;> (try omega))
theorem rule6_any (v : Value) (x : T.Trk) (g : Nat) (cap : Int) (w : World) (hg : w.cell? ⟨g, 0, none⟩ = some (.int .i64 cap)) (hg1 : g < w.heap.size) (hc : 1 ≤ cap) (hc2 : cap ≤ 449849) (hx : sm x.st) (hx2 : sm x.len) :
    Calls Tryz.prog 105 #[v, tagg x, .pointer (some ⟨g, 0, none⟩)] w (RB (decide (1 ≤ x.len ∧ x.len ≤ cap ∧ x.st ≤ cap - x.len)) w) := by
  unfold sm at hx hx2
  go_enter Tryz.func105, Tryz.ntmps105
  go_wp2
  all_goals
    go_ret
    refine ⟨retB ?_, (Below.refl _ _).alloc (Nat.le_refl _) _⟩
    (try simp only [beq_iff_eq, bne_iff_ne, beq_eq_false_iff_ne, bne_eq_false_iff_eq, ne_eq] at *) <;> (rw [Bool.eq_iff_iff]; (try simp) <;> (try omega))
theorem rule7_any (v : Value) (x : T.Trk) (w : World) (hx : smT x) :
    Calls Tryz.prog 106 #[v, tagg x] w (RB (decide (x.pk = 0 ∨ 1 ≤ x.pk ∧ x.pk ≤ 1024 ∧ x.len.tmod x.pk = 0 ∧ (x.nx - x.st).tmod x.pk = 0)) w) := by
  obtain ⟨sm1, sm2, sm3, sm4, sm5, sm6, sm7⟩ := hx
  unfold sm at sm1 sm2 sm3 sm4 sm5 sm6 sm7
  by_cases h0 : x.pk = 0
  · have hd : (x.pk == 0) = true := by rw [beq_iff_eq]; exact h0
    rw [decide_eq_true (.inl h0)]
    clear h0
    go_enter Tryz.func106, Tryz.ntmps106
    go_wp2
    go_ret
    exact ⟨rfl, (Below.refl _ _).alloc (Nat.le_refl _) _⟩
  · have hd : (x.pk == 0) = false := by rw [beq_eq_false_iff_ne]; exact h0
    go_enter Tryz.func106, Tryz.ntmps106
    go_wp2
    go_ways
    all_goals
      go_ret
      refine ⟨retB ?_, (Below.refl _ _).alloc (Nat.le_refl _) _⟩
      (try simp only [beq_eq_false_iff_ne, ne_eq] at *) <;> (rw [Bool.eq_iff_iff]; (try simp) <;> (try omega))
theorem rule5_any (v : Value) (n : Nat) (l : List T.Trk) (x : T.Trk) (w : World) (hr : RdS w 7 v n fun i => tcs (T.tr l i)) (hn : n ≤ 110) (hs : ∀ i, i < n → smT (T.tr l i)) (hx : sm x.ses) :
    Calls Tryz.prog 103 #[v, tagg x] w (RB (decide (x.st = if n = 0 then 0 else if (T.tr l (n - 1)).ses < x.ses then (T.tr l (n - 1)).st + (T.tr l (n - 1)).len + 16 else (T.tr l (n - 1)).st + (T.tr l (n - 1)).len)) w) := by
  have hst := fun W hW => start_any v n l x.ses W hW hn hs
  generalize (if n = 0 then 0 else if (T.tr l (n - 1)).ses < x.ses then (T.tr l (n - 1)).st + (T.tr l (n - 1)).len + 16 else (T.tr l (n - 1)).st + (T.tr l (n - 1)).len) = y at *
  have hb1 := (Below.refl w.heap.size w).alloc (Nat.le_refl _) (tobj x)
  have hr1 := RdS.keep hr hb1
  have HST := Lib.hid hst; clear hst
  go_enter Tryz.func103, Tryz.ntmps103
  go_wp2
  go_region_with (go_at_call 104; refine (HST.out _ (by exact hr1)).mono ?_; rintro e w1 ⟨rfl, hb⟩; have hbx : w1.cell? ⟨w.heap.size, 2, none⟩ = some (.int .i64 x.st) := (hb.cell (p := ⟨w.heap.size, 2, none⟩) (by simp)).trans (by simp [go_sem]); have hB : Below w.heap.size w w1 := (Below.alloc (Below.refl _ _) (Nat.le_refl _) _).drew.trans (hb.mono (by simp)))
  all_goals
    go_wp2
    go_ret
    refine ⟨retB ?_, hB⟩
    rw [Bool.eq_iff_iff]
    simp
end Go.Proofs.YtflmjdjkfognjaaGreat
namespace Go.Proofs.YtflmjdjkfognjaaGreat
open Go.RowKit
set_option linter.unusedVariables false
/-- the cells of a list of tracks -/
def fl (l : List T.Trk) : List Value := l.flatMap tcs
theorem fl_eq (l : List T.Trk) : (List.range l.length).flatMap (fun i => tcs (T.tr l i)) = fl l := by
  unfold fl
  have h : l = (List.range l.length).map (T.tr l) := by
    apply List.ext_getElem
    · simp
    · intro i h1 h2
      simp [T.tr, h1]
  conv => rhs; rw [h]
  rw [List.flatMap_map]
theorem RdK.ofOwn {w : World} {base e : Nat} {v : Value} {l : List T.Trk} (h : w.ownsRow base e 7 v l.length (fl l)) : RdK w v l := by
  rw [← fl_eq] at h
  exact RdS.ofOwn (fun _ => tcs_length _) h
theorem RdK.reads {w : World} {v : Value} {l : List T.Trk} (h : RdK w v l) : Reads w 7 v l.length (fl l) := by
  have := RdS.reads (fun _ => tcs_length _) h
  rwa [fl_eq] at this
theorem Tryz.infoTrack : (Tryz.prog.info? 28).map (fun i => (i.zero, i.size, i.bytes)) = some (some (.agg #[.int .i64 0, .int .i64 0, .int .i64 0, .int .i64 0, .int .i64 0, .int .i64 0, .int .i64 0]), 7, 56) := by kernel_rfl
/-- a table as a value -/
abbrev tval (cl : Int) (fin : Bool) (v : Value) : Value := .agg #[.int .i64 cl, .bool fin, v]
end Go.Proofs.YtflmjdjkfognjaaGreat
namespace Go.Proofs.YtflmjdjkfognjaaGreat
open Go.RowKit
set_option linter.unusedVariables false
set_option maxRecDepth 100000 in
set_option maxHeartbeats 2000000 in
theorem find_hit (cl : Int) (fin : Bool) (sv : Value) (l : List T.Trk) (lba : Int) (w : World) (hr : RdK w sv l) (hf : Few l) (i : Nat) (hi : i < l.length) (h1 : (T.tr l i).st ≤ lba) (h2 : lba < (T.tr l i).st + (T.tr l i).len)
    (h3 : ∀ j, j < i → ¬ ((T.tr l j).st ≤ lba ∧ lba < (T.tr l j).st + (T.tr l j).len)) :
    Calls Tryz.prog 14 #[tval cl fin sv, .int .i64 lba] w fun e w' => e = .returned (.tuple #[.int .i64 (T.tr l i).num, .bool true]) ∧ Below w.heap.size w w' := by
  obtain ⟨a, c, b, off, rfl, hac, hcell⟩ := hr
  have HC := Lib.hid hcell; clear hcell
  have H3 := Lib.hid h3; clear h3
  have H12 := Lib.hid (And.intro h1 h2); clear h1 h2
  have HF := Lib.hid hf.2
  have hn := hf.1
  clear hf
  go_enter Tryz.func14, Tryz.ntmps14
  go_wp2_with fail
  go_loopw [11] (fun vi wr => ∃ (k : Nat), k ≤ i ∧ vi = .int .i64 k ∧ Below (w.heap.size + 1) (w.alloc (.cells #[.int .i64 cl, .bool fin, .slice a l.length c] 24)) wr) (fun vi _ => l.length - (intOf vi).toNat)
  case atStart => exact ⟨0, by omega, rfl, by simpa using Below.refl _ _⟩
  case round =>
    obtain ⟨k, hk, rfl, hb⟩ := hrel
    have hlt : k < l.length := by omega
    obtain ⟨ha, hrange⟩ := HC.out k hlt
    have hsz : w.heap.size < wr.heap.size := by have := hb.size; simp at this; omega
    have hb0 : Below w.heap.size w wr := ((Below.refl _ _).alloc (Nat.le_refl _) _).trans (hb.mono (by omega))
    have hrg : wr.rangeAt b (off + k * 7) (tcs (T.tr l k)) := fun j u hu => (hb0.cell (p := ⟨b, off + k * 7 + j, none⟩) (World.block_lt_of_cell? w _ (hrange j u hu))).trans (hrange j u hu)
    clear hrange
    have hsm := HF.out k hlt
    have HE : Hid (k = i → (T.tr l k).st ≤ lba ∧ lba < (T.tr l k).st + (T.tr l k).len) := Lib.hid fun e => by rw [e]; exact H12.out
    have HN : Hid (k < i → ¬ ((T.tr l k).st ≤ lba ∧ lba < (T.tr l k).st + (T.tr l k).len)) := Lib.hid fun e => H3.out k e
    have HX : Hid (k = i → (T.tr l i).num = (T.tr l k).num) := Lib.hid fun e => by rw [e]
    generalize T.tr l k = x at *
    obtain ⟨_, _, sm3, sm4, _⟩ := hsm
    have hix := fun w' => run_idxS Tryz.underlying22 Tryz.sizeTrack (cap := c) ha hlt _ rfl w'
    obtain ⟨hc0, hc1, hc2, hc3, hc4, hc5, hc6⟩ := rd7 hrg
    clear hrg
    have Ha := Lib.hid ha; clear ha
    by_cases hki : k = i
    · have hq := HE.out hki
      have d1 : decide (x.st ≤ lba) = true := decide_eq_true hq.1
      have d2 : decide (lba < x.st + x.len) = true := decide_eq_true hq.2
      clear hq
      have HX2 := Lib.hid (HX.out hki)
      have Hki := Lib.hid hki; clear hki
      go_wp2_with (go_at_call 53; refine (end_any x _ sm3 sm4).mono ?_; rintro e w1 ⟨rfl, rfl⟩)
      go_ret2
      rw [HX2.out]
      refine ⟨rfl, ?_⟩
      repeat (first | exact hb0 | refine Below.alloc ?_ (by first | omega | (simp; omega) | simp) _ | refine Below.drew ?_)
    · have hq := HN.out (by omega)
      by_cases d1 : x.st ≤ lba
      · have d2 : decide (lba < x.st + x.len) = false := decide_eq_false fun h => hq ⟨d1, h⟩
        have d1 : decide (x.st ≤ lba) = true := decide_eq_true d1
        clear hq
        go_wp2_with (go_at_call 53; refine (end_any x _ sm3 sm4).mono ?_; rintro e w1 ⟨rfl, rfl⟩)
        go_roundw
        case rel =>
          refine ⟨k + 1, by omega, by go_num, ?_⟩
          repeat (first | exact hb | refine Below.alloc ?_ (by first | omega | (simp; omega) | simp) _ | refine Below.drew ?_)
        case measure => simp [intOf]; omega
      · have d1 : decide (x.st ≤ lba) = false := decide_eq_false d1
        clear hq
        go_wp2_with fail
        go_roundw
        case rel =>
          refine ⟨k + 1, by omega, by go_num, ?_⟩
          repeat (first | exact hb | refine Below.alloc ?_ (by first | omega | (simp; omega) | simp) _ | refine Below.drew ?_)
        case measure => simp [intOf]; omega
end Go.Proofs.YtflmjdjkfognjaaGreat
namespace Go.Proofs.YtflmjdjkfognjaaGreat
set_option linter.unusedVariables false
theorem few_of_valid {cap cl : Int} {fin : Bool} {l : List T.Trk} (hv : T.validR cap cl fin l) : Few l := by
  refine ⟨by have := hv.2.2.1; omega, fun i hi => ?_⟩
  have h1 := hv.at hi
  have h2 := hv.2.1
  have h0 := hv.2.2.1
  have ho := hv.2.2.2.2.2.1 i hi
  obtain ⟨o1, o2, o3, o4, o5, o6, o7, o8, o9, o10, o11, o12, o13, o14⟩ := ho
  have hs : 1 ≤ (T.tr l i).ses := by
    have := T.okR.mono hv.2.2.2.2.2.1 0 (i + 1) (by omega)
    rw [Nat.zero_add, T.sB_zero, T.sB_succ] at this
    exact this
  unfold smT sm
  refine ⟨⟨by omega, by omega⟩, ⟨by omega, by omega⟩, ⟨by omega, by omega⟩, ⟨by omega, by omega⟩, ⟨by omega, by omega⟩, ⟨by omega, by omega⟩, ⟨by omega, by omega⟩⟩
end Go.Proofs.YtflmjdjkfognjaaGreat
namespace Go.Proofs.YtflmjdjkfognjaaGreat.T7
open Go Go.RowKit W10
set_option linter.unusedVariables false
theorem prog_some {F : List T.Trk} (hS : Q.Sess F) {n : Int} (h1 : n < Q.endL F) : ∃ i, Q.firstP F n F.length = some i ∧ i < F.length ∧ n < Q.en F i ∧ ∀ j, j < i → ¬ n < Q.en F j := by
  cases hi : Q.firstP F n F.length with
  | none =>
    have h := firstP_spec' hi
    have hn := hS.1
    have := h (F.length - 1) (by omega)
    unfold Q.endL at h1
    omega
  | some i =>
    obtain ⟨g1, g2, g3⟩ := firstP_spec hi
    exact ⟨i, rfl, g1, g2, fun j hj => by have := g3 j hj; omega⟩
theorem prog_fr {F : List T.Trk} (hS : Q.Sess F) {n : Int} (h0 : 0 ≤ n) (h1 : n < Q.endL F) : ∃ q, Q.progR F 4 n = (q, 0) ∧ frB q = true ∧
    ((q.pt = 1 ∧ ∃ i, i < F.length ∧ q.trk = (T.tr F i).num ∧ (T.tr F i).st ≤ n ∧ n < (T.tr F i).st + (T.tr F i).len) ∨
     (q.pt = 0 ∧ ∃ i, i < F.length ∧ n < (T.tr F i).st ∧ ∀ j, j < i → ¬ n < Q.en F j)) := by
  obtain ⟨i, hi, hl, he, hb⟩ := prog_some hS h1
  have hat := hS.at hl
  have hen := hS.ends hl
  have hE := hS.at (i := F.length - 1) (by omega)
  have hE2 : Q.endL F ≤ 449849 := by unfold Q.endL Q.en; omega
  refine ⟨Q.progF F 4 n (some i), ?_, ?_, ?_⟩
  · unfold Q.progR
    rw [if_neg (by rw [Q.sessB_true.2 hS]; decide), if_neg (by omega), hi]
  · by_cases h : n < (T.tr F i).st
    · rw [progF_gap _ _ _ _ h]
      exact mk_ok (by omega) (by omega) (.inl (by omega)) (.inl rfl) (by omega) (by omega) (by omega) (by omega)
    · rw [progF_in _ _ _ _ h]
      exact mk_ok (by omega) (by omega) (.inl (by omega)) (.inr rfl) (by omega) (by omega) (by omega) (by omega)
  · by_cases h : n < (T.tr F i).st
    · right
      rw [progF_gap _ _ _ _ h]
      exact ⟨rfl, i, hl, h, hb⟩
    · left
      rw [progF_in _ _ _ _ h]
      unfold Q.en at he
      exact ⟨rfl, i, hl, rfl, by omega, he⟩
/-- a block that no track has -/
theorem gap_none {cap cl : Int} {fin : Bool} {l : List T.Trk} {s : Int} (hv : T.validR cap cl fin l) (hS : Q.Sess (T.of l s l.length)) {n : Int} (h0 : (T.tr (T.of l s l.length) 0).st ≤ n) {i : Nat} (hi : i < (T.of l s l.length).length) (h1 : n < (T.tr (T.of l s l.length) i).st)
    (h2 : ∀ j, j < i → ¬ n < Q.en (T.of l s l.length) j) (k : Nat) (hk : k < l.length) : ¬ ((T.tr l k).st ≤ n ∧ n < (T.tr l k).st + (T.tr l k).len) := by
  have hr := hv.2.2.2.2.2.1
  cases i with
  | zero => omega
  | succ i =>
    obtain ⟨m, hm, he⟩ := T.of_mem _ (T.tr_mem hi)
    obtain ⟨m', hm', he'⟩ := T.of_mem _ (T.tr_mem (show i < (T.of l s l.length).length by omega))
    have hnum := (hS.mono i 1 (by omega)).1
    have b1 := T.tr_bd hv hm
    have b2 := T.tr_bd hv hm'
    have g2 := h2 i (by omega)
    unfold Q.en at g2
    rw [he, he'] at hnum
    rw [he'] at g2
    rw [he] at h1
    have hmm : m = m' + 1 := by omega
    subst hmm
    rintro ⟨c1, c2⟩
    rcases Nat.lt_trichotomy k m' with g | g | g
    · have := T.apart hr g hm'; omega
    · subst g; omega
    · by_cases g2 : k = m' + 1
      · subst g2; omega
      · have := T.apart hr (show m' + 1 < k by omega) hk; omega
set_option maxRecDepth 100000 in
set_option maxHeartbeats 2000000 in
theorem find_none (cl : Int) (fin : Bool) (sv : Value) (l : List T.Trk) (lba : Int) (w : World) (hr : RdK w sv l) (hf : Few l) 
    (h3 : ∀ j, j < l.length → ¬ ((T.tr l j).st ≤ lba ∧ lba < (T.tr l j).st + (T.tr l j).len)) :
    Calls Tryz.prog 14 #[tval cl fin sv, .int .i64 lba] w fun e w' => e = .returned (.tuple #[.int .i64 0, .bool false]) ∧ Below w.heap.size w w' := by
  obtain ⟨a, c, b, off, rfl, hac, hcell⟩ := hr
  have HC := Lib.hid hcell; clear hcell
  have H3 := Lib.hid h3; clear h3
  have HF := Lib.hid hf.2
  have hn := hf.1
  clear hf
  go_enter Tryz.func14, Tryz.ntmps14
  go_wp2_with fail
  go_loopw [11] (fun vi wr => ∃ (k : Nat), k ≤ l.length ∧ vi = .int .i64 k ∧ Below (w.heap.size + 1) (w.alloc (.cells #[.int .i64 cl, .bool fin, .slice a l.length c] 24)) wr) (fun vi _ => l.length - (intOf vi).toNat)
  case atStart => exact ⟨0, by omega, rfl, by simpa using Below.refl _ _⟩
  case round =>
    obtain ⟨k, hk, rfl, hb⟩ := hrel
    have hsz : w.heap.size < wr.heap.size := by have := hb.size; simp at this; omega
    have hb0 : Below w.heap.size w wr := ((Below.refl _ _).alloc (Nat.le_refl _) _).trans (hb.mono (by omega))
    by_cases hlt : k < l.length
    · obtain ⟨ha, hrange⟩ := HC.out k hlt
      have hrg : wr.rangeAt b (off + k * 7) (tcs (T.tr l k)) := fun j u hu => (hb0.cell (p := ⟨b, off + k * 7 + j, none⟩) (World.block_lt_of_cell? w _ (hrange j u hu))).trans (hrange j u hu)
      clear hrange
      have hsm := HF.out k hlt
      have hq := H3.out k hlt
      generalize T.tr l k = x at *
      obtain ⟨_, _, sm3, sm4, _⟩ := hsm
      have hix := fun w' => run_idxS Tryz.underlying22 Tryz.sizeTrack (cap := c) ha hlt _ rfl w'
      obtain ⟨hc0, hc1, hc2, hc3, hc4, hc5, hc6⟩ := rd7 hrg
      clear hrg
      have Ha := Lib.hid ha; clear ha
      by_cases d1 : x.st ≤ lba
      · have d2 : decide (lba < x.st + x.len) = false := decide_eq_false fun h => hq ⟨d1, h⟩
        have d1 : decide (x.st ≤ lba) = true := decide_eq_true d1
        clear hq
        go_wp2_with (go_at_call 53; refine (end_any x _ sm3 sm4).mono ?_; rintro e w1 ⟨rfl, rfl⟩)
        go_roundw
        case rel =>
          refine ⟨k + 1, by omega, by go_num, ?_⟩
          repeat (first | exact hb | refine Below.alloc ?_ (by first | omega | (simp; omega) | simp) _ | refine Below.drew ?_)
        case measure => simp [intOf]; omega
      · have d1 : decide (x.st ≤ lba) = false := decide_eq_false d1
        clear hq
        go_wp2_with fail
        go_roundw
        case rel =>
          refine ⟨k + 1, by omega, by go_num, ?_⟩
          repeat (first | exact hb | refine Below.alloc ?_ (by first | omega | (simp; omega) | simp) _ | refine Below.drew ?_)
        case measure => simp [intOf]; omega
    · obtain rfl : k = l.length := by omega
      go_wp2_with fail
      go_ret2
      exact ⟨rfl, hb0⟩
/-- Find at the block of a frame -/
theorem find_fr {cap cl : Int} {fin : Bool} {l : List T.Trk} {s : Int} (hv : T.validR cap cl fin l) (hS : Q.Sess (T.of l s l.length)) {n : Int} (h0 : (T.tr (T.of l s l.length) 0).st ≤ n) (h1 : n < Q.endL (T.of l s l.length)) :
    ∃ (q : Q.Fr) (t : Int) (b : Bool), Q.progR (T.of l s l.length) 4 n = (q, 0) ∧ frB q = true ∧ ((b = true ∧ q.pt = 1 ∧ t = q.trk) ∨ (b = false ∧ q.pt = 0)) ∧
      ∀ (sv : Value) (w : World), RdK w sv l → Calls Tryz.prog 14 #[tval cl fin sv, .int .i64 n] w fun e w' => e = .returned (.tuple #[.int .i64 t, .bool b]) ∧ Below w.heap.size w w' := by
  have hat0 := hS.at (i := 0) hS.1
  obtain ⟨q, e1, e2, hc⟩ := prog_fr hS (n := n) (by omega) h1
  rcases hc with ⟨hp, i, hi, ht, g1, g2⟩ | ⟨hp, i, hi, g1, g2⟩
  · obtain ⟨m, hm, he⟩ := T.of_mem _ (T.tr_mem hi)
    rw [he] at ht g1 g2
    refine ⟨q, q.trk, true, e1, e2, .inl ⟨rfl, hp, rfl⟩, fun sv w hr => ?_⟩
    rw [ht]
    exact find_hit cl fin sv l n w hr (few_of_valid hv) m hm g1 g2 fun j hj hh => by
      have := T.only hv.2.2.2.2.2.1 (Nat.lt_trans hj hm) hm hh.1 hh.2 g1 g2
      omega
  · exact ⟨q, 0, false, e1, e2, .inr ⟨rfl, hp⟩, fun sv w hr => find_none cl fin sv l n w hr (few_of_valid hv) fun k hk => gap_none hv hS h0 hi g1 g2 k hk⟩
end Go.Proofs.YtflmjdjkfognjaaGreat.T7
