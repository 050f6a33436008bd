/- Shaken out of XTkJ -/
import Derived.Test.YtflmjdjkfognjaaGreatTp42
import Derived.Test.YtflmjdjkfognjaaGreatTp40
import Derived.Test.YtflmjdjkfognjaaGreatTp43
import Derived.Laws.BitsLemmas
namespace Go.Proofs.YtflmjdjkfognjaaGreat
open Go.RowKit
set_option linter.unusedVariables false
/-- the rule 'r' of the track 'i', for any numbers -/
def ruleG (cap cl : Int) (fin : Bool) (l : List T.Trk) (i r : Nat) : Bool :=
  if r = 6 then decide ((T.tr l i).pk = 0 ∨ 1 ≤ (T.tr l i).pk ∧ (T.tr l i).pk ≤ 1024 ∧ (T.tr l i).len.tmod (T.tr l i).pk = 0 ∧ (IntKind.i64.wrap ((T.tr l i).nx - (T.tr l i).st)).tmod (T.tr l i).pk = 0) else ruleB cap cl fin l i r
theorem ruleG_ne {cap cl : Int} {fin : Bool} {l : List T.Trk} {i r : Nat} (h : r ≠ 6) : ruleG cap cl fin l i r = ruleB cap cl fin l i r := if_neg h
theorem wrap_01 {a s : Int} (ha : In64 a) (hs : sm s) : (IntKind.i64.wrap (a - s) = 0 ↔ a - s = 0) ∧ (IntKind.i64.wrap (a - s) = 1 ↔ a - s = 1) := by
  unfold In64 at ha
  unfold sm at hs
  rw [IntKind.wrap_i64]
  omega
/-- the tracks ahead are small -/
theorem small_of {cap cl : Int} {fin : Bool} {l : List T.Trk} (hc : cap ≤ 449849) : ∀ n, n ≤ 110 → (∀ m, m < n → T.okI cap cl fin l m) → ∀ m, m < n → smT (T.tr l m) ∧ 1 ≤ (T.tr l m).ses ∧ 0 ≤ (T.tr l m).st
  | 0, _, _ => fun m hm => by omega
  | n + 1, hn, h => fun m hm => by
    have ih := small_of hc n (by omega) (fun m hm => h m (by omega))
    by_cases e : m < n
    · exact ih m e
    · obtain rfl : m = n := by omega
      obtain ⟨g1, g2, g3, g4, g5, g6, g7, g8, g9, g10, g11, g12, g13, g14⟩ := h m (by omega)
      have hb : 1 ≤ (T.tr l m).ses ∧ 0 ≤ (T.tr l m).st := by
        by_cases e0 : m = 0
        · rw [if_pos e0] at g8
          have := g2 e0
          omega
        · obtain ⟨_, i2, i3⟩ := ih (m - 1) (by omega)
          have k := h (m - 1) (by omega)
          obtain ⟨_, _, _, _, _, _, _, _, k9, _⟩ := k
          have hs : T.sB l m = (T.tr l (m - 1)).ses := by unfold T.sB; rw [if_neg e0]
          have he : T.eB l m = (T.tr l (m - 1)).st + (T.tr l (m - 1)).len := by unfold T.eB; rw [if_neg e0]
          have := g3 (by omega)
          rw [if_neg e0, hs, he] at g8
          rw [hs] at this
          constructor
          · omega
          · rw [g8]; split <;> omega
      have hpk : 0 ≤ (T.tr l m).pk ∧ (T.tr l m).pk ≤ 1024 := by omega
      have hnx : (T.tr l m).st ≤ (T.tr l m).nx ∧ (T.tr l m).nx ≤ (T.tr l m).st + (T.tr l m).len ∧ 0 ≤ (T.tr l m).sta ∧ (T.tr l m).sta ≤ 2 := by
        by_cases e2 : (T.tr l m).sta = 2
        · have := g13 e2; omega
        · obtain ⟨a, b, c⟩ := g14 e2
          refine ⟨a, b, ?_⟩
          rw [c]; split <;> omega
      refine ⟨?_, hb⟩
      unfold smT sm
      refine ⟨⟨by omega, by omega⟩, ⟨by omega, by omega⟩, ⟨by omega, by omega⟩, ⟨by omega, by omega⟩, ⟨by omega, by omega⟩, ⟨by omega, by omega⟩, ⟨by omega, by omega⟩⟩
/-- what the rules ahead of the last two say of a track -/
theorem mid_of {cap cl : Int} {fin : Bool} {l : List T.Trk} {i j : Nat} (hc : cap ≤ 449849) (hcl : 0 ≤ cl) (hi : i ≤ 110) (hp : ∀ m, m < i → smT (T.tr l m) ∧ 1 ≤ (T.tr l m).ses ∧ 0 ≤ (T.tr l m).st ∧ (T.tr l m).st + (T.tr l m).len ≤ cap ∧ 1 ≤ (T.tr l m).len) (h : ∀ r, r < j → ruleG cap cl fin l i r = true) :
    (4 < j → sm (T.tr l i).st ∧ 0 ≤ (T.tr l i).st) ∧ (5 < j → sm (T.tr l i).len) := by
  refine ⟨fun hj => ?_, fun hj => ?_⟩
  · have h4 := h 4 (by omega)
    rw [ruleG_ne (by decide)] at h4
    simp only [ruleB, decide_eq_true_eq] at h4
    unfold sm
    by_cases e0 : i = 0
    · rw [if_pos e0] at h4; omega
    · rw [if_neg e0] at h4
      obtain ⟨_, _, p3, p4, p5⟩ := hp (i - 1) (by omega)
      rw [h4]
      split <;> omega
  · have h5 := h 5 (by omega)
    rw [ruleG_ne (by decide)] at h5
    simp only [ruleB, decide_eq_true_eq] at h5
    unfold sm
    omega
theorem rules_okG (cap cl : Int) (fin : Bool) (l : List T.Trk) (i : Nat) (hc : cap ≤ 449849) (hcl : 0 ≤ cl) (hi : i ≤ 110) (hp : ∀ m, m < i → smT (T.tr l m) ∧ 1 ≤ (T.tr l m).ses ∧ 0 ≤ (T.tr l m).st ∧ (T.tr l m).st + (T.tr l m).len ≤ cap ∧ 1 ≤ (T.tr l m).len) :
    (∀ r, r < 8 → ruleG cap cl fin l i r = true) ↔ T.okI cap cl fin l i := by
  rw [← rules_ok]
  have key : (T.tr l i).st ≤ (T.tr l i).nx ∧ (T.tr l i).nx ≤ (T.tr l i).st + (T.tr l i).len → sm (T.tr l i).st → sm (T.tr l i).len → ruleG cap cl fin l i 6 = ruleB cap cl fin l i 6 := fun ⟨k1, k2⟩ k3 k4 => by
    unfold sm at k3 k4
    unfold ruleG
    rw [if_pos rfl, IntWalk.i64_in _ (by omega)]
    rfl
  have nxb : R8 (T.tr l i) = true → 1 ≤ (T.tr l i).len → (T.tr l i).st ≤ (T.tr l i).nx ∧ (T.tr l i).nx ≤ (T.tr l i).st + (T.tr l i).len := fun h h1 => by
    unfold R8 at h
    simp only [decide_eq_true_eq] at h
    by_cases e2 : (T.tr l i).sta = 2
    · have := h.1 e2; omega
    · have := h.2 e2; omega
  constructor
  · intro h r hr
    by_cases e : r = 6
    · subst e
      obtain ⟨m1, m2⟩ := mid_of hc hcl hi hp h
      have h5 := h 5 (by omega)
      rw [ruleG_ne (by decide)] at h5
      simp only [ruleB, decide_eq_true_eq] at h5
      have h7 := h 7 (by omega)
      rw [ruleG_ne (by decide)] at h7
      rw [← key (nxb h7 h5.1) (m1 (by omega)).1 (m2 (by omega))]
      exact h 6 hr
    · rw [← ruleG_ne e]; exact h r hr
  · intro h r hr
    by_cases e : r = 6
    · subst e
      have hG : ∀ r, r < 6 → ruleG cap cl fin l i r = true := fun r hr => by rw [ruleG_ne (by omega)]; exact h r (by omega)
      obtain ⟨m1, m2⟩ := mid_of hc hcl hi hp hG
      have h5 := h 5 (by omega)
      simp only [ruleB, decide_eq_true_eq] at h5
      rw [key (nxb (h 7 (by omega)) h5.1) (m1 (by omega)).1 (m2 (by omega))]
      exact h 6 hr
    · rw [ruleG_ne e]; exact h r hr
set_option maxHeartbeats 1000000 in
theorem rule2_all (v : Value) (n : Nat) (l : List T.Trk) (x : T.Trk) (w : World) (hr : RdS w 7 v n fun i => tcs (T.tr l i)) (hn : n ≤ 110) (hs : ∀ i, i < n → smT (T.tr l i)) (hx : In64 x.ses) :
    Calls Tryz.prog 100 #[v, tagg x] w (RB (R2 n x.ses (T.tr l (n - 1)).ses) w) := by
  obtain ⟨a, c, b, off, rfl, hac, hcell⟩ := hr
  by_cases h0 : n = 0
  · subst h0
    clear hcell hs
    by_cases h : x.ses = 1
    · have hd : (x.ses == 1) = true := by rw [beq_iff_eq]; exact h
      have hR : R2 0 x.ses (T.tr l (0 - 1)).ses = true := by simp [R2, h]
      rw [hR]
      clear h hR
      go_enter Tryz.func100, Tryz.ntmps100
      go_wp2
      go_ret
      exact ⟨rfl, (Below.refl _ _).alloc (Nat.le_refl _) _⟩
    · have hd : (x.ses == 1) = false := by rw [beq_eq_false_iff_ne]; exact h
      have hR : R2 0 x.ses (T.tr l (0 - 1)).ses = false := by simp [R2, h]
      rw [hR]
      clear h hR
      go_enter Tryz.func100, Tryz.ntmps100
      go_wp2
      go_ret
      exact ⟨rfl, (Below.refl _ _).alloc (Nat.le_refl _) _⟩
  · obtain ⟨m, rfl⟩ : ∃ m, n = m + 1 := ⟨n - 1, by omega⟩
    simp only [Nat.add_sub_cancel]
    obtain ⟨ha, hrg⟩ := hcell m (by omega)
    simp only at hrg
    obtain ⟨sm1, sm2, sm3, sm4, sm5, sm6, sm7⟩ := hs m (by omega)
    clear hcell hs h0
    generalize T.tr l m = y at *
    have hix := fun w' => run_idxS Tryz.underlying22 Tryz.sizeTrack (cap := c) ha (Nat.lt_succ_self m) (m : Int) rfl w'
    have hm1 : (((m + 1 : Nat) : Int) - 1) = m := by omega
    have hz : (((m + 1 : Nat) : Int) == 0) = false := by rw [beq_eq_false_iff_ne]; omega
    have hz2 : ((m : Int) + 1 == 0) = false := by rw [beq_eq_false_iff_ne]; omega
    obtain ⟨hc0, hc1, hc2, hc3, hc4, hc5, hc6⟩ := rd7 hrg
    have hbl := World.block_lt_of_cell? w _ hc0
    simp only at hbl
    clear hrg
    have Ha := Lib.hid ha; clear ha
    have hwk := wrap_01 hx sm2
    generalize hk : IntKind.i64.wrap (x.ses - y.ses) = k at hwk
    unfold sm at sm2
    unfold In64 at hx
    have hR : R2 (m + 1) x.ses y.ses = (decide (x.ses - y.ses = 0) || decide (x.ses - y.ses = 1)) := by
      rw [Bool.eq_iff_iff]; simp [R2]
    have HR := Lib.hid hR; clear hR
    go_enter Tryz.func100, Tryz.ntmps100
    go_wp2
    go_quiet (fail)
    go_wp2
    all_goals
      go_ret
      refine ⟨retB ?_, Below.drewN ((Below.refl _ _).alloc (Nat.le_refl _) _) _⟩
      rw [HR.out]
      (try simp only [beq_eq_false_iff_ne, ne_eq] at *) <;> (rw [Bool.eq_iff_iff]; (try simp) <;> (try omega))
theorem rule6_all (v : Value) (x : T.Trk) (g : Nat) (cap : Int) (w : World) (hg : w.cell? ⟨g, 0, none⟩ = some (.int .i64 cap)) (hg1 : g < w.heap.size) (hc : 1 ≤ cap) (hc2 : cap ≤ 449849) (hx : sm x.st) :
    Calls Tryz.prog 105 #[v, tagg x, .pointer (some ⟨g, 0, none⟩)] w (RB (decide (1 ≤ x.len ∧ x.len ≤ cap ∧ x.st ≤ cap - x.len)) w) := by
  by_cases h1 : 1 ≤ x.len
  · by_cases h2 : x.len ≤ cap
    · exact rule6_any v x g cap w hg hg1 hc hc2 hx (by unfold sm; omega)
    · have d1 : decide (1 ≤ x.len) = true := decide_eq_true h1
      have d2 : decide (x.len ≤ cap) = false := decide_eq_false h2
      rw [show decide (1 ≤ x.len ∧ x.len ≤ cap ∧ x.st ≤ cap - x.len) = false from decide_eq_false fun h => h2 h.2.1]
      clear h1 h2
      go_enter Tryz.func105, Tryz.ntmps105
      go_wp2
      go_ret
      exact ⟨rfl, (Below.refl _ _).alloc (Nat.le_refl _) _⟩
  · have d1 : decide (1 ≤ x.len) = false := decide_eq_false h1
    rw [show decide (1 ≤ x.len ∧ x.len ≤ cap ∧ x.st ≤ cap - x.len) = false from decide_eq_false fun h => h1 h.1]
    clear h1
    go_enter Tryz.func105, Tryz.ntmps105
    go_wp2
    go_ret
    exact ⟨rfl, (Below.refl _ _).alloc (Nat.le_refl _) _⟩
set_option maxHeartbeats 2000000 in
theorem rule7_all (v : Value) (x : T.Trk) (w : World) (hpk : In64 x.pk) :
    Calls Tryz.prog 106 #[v, tagg x] w (RB (decide (x.pk = 0 ∨ 1 ≤ x.pk ∧ x.pk ≤ 1024 ∧ x.len.tmod x.pk = 0 ∧ (IntKind.i64.wrap (x.nx - x.st)).tmod x.pk = 0)) w) := by
  unfold In64 at hpk
  generalize hk : IntKind.i64.wrap (x.nx - x.st) = k
  by_cases h0 : x.pk = 0
  · have hd : (x.pk == 0) = true := by rw [beq_iff_eq]; exact h0
    rw [decide_eq_true (.inl h0)]
    clear h0
    go_enter Tryz.func106, Tryz.ntmps106
    go_wp2
    go_ret
    exact ⟨rfl, (Below.refl _ _).alloc (Nat.le_refl _) _⟩
  · have hd : (x.pk == 0) = false := by rw [beq_eq_false_iff_ne]; exact h0
    go_enter Tryz.func106, Tryz.ntmps106
    go_wp2
    go_ways
    all_goals
      go_ret
      refine ⟨retB ?_, (Below.refl _ _).alloc (Nat.le_refl _) _⟩
      (try simp only [beq_eq_false_iff_ne, ne_eq] at *) <;> (rw [Bool.eq_iff_iff]; (try simp) <;> (try omega))
section
variable {cap cl : Int} {fin : Bool} {sv : Value} {l : List T.Trk} {i : Nat} {v' : Value} {g : Nat}
theorem callG0 (hh : i ≤ 110 ∧ (∀ m, m < i → smT (T.tr l m)) ∧ Wf (T.tr l i) ∧ 1 ≤ cap ∧ cap ≤ 449849 ∧ 0 ≤ cl ∧ cl ≤ 16) (hp : ∀ m, m < i → smT (T.tr l m) ∧ 1 ≤ (T.tr l m).ses ∧ 0 ≤ (T.tr l m).st ∧ (T.tr l m).st + (T.tr l m).len ≤ cap ∧ 1 ≤ (T.tr l m).len) (HJ : ∀ r, r < 0 → ruleG cap cl fin l i r = true) (W : World) (h : Ctx cap cl fin sv l i v' g W) : Calls Tryz.prog 99 #[v', tagg (T.tr l i)] W (RB (ruleG cap cl fin l i 0) W) := by
  obtain ⟨hi110, hsmi, hsx, h1c, h2c, h0c, h5⟩ := hh
  obtain ⟨h1, h2, h3, h4⟩ := h
  obtain ⟨mid1, mid2⟩ := mid_of h2c h0c hi110 hp HJ
  rw [ruleG_ne (by decide)]
  exact rule1_any v' i _ _ W h1 hi110
theorem callG1 (hh : i ≤ 110 ∧ (∀ m, m < i → smT (T.tr l m)) ∧ Wf (T.tr l i) ∧ 1 ≤ cap ∧ cap ≤ 449849 ∧ 0 ≤ cl ∧ cl ≤ 16) (hp : ∀ m, m < i → smT (T.tr l m) ∧ 1 ≤ (T.tr l m).ses ∧ 0 ≤ (T.tr l m).st ∧ (T.tr l m).st + (T.tr l m).len ≤ cap ∧ 1 ≤ (T.tr l m).len) (HJ : ∀ r, r < 1 → ruleG cap cl fin l i r = true) (W : World) (h : Ctx cap cl fin sv l i v' g W) : Calls Tryz.prog 100 #[v', tagg (T.tr l i)] W (RB (ruleG cap cl fin l i 1) W) := by
  obtain ⟨hi110, hsmi, hsx, h1c, h2c, h0c, h5⟩ := hh
  obtain ⟨h1, h2, h3, h4⟩ := h
  obtain ⟨mid1, mid2⟩ := mid_of h2c h0c hi110 hp HJ
  rw [ruleG_ne (by decide)]
  exact rule2_all v' i l _ W h1 hi110 hsmi hsx.2.1
theorem callG2 (hh : i ≤ 110 ∧ (∀ m, m < i → smT (T.tr l m)) ∧ Wf (T.tr l i) ∧ 1 ≤ cap ∧ cap ≤ 449849 ∧ 0 ≤ cl ∧ cl ≤ 16) (hp : ∀ m, m < i → smT (T.tr l m) ∧ 1 ≤ (T.tr l m).ses ∧ 0 ≤ (T.tr l m).st ∧ (T.tr l m).st + (T.tr l m).len ≤ cap ∧ 1 ≤ (T.tr l m).len) (HJ : ∀ r, r < 2 → ruleG cap cl fin l i r = true) (W : World) (h : Ctx cap cl fin sv l i v' g W) : Calls Tryz.prog 101 #[v', tagg (T.tr l i), .pointer (some ⟨g + 1, 0, none⟩)] W (RB (ruleG cap cl fin l i 2) W) := by
  obtain ⟨hi110, hsmi, hsx, h1c, h2c, h0c, h5⟩ := hh
  obtain ⟨h1, h2, h3, h4⟩ := h
  obtain ⟨mid1, mid2⟩ := mid_of h2c h0c hi110 hp HJ
  rw [ruleG_ne (by decide)]
  exact rule3_any v' _ (g + 1) cl fin _ W h2 h4 (by omega) h5
theorem callG3 (hh : i ≤ 110 ∧ (∀ m, m < i → smT (T.tr l m)) ∧ Wf (T.tr l i) ∧ 1 ≤ cap ∧ cap ≤ 449849 ∧ 0 ≤ cl ∧ cl ≤ 16) (hp : ∀ m, m < i → smT (T.tr l m) ∧ 1 ≤ (T.tr l m).ses ∧ 0 ≤ (T.tr l m).st ∧ (T.tr l m).st + (T.tr l m).len ≤ cap ∧ 1 ≤ (T.tr l m).len) (HJ : ∀ r, r < 3 → ruleG cap cl fin l i r = true) (W : World) (h : Ctx cap cl fin sv l i v' g W) : Calls Tryz.prog 102 #[v', tagg (T.tr l i), .pointer (some ⟨g + 1, 0, none⟩)] W (RB (ruleG cap cl fin l i 3) W) := by
  obtain ⟨hi110, hsmi, hsx, h1c, h2c, h0c, h5⟩ := hh
  obtain ⟨h1, h2, h3, h4⟩ := h
  obtain ⟨mid1, mid2⟩ := mid_of h2c h0c hi110 hp HJ
  rw [ruleG_ne (by decide)]
  exact rule4_any v' _ (g + 1) cl fin _ W h2 h4
theorem callG4 (hh : i ≤ 110 ∧ (∀ m, m < i → smT (T.tr l m)) ∧ Wf (T.tr l i) ∧ 1 ≤ cap ∧ cap ≤ 449849 ∧ 0 ≤ cl ∧ cl ≤ 16) (hp : ∀ m, m < i → smT (T.tr l m) ∧ 1 ≤ (T.tr l m).ses ∧ 0 ≤ (T.tr l m).st ∧ (T.tr l m).st + (T.tr l m).len ≤ cap ∧ 1 ≤ (T.tr l m).len) (HJ : ∀ r, r < 4 → ruleG cap cl fin l i r = true) (W : World) (h : Ctx cap cl fin sv l i v' g W) : Calls Tryz.prog 103 #[v', tagg (T.tr l i)] W (RB (ruleG cap cl fin l i 4) W) := by
  obtain ⟨hi110, hsmi, hsx, h1c, h2c, h0c, h5⟩ := hh
  obtain ⟨h1, h2, h3, h4⟩ := h
  obtain ⟨mid1, mid2⟩ := mid_of h2c h0c hi110 hp HJ
  rw [ruleG_ne (by decide)]
  have hses : sm (T.tr l i).ses := by
    have e1 := HJ 1 (by omega)
    have e2 := HJ 2 (by omega)
    rw [ruleG_ne (by decide)] at e1 e2
    simp only [ruleB, R2, decide_eq_true_eq] at e1 e2
    unfold sm
    by_cases e0 : i = 0
    · have := e1.1 e0; omega
    · have := e1.2 (by omega)
      obtain ⟨p1, p2, _⟩ := hp (i - 1) (by omega)
      have := p1.2.1
      unfold sm at this
      omega
  exact rule5_any v' i l _ W h1 hi110 hsmi hses
theorem callG5 (hh : i ≤ 110 ∧ (∀ m, m < i → smT (T.tr l m)) ∧ Wf (T.tr l i) ∧ 1 ≤ cap ∧ cap ≤ 449849 ∧ 0 ≤ cl ∧ cl ≤ 16) (hp : ∀ m, m < i → smT (T.tr l m) ∧ 1 ≤ (T.tr l m).ses ∧ 0 ≤ (T.tr l m).st ∧ (T.tr l m).st + (T.tr l m).len ≤ cap ∧ 1 ≤ (T.tr l m).len) (HJ : ∀ r, r < 5 → ruleG cap cl fin l i r = true) (W : World) (h : Ctx cap cl fin sv l i v' g W) : Calls Tryz.prog 105 #[v', tagg (T.tr l i), .pointer (some ⟨g, 0, none⟩)] W (RB (ruleG cap cl fin l i 5) W) := by
  obtain ⟨hi110, hsmi, hsx, h1c, h2c, h0c, h5⟩ := hh
  obtain ⟨h1, h2, h3, h4⟩ := h
  obtain ⟨mid1, mid2⟩ := mid_of h2c h0c hi110 hp HJ
  rw [ruleG_ne (by decide)]
  exact rule6_all v' _ g cap W h3 (by omega) h1c h2c (mid1 (by omega)).1
theorem callG6 (hh : i ≤ 110 ∧ (∀ m, m < i → smT (T.tr l m)) ∧ Wf (T.tr l i) ∧ 1 ≤ cap ∧ cap ≤ 449849 ∧ 0 ≤ cl ∧ cl ≤ 16) (hp : ∀ m, m < i → smT (T.tr l m) ∧ 1 ≤ (T.tr l m).ses ∧ 0 ≤ (T.tr l m).st ∧ (T.tr l m).st + (T.tr l m).len ≤ cap ∧ 1 ≤ (T.tr l m).len) (HJ : ∀ r, r < 6 → ruleG cap cl fin l i r = true) (W : World) (h : Ctx cap cl fin sv l i v' g W) : Calls Tryz.prog 106 #[v', tagg (T.tr l i)] W (RB (ruleG cap cl fin l i 6) W) := by
  obtain ⟨hi110, hsmi, hsx, h1c, h2c, h0c, h5⟩ := hh
  obtain ⟨h1, h2, h3, h4⟩ := h
  obtain ⟨mid1, mid2⟩ := mid_of h2c h0c hi110 hp HJ
  unfold ruleG
  rw [if_pos rfl]
  exact rule7_all v' _ W hsx.2.2.2.2.2.2
theorem callG7 (hh : i ≤ 110 ∧ (∀ m, m < i → smT (T.tr l m)) ∧ Wf (T.tr l i) ∧ 1 ≤ cap ∧ cap ≤ 449849 ∧ 0 ≤ cl ∧ cl ≤ 16) (hp : ∀ m, m < i → smT (T.tr l m) ∧ 1 ≤ (T.tr l m).ses ∧ 0 ≤ (T.tr l m).st ∧ (T.tr l m).st + (T.tr l m).len ≤ cap ∧ 1 ≤ (T.tr l m).len) (HJ : ∀ r, r < 7 → ruleG cap cl fin l i r = true) (W : World) (h : Ctx cap cl fin sv l i v' g W) : Calls Tryz.prog 107 #[v', tagg (T.tr l i)] W (RB (ruleG cap cl fin l i 7) W) := by
  obtain ⟨hi110, hsmi, hsx, h1c, h2c, h0c, h5⟩ := hh
  obtain ⟨h1, h2, h3, h4⟩ := h
  obtain ⟨mid1, mid2⟩ := mid_of h2c h0c hi110 hp HJ
  rw [ruleG_ne (by decide)]
  exact rule8_any v' _ W (mid1 (by omega)).1 (mid2 (by omega))
end
set_option maxRecDepth 100000 in
set_option maxHeartbeats 8000000 in
theorem valid_okG (cap cl : Int) (fin : Bool) (sv : Value) (l : List T.Trk) (w : World) (hr : RdK w sv l) (hf : ∀ i, i < l.length → Wf (T.tr l i)) (h1 : 1 ≤ cap) (h2 : cap ≤ 449849) (h3 : l.length ≤ 99) (h4 : 0 ≤ cl) (h5 : cl ≤ 16) (h6 : ¬ (fin = true ∧ cl = 0)) :
    Calls Tryz.prog 7 #[.int .i64 cap, .agg #[.int .i64 cl, .bool fin, sv]] w (ValPost cap cl fin l w) := by
  have Hr := Lib.hid hr
  obtain ⟨a, c, b, off, rfl, hac, hcell⟩ := hr
  have HC := Lib.hid hcell; clear hcell
  have HFw := Lib.hid hf; clear hf
  have H6 := Lib.hid h6
  go_enter Tryz.func7, Tryz.ntmps7
  go_upto_region 1 with (fail)
  go_cut [39] (fun v wx => v = .bool false ∧ wx = w.alloc (.cells #[.int .i64 cl, .bool fin, .slice a l.length c] 24))
  case first =>
    cases fin
    · clear h6
      go_wp2_with fail
      all_goals (go_meet; case rel => exact ⟨congrArg Value.bool (by simp only [Bool.or_eq_false_iff, decide_eq_false_iff_not]; omega), rfl⟩)
    · have hz : (cl == 0) = false := by rw [beq_eq_false_iff_ne]; exact fun h => h6 ⟨rfl, h⟩
      clear h6
      go_wp2_with fail
      all_goals (go_meet; case rel => exact ⟨congrArg Value.bool (by simp only [Bool.or_eq_false_iff, decide_eq_false_iff_not]; omega), rfl⟩)
  clear h6
  obtain ⟨rfl, rfl⟩ := hcut
  go_wp2_with fail
  go_loopw [43] (fun vi wr => ∃ (i : Nat), i ≤ l.length ∧ vi = .int .i64 i ∧ Hid (∀ m, m < i → T.okI cap cl fin l m) ∧
      Below (w.heap.size + 1) (w.alloc (.cells #[.int .i64 cl, .bool fin, .slice a l.length c] 24)) wr) (fun vi _ => l.length - (intOf vi).toNat)
  case atStart => exact ⟨0, by omega, rfl, Lib.hid fun i hi => by omega, by simpa using Below.refl _ _⟩
  case round =>
    obtain ⟨i, hi, rfl, HO, hb⟩ := hrel
    obtain ⟨wo, rfl⟩ : ∃ wo : World, wo = wr := ⟨_, rfl⟩
    have ht0 : wo.cell? ⟨w.heap.size, 0, none⟩ = some (.int .i64 cl) := (hb.cell (p := ⟨w.heap.size, 0, none⟩) (by simp)).trans (by simp [go_sem])
    have ht1 : wo.cell? ⟨w.heap.size, 1, none⟩ = some (.bool fin) := (hb.cell (p := ⟨w.heap.size, 1, none⟩) (by simp)).trans (by simp [go_sem])
    have ht2 : wo.cell? ⟨w.heap.size, 2, none⟩ = some (.slice a l.length c) := (hb.cell (p := ⟨w.heap.size, 2, none⟩) (by simp)).trans (by simp [go_sem])
    have hsz : w.heap.size < wo.heap.size := by have := hb.size; simp at this; omega
    have hb0 : Below w.heap.size w wo := ((Below.refl _ _).alloc (Nat.le_refl _) _).trans (hb.mono (by omega))
    by_cases hlt : i < l.length
    · obtain ⟨ha, hrange⟩ := HC.out i hlt
      have HPP := Lib.hid (fun m (hm : m < i) => (show smT (T.tr l m) ∧ 1 ≤ (T.tr l m).ses ∧ 0 ≤ (T.tr l m).st ∧ (T.tr l m).st + (T.tr l m).len ≤ cap ∧ 1 ≤ (T.tr l m).len from by
        obtain ⟨s1, s2, s3⟩ := small_of h2 i (by omega) HO.out m hm
        obtain ⟨_, _, _, _, _, _, _, _, k9, k10, k11, _⟩ := HO.out m hm
        exact ⟨s1, s2, s3, by omega, k9⟩))
      have HFew := Lib.hid (p := i ≤ 110 ∧ (∀ m, m < i → smT (T.tr l m)) ∧ Wf (T.tr l i) ∧ 1 ≤ cap ∧ cap ≤ 449849 ∧ 0 ≤ cl ∧ cl ≤ 16) ⟨by omega, fun m hm => (HPP.out m hm).1, HFw.out i hlt, h1, h2, h4, h5⟩
      have HRO := Lib.hid (rules_okG cap cl fin l i h2 h4 (by omega) HPP.out)
      obtain ⟨v', hrv, hcut⟩ := run_cut3 Tryz.underlying22 Tryz.sizeTrack (Hr.out.keep hb0) i hi
      have hcut := fun w' => hcut i i w' rfl rfl
      obtain ⟨x, hx⟩ : ∃ x, x = T.tr l i := ⟨_, rfl⟩
      rw [← hx] at hrange
      have Hx := Lib.hid hx; clear hx
      have hix := fun w' => run_idxS Tryz.underlying22 Tryz.sizeTrack (cap := c) ha hlt _ rfl w'
      have hrg : wo.rangeAt b (off + i * 7) (tcs x) := fun j u hu => (hb.cell (p := ⟨b, off + i * 7 + j, none⟩) (by
          have := World.block_lt_of_cell? w _ (hrange j u hu); simp only at this ⊢; omega)).trans (by
          have := World.block_lt_of_cell? w _ (hrange j u hu)
          rw [World.cell?_alloc_lt _ _ _ this]; exact hrange j u hu)
      clear hrange
      obtain ⟨hc0, hc1, hc2, hc3, hc4, hc5, hc6⟩ := rd7 hrg
      clear hrg
      have Ha := Lib.hid ha; clear ha
      have hRW := rules_any cap cl fin (.slice a l.length c) (wo.alloc (tobj x))
      have hs1 : (wo.alloc (tobj x)).heap.size = wo.heap.size + 1 := by simp
      have hctx : Ctx cap cl fin (.slice a l.length c) l i v' (wo.heap.size + 1) (rulesW cap cl fin (.slice a l.length c) (wo.alloc (tobj x))) := by
        refine ⟨?_, ?_, ?_, ?_⟩
        · exact (hrv.keep ((Below.refl _ _).alloc (Nat.le_refl _) _)).keep (rulesW_below _ _ _ _ _ (Nat.le_refl _))
        · rw [← hs1]; exact rulesW_1 _ _ _ _ _
        · rw [← hs1]; exact rulesW_0 _ _ _ _ _
        · rw [rulesW_size, hs1]; omega
      have hfn := rulesW_2 cap cl fin (.slice a l.length c) (wo.alloc (tobj x))
      have hszG := rulesW_size cap cl fin (.slice a l.length c) (wo.alloc (tobj x))
      have hbG : Below (wo.heap.size + 1) (wo.alloc (tobj x)) (rulesW cap cl fin (.slice a l.length c) (wo.alloc (tobj x))) := rulesW_below _ _ _ _ _ (by omega)
      rw [hs1] at hfn hszG hRW
      obtain ⟨wG, hwG⟩ : ∃ wG, wG = rulesW cap cl fin (.slice a l.length c) (wo.alloc (tobj x)) := ⟨_, rfl⟩
      rw [← hwG] at hctx hfn hszG hRW hbG
      obtain ⟨g, hg⟩ : ∃ g, g = wo.heap.size + 1 := ⟨_, rfl⟩
      rw [← hg] at hctx hfn hszG hRW hbG
      have Hg := Lib.hid hg
      have hgs1 : g ≤ wo.heap.size + 1 := by omega
      have hgs2 : wo.heap.size < g := by omega
      have hszG1 : g + 1 + 1 < wG.heap.size := by omega
      have HFN := Lib.hid hfn
      have HRW := Lib.hid hRW
      clear hwG hfn hszG hRW hg hs1
      go_wp2_with (refine (flipW' HRW.out).mono ?_; rintro e w' ⟨rfl, rfl⟩)
      go_loopw [52] (fun vj wr => ∃ (j : Nat), j ≤ 8 ∧ vj = .int .i64 j ∧ Hid (∀ r, r < j → ruleG cap cl fin l i r = true) ∧ Below wG.heap.size wG wr) (fun vj _ => 8 - (intOf vj).toNat)
      case atStart => exact ⟨0, by omega, rfl, Lib.hid fun i hi => by omega, Below.refl _ _⟩
      case round =>
        obtain ⟨j, hj8, rfl, HJ, hbi⟩ := hrel
        have hctxi : Ctx cap cl fin (.slice a l.length c) l i v' g wr.drew := (hctx.keep hbi).keep (Below.refl _ _).drew
        have hbG2 : Below g (wo.alloc (tobj x)) wr := hbG.trans (hbi.mono (by omega))
        have hszi : wG.heap.size ≤ wr.heap.size := hbi.size
        have hy2 : wr.cell? ⟨w.heap.size, 2, none⟩ = some (.slice a l.length c) := (hbG2.cell (p := ⟨w.heap.size, 2, none⟩) (by simp only; omega)).trans ((World.cell?_alloc_lt _ _ _ (by simp only; omega)).trans ht2)
        have hxc : ∀ k, wr.cell? ⟨wo.heap.size, k, none⟩ = (#[Value.int .i64 x.num, .int .i64 x.ses, .int .i64 x.st, .int .i64 x.len, .int .i64 x.nx, .int .i64 x.sta, .int .i64 x.pk])[k]? := fun k =>
          (hbG2.cell (p := ⟨wo.heap.size, k, none⟩) (by simp only; omega)).trans (by simp [go_sem])
        have hx0 := hxc 0; have hx1 := hxc 1; have hx2 := hxc 2; have hx3 := hxc 3; have hx4 := hxc 4; have hx5 := hxc 5; have hx6 := hxc 6
        simp only [List.getElem?_toArray, List.getElem?_cons_zero, List.getElem?_cons_succ] at hx0 hx1 hx2 hx3 hx4 hx5 hx6
        clear hxc ht0 ht1 ht2
        by_cases hjl : j < 8
        · have hixj : ∀ W, (Instr.indexAt 107 (.slice (some ⟨g + 1 + 1, 0, none⟩) 8 8) (.int .i64 (j : Int))).run Tryz.prog W = .ok (.pointer (some ⟨g + 1 + 1, j, none⟩)) W := fun W => by
            have := run_idx (P := Tryz.prog) (cap := 8) Tryz.underlying107 Tryz.sizeRule (rfl : some (⟨g + 1 + 1, 0, none⟩ : Addr) = _) hjl _ rfl W
            rwa [Nat.zero_add] at this
          rcases (by omega : j = 0 ∨ j = 1 ∨ j = 2 ∨ j = 3 ∨ j = 4 ∨ j = 5 ∨ j = 6 ∨ j = 7) with hj | hj | hj | hj | hj | hj | hj | hj
          · have hfv : wr.cell? ⟨g + 1 + 1, j, none⟩ = some (.func (.func 99) #[] #[]) := (hbi.cell (p := ⟨g + 1 + 1, j, none⟩) (by simp only; omega)).trans (by rw [HFN.out, hj]; rfl)
            have hcon : Calls Tryz.prog 99 #[v', tagg x] wr.drew (RB (ruleG cap cl fin l i 0) wr.drew) := by
              rw [Hx.out]; exact callG0 HFew.out HPP.out (fun r hr => HJ.out r (by omega)) _ hctxi
            generalize hq : ruleG cap cl fin l i 0 = q at hcon
            have HQ := Lib.hid hq; clear hq
            have Hj := Lib.hid hj; clear hj
            have HCON := Lib.hid hcon; clear hcon
            cases q
            all_goals
              go_wp2_with fail
              go_still_tail 7, (by kernel_rfl)
              change wpList _ _ _ _ _ wr.drew
              go_wp2_with (refine HCON.out.mono ?_; rintro e w2 ⟨rfl, hb2⟩)
              first
                | (go_ret
                   refine ⟨retB (Eq.symm ?_), (hb0.alloc (by omega) _).trans ((hbG.mono (by omega)).trans ((hbi.mono (by omega)).drew.trans (hb2.mono (by show _ ≤ wr.heap.size; omega))))⟩
                   rw [T.validB_false, ← T.valid_iff]
                   intro h
                   have h7 := HRO.out.2 (h.2.2.2.2.2.2.1 i hlt) 0 (by omega)
                   rw [HQ.out] at h7
                   cases h7)
                | (go_roundw
                   case rel =>
                     refine ⟨j + 1, by omega, by go_num, Lib.hid fun r hr => ?_, hbi.drew.trans (hb2.mono (by show _ ≤ wr.heap.size; omega))⟩
                     by_cases e9 : r < j
                     · exact HJ.out r e9
                     · have e10 : r = 0 := by have := Hj.out; omega
                       rw [e10]; exact HQ.out
                   case measure => simp [intOf]; omega)
          · have hfv : wr.cell? ⟨g + 1 + 1, j, none⟩ = some (.func (.func 100) #[] #[]) := (hbi.cell (p := ⟨g + 1 + 1, j, none⟩) (by simp only; omega)).trans (by rw [HFN.out, hj]; rfl)
            have hcon : Calls Tryz.prog 100 #[v', tagg x] wr.drew (RB (ruleG cap cl fin l i 1) wr.drew) := by
              rw [Hx.out]; exact callG1 HFew.out HPP.out (fun r hr => HJ.out r (by omega)) _ hctxi
            generalize hq : ruleG cap cl fin l i 1 = q at hcon
            have HQ := Lib.hid hq; clear hq
            have Hj := Lib.hid hj; clear hj
            have HCON := Lib.hid hcon; clear hcon
            cases q
            all_goals
              go_wp2_with fail
              go_still_tail 7, (by kernel_rfl)
              change wpList _ _ _ _ _ wr.drew
              go_wp2_with (refine HCON.out.mono ?_; rintro e w2 ⟨rfl, hb2⟩)
              first
                | (go_ret
                   refine ⟨retB (Eq.symm ?_), (hb0.alloc (by omega) _).trans ((hbG.mono (by omega)).trans ((hbi.mono (by omega)).drew.trans (hb2.mono (by show _ ≤ wr.heap.size; omega))))⟩
                   rw [T.validB_false, ← T.valid_iff]
                   intro h
                   have h7 := HRO.out.2 (h.2.2.2.2.2.2.1 i hlt) 1 (by omega)
                   rw [HQ.out] at h7
                   cases h7)
                | (go_roundw
                   case rel =>
                     refine ⟨j + 1, by omega, by go_num, Lib.hid fun r hr => ?_, hbi.drew.trans (hb2.mono (by show _ ≤ wr.heap.size; omega))⟩
                     by_cases e9 : r < j
                     · exact HJ.out r e9
                     · have e10 : r = 1 := by have := Hj.out; omega
                       rw [e10]; exact HQ.out
                   case measure => simp [intOf]; omega)
          · have hfv : wr.cell? ⟨g + 1 + 1, j, none⟩ = some (.func (.func 101) #[] #[.pointer (some ⟨g + 1, 0, none⟩)]) := (hbi.cell (p := ⟨g + 1 + 1, j, none⟩) (by simp only; omega)).trans (by rw [HFN.out, hj]; rfl)
            have hcon : Calls Tryz.prog 101 #[v', tagg x, .pointer (some ⟨g + 1, 0, none⟩)] wr.drew (RB (ruleG cap cl fin l i 2) wr.drew) := by
              rw [Hx.out]; exact callG2 HFew.out HPP.out (fun r hr => HJ.out r (by omega)) _ hctxi
            generalize hq : ruleG cap cl fin l i 2 = q at hcon
            have HQ := Lib.hid hq; clear hq
            have Hj := Lib.hid hj; clear hj
            have HCON := Lib.hid hcon; clear hcon
            cases q
            all_goals
              go_wp2_with fail
              go_still_tail 7, (by kernel_rfl)
              change wpList _ _ _ _ _ wr.drew
              go_wp2_with (refine HCON.out.mono ?_; rintro e w2 ⟨rfl, hb2⟩)
              first
                | (go_ret
                   refine ⟨retB (Eq.symm ?_), (hb0.alloc (by omega) _).trans ((hbG.mono (by omega)).trans ((hbi.mono (by omega)).drew.trans (hb2.mono (by show _ ≤ wr.heap.size; omega))))⟩
                   rw [T.validB_false, ← T.valid_iff]
                   intro h
                   have h7 := HRO.out.2 (h.2.2.2.2.2.2.1 i hlt) 2 (by omega)
                   rw [HQ.out] at h7
                   cases h7)
                | (go_roundw
                   case rel =>
                     refine ⟨j + 1, by omega, by go_num, Lib.hid fun r hr => ?_, hbi.drew.trans (hb2.mono (by show _ ≤ wr.heap.size; omega))⟩
                     by_cases e9 : r < j
                     · exact HJ.out r e9
                     · have e10 : r = 2 := by have := Hj.out; omega
                       rw [e10]; exact HQ.out
                   case measure => simp [intOf]; omega)
          · have hfv : wr.cell? ⟨g + 1 + 1, j, none⟩ = some (.func (.func 102) #[] #[.pointer (some ⟨g + 1, 0, none⟩)]) := (hbi.cell (p := ⟨g + 1 + 1, j, none⟩) (by simp only; omega)).trans (by rw [HFN.out, hj]; rfl)
            have hcon : Calls Tryz.prog 102 #[v', tagg x, .pointer (some ⟨g + 1, 0, none⟩)] wr.drew (RB (ruleG cap cl fin l i 3) wr.drew) := by
              rw [Hx.out]; exact callG3 HFew.out HPP.out (fun r hr => HJ.out r (by omega)) _ hctxi
            generalize hq : ruleG cap cl fin l i 3 = q at hcon
            have HQ := Lib.hid hq; clear hq
            have Hj := Lib.hid hj; clear hj
            have HCON := Lib.hid hcon; clear hcon
            cases q
            all_goals
              go_wp2_with fail
              go_still_tail 7, (by kernel_rfl)
              change wpList _ _ _ _ _ wr.drew
              go_wp2_with (refine HCON.out.mono ?_; rintro e w2 ⟨rfl, hb2⟩)
              first
                | (go_ret
                   refine ⟨retB (Eq.symm ?_), (hb0.alloc (by omega) _).trans ((hbG.mono (by omega)).trans ((hbi.mono (by omega)).drew.trans (hb2.mono (by show _ ≤ wr.heap.size; omega))))⟩
                   rw [T.validB_false, ← T.valid_iff]
                   intro h
                   have h7 := HRO.out.2 (h.2.2.2.2.2.2.1 i hlt) 3 (by omega)
                   rw [HQ.out] at h7
                   cases h7)
                | (go_roundw
                   case rel =>
                     refine ⟨j + 1, by omega, by go_num, Lib.hid fun r hr => ?_, hbi.drew.trans (hb2.mono (by show _ ≤ wr.heap.size; omega))⟩
                     by_cases e9 : r < j
                     · exact HJ.out r e9
                     · have e10 : r = 3 := by have := Hj.out; omega
                       rw [e10]; exact HQ.out
                   case measure => simp [intOf]; omega)
          · have hfv : wr.cell? ⟨g + 1 + 1, j, none⟩ = some (.func (.func 103) #[] #[]) := (hbi.cell (p := ⟨g + 1 + 1, j, none⟩) (by simp only; omega)).trans (by rw [HFN.out, hj]; rfl)
            have hcon : Calls Tryz.prog 103 #[v', tagg x] wr.drew (RB (ruleG cap cl fin l i 4) wr.drew) := by
              rw [Hx.out]; exact callG4 HFew.out HPP.out (fun r hr => HJ.out r (by omega)) _ hctxi
            generalize hq : ruleG cap cl fin l i 4 = q at hcon
            have HQ := Lib.hid hq; clear hq
            have Hj := Lib.hid hj; clear hj
            have HCON := Lib.hid hcon; clear hcon
            cases q
            all_goals
              go_wp2_with fail
              go_still_tail 7, (by kernel_rfl)
              change wpList _ _ _ _ _ wr.drew
              go_wp2_with (refine HCON.out.mono ?_; rintro e w2 ⟨rfl, hb2⟩)
              first
                | (go_ret
                   refine ⟨retB (Eq.symm ?_), (hb0.alloc (by omega) _).trans ((hbG.mono (by omega)).trans ((hbi.mono (by omega)).drew.trans (hb2.mono (by show _ ≤ wr.heap.size; omega))))⟩
                   rw [T.validB_false, ← T.valid_iff]
                   intro h
                   have h7 := HRO.out.2 (h.2.2.2.2.2.2.1 i hlt) 4 (by omega)
                   rw [HQ.out] at h7
                   cases h7)
                | (go_roundw
                   case rel =>
                     refine ⟨j + 1, by omega, by go_num, Lib.hid fun r hr => ?_, hbi.drew.trans (hb2.mono (by show _ ≤ wr.heap.size; omega))⟩
                     by_cases e9 : r < j
                     · exact HJ.out r e9
                     · have e10 : r = 4 := by have := Hj.out; omega
                       rw [e10]; exact HQ.out
                   case measure => simp [intOf]; omega)
          · have hfv : wr.cell? ⟨g + 1 + 1, j, none⟩ = some (.func (.func 105) #[] #[.pointer (some ⟨g, 0, none⟩)]) := (hbi.cell (p := ⟨g + 1 + 1, j, none⟩) (by simp only; omega)).trans (by rw [HFN.out, hj]; rfl)
            have hcon : Calls Tryz.prog 105 #[v', tagg x, .pointer (some ⟨g, 0, none⟩)] wr.drew (RB (ruleG cap cl fin l i 5) wr.drew) := by
              rw [Hx.out]; exact callG5 HFew.out HPP.out (fun r hr => HJ.out r (by omega)) _ hctxi
            generalize hq : ruleG cap cl fin l i 5 = q at hcon
            have HQ := Lib.hid hq; clear hq
            have Hj := Lib.hid hj; clear hj
            have HCON := Lib.hid hcon; clear hcon
            cases q
            all_goals
              go_wp2_with fail
              go_still_tail 7, (by kernel_rfl)
              change wpList _ _ _ _ _ wr.drew
              go_wp2_with (refine HCON.out.mono ?_; rintro e w2 ⟨rfl, hb2⟩)
              first
                | (go_ret
                   refine ⟨retB (Eq.symm ?_), (hb0.alloc (by omega) _).trans ((hbG.mono (by omega)).trans ((hbi.mono (by omega)).drew.trans (hb2.mono (by show _ ≤ wr.heap.size; omega))))⟩
                   rw [T.validB_false, ← T.valid_iff]
                   intro h
                   have h7 := HRO.out.2 (h.2.2.2.2.2.2.1 i hlt) 5 (by omega)
                   rw [HQ.out] at h7
                   cases h7)
                | (go_roundw
                   case rel =>
                     refine ⟨j + 1, by omega, by go_num, Lib.hid fun r hr => ?_, hbi.drew.trans (hb2.mono (by show _ ≤ wr.heap.size; omega))⟩
                     by_cases e9 : r < j
                     · exact HJ.out r e9
                     · have e10 : r = 5 := by have := Hj.out; omega
                       rw [e10]; exact HQ.out
                   case measure => simp [intOf]; omega)
          · have hfv : wr.cell? ⟨g + 1 + 1, j, none⟩ = some (.func (.func 106) #[] #[]) := (hbi.cell (p := ⟨g + 1 + 1, j, none⟩) (by simp only; omega)).trans (by rw [HFN.out, hj]; rfl)
            have hcon : Calls Tryz.prog 106 #[v', tagg x] wr.drew (RB (ruleG cap cl fin l i 6) wr.drew) := by
              rw [Hx.out]; exact callG6 HFew.out HPP.out (fun r hr => HJ.out r (by omega)) _ hctxi
            generalize hq : ruleG cap cl fin l i 6 = q at hcon
            have HQ := Lib.hid hq; clear hq
            have Hj := Lib.hid hj; clear hj
            have HCON := Lib.hid hcon; clear hcon
            cases q
            all_goals
              go_wp2_with fail
              go_still_tail 7, (by kernel_rfl)
              change wpList _ _ _ _ _ wr.drew
              go_wp2_with (refine HCON.out.mono ?_; rintro e w2 ⟨rfl, hb2⟩)
              first
                | (go_ret
                   refine ⟨retB (Eq.symm ?_), (hb0.alloc (by omega) _).trans ((hbG.mono (by omega)).trans ((hbi.mono (by omega)).drew.trans (hb2.mono (by show _ ≤ wr.heap.size; omega))))⟩
                   rw [T.validB_false, ← T.valid_iff]
                   intro h
                   have h7 := HRO.out.2 (h.2.2.2.2.2.2.1 i hlt) 6 (by omega)
                   rw [HQ.out] at h7
                   cases h7)
                | (go_roundw
                   case rel =>
                     refine ⟨j + 1, by omega, by go_num, Lib.hid fun r hr => ?_, hbi.drew.trans (hb2.mono (by show _ ≤ wr.heap.size; omega))⟩
                     by_cases e9 : r < j
                     · exact HJ.out r e9
                     · have e10 : r = 6 := by have := Hj.out; omega
                       rw [e10]; exact HQ.out
                   case measure => simp [intOf]; omega)
          · have hfv : wr.cell? ⟨g + 1 + 1, j, none⟩ = some (.func (.func 107) #[] #[]) := (hbi.cell (p := ⟨g + 1 + 1, j, none⟩) (by simp only; omega)).trans (by rw [HFN.out, hj]; rfl)
            have hcon : Calls Tryz.prog 107 #[v', tagg x] wr.drew (RB (ruleG cap cl fin l i 7) wr.drew) := by
              rw [Hx.out]; exact callG7 HFew.out HPP.out (fun r hr => HJ.out r (by omega)) _ hctxi
            generalize hq : ruleG cap cl fin l i 7 = q at hcon
            have HQ := Lib.hid hq; clear hq
            have Hj := Lib.hid hj; clear hj
            have HCON := Lib.hid hcon; clear hcon
            cases q
            all_goals
              go_wp2_with fail
              go_still_tail 7, (by kernel_rfl)
              change wpList _ _ _ _ _ wr.drew
              go_wp2_with (refine HCON.out.mono ?_; rintro e w2 ⟨rfl, hb2⟩)
              first
                | (go_ret
                   refine ⟨retB (Eq.symm ?_), (hb0.alloc (by omega) _).trans ((hbG.mono (by omega)).trans ((hbi.mono (by omega)).drew.trans (hb2.mono (by show _ ≤ wr.heap.size; omega))))⟩
                   rw [T.validB_false, ← T.valid_iff]
                   intro h
                   have h7 := HRO.out.2 (h.2.2.2.2.2.2.1 i hlt) 7 (by omega)
                   rw [HQ.out] at h7
                   cases h7)
                | (go_roundw
                   case rel =>
                     refine ⟨j + 1, by omega, by go_num, Lib.hid fun r hr => ?_, hbi.drew.trans (hb2.mono (by show _ ≤ wr.heap.size; omega))⟩
                     by_cases e9 : r < j
                     · exact HJ.out r e9
                     · have e10 : r = 7 := by have := Hj.out; omega
                       rw [e10]; exact HQ.out
                   case measure => simp [intOf]; omega)
        · have hJ8 : ∀ r, r < 8 → ruleG cap cl fin l i r = true := fun r hr => HJ.out r (by omega)
          have HOK := Lib.hid (HRO.out.1 hJ8)
          clear hJ8
          have hd8 : decide ((j : Int) < 8) = false := by rw [decide_eq_false_iff_not]; omega
          go_wp2_with fail
          go_roundw
          case rel =>
            refine ⟨i + 1, by omega, by go_num, Lib.hid fun m hm => ?_, (hb.alloc (by omega) _).trans ((hbG.mono (by omega)).trans (hbi.mono (by omega)))⟩
            by_cases e9 : m < i
            · exact HO.out m e9
            · obtain rfl : m = i := by omega
              exact HOK.out
          case measure => simp [intOf]; omega
    · obtain rfl : i = l.length := by omega
      have hE : T.validB cap cl fin l = (decide (cl = 0) || (decide (0 < l.length) && decide (cl ≤ T.sB l l.length))) := by
        rw [Bool.eq_iff_iff, T.validB_true, ← T.valid_iff]
        unfold T.validI
        simp only [Bool.and_eq_true, Bool.or_eq_true, decide_eq_true_eq]
        exact ⟨fun h => h.2.2.2.2.2.2.2, fun h => ⟨h1, h2, h3, h4, h5, H6.out, HO.out, h⟩⟩
      by_cases hc0 : cl = 0
      · have hz : (cl == 0) = true := by rw [beq_iff_eq]; exact hc0
        have HEq : Hid (T.validB cap cl fin l = true) := Lib.hid (by rw [hE]; simp [hc0])
        clear hE hc0 hlt hi
        go_wp2_with fail
        go_quiet (fail)
        go_wp2_with fail
        go_ret
        exact ⟨retB HEq.out.symm, Below.drewN hb0 _⟩
      · have hz : (cl == 0) = false := by rw [beq_eq_false_iff_ne]; exact hc0
        by_cases hn : 0 < l.length
        · obtain ⟨m, hm⟩ : ∃ m, l.length = m + 1 := ⟨l.length - 1, by omega⟩
          obtain ⟨ha, hrange⟩ := HC.out m (by omega)
          have hsl : T.sB l l.length = (T.tr l m).ses := by rw [hm]; exact T.sB_succ l m
          have hq : T.validB cap cl fin l = decide (cl ≤ (T.tr l m).ses) := by rw [hE, hsl]; simp [hc0, hn]
          obtain ⟨x, hx⟩ : ∃ x, x = T.tr l m := ⟨_, rfl⟩
          rw [← hx] at hrange hq
          have HEq := Lib.hid hq
          have hml : m < l.length := by omega
          have hm1 : ((l.length : Int) - 1) = (m : Int) := by omega
          have hix := fun w' => run_idxS Tryz.underlying22 Tryz.sizeTrack (cap := c) ha hml _ rfl w'
          have hrg : wo.rangeAt b (off + m * 7) (tcs x) := fun j u hu => (hb.cell (p := ⟨b, off + m * 7 + j, none⟩) (by
              have := World.block_lt_of_cell? w _ (hrange j u hu); simp only at this ⊢; omega)).trans (by
              have := World.block_lt_of_cell? w _ (hrange j u hu)
              rw [World.cell?_alloc_lt _ _ _ this]; exact hrange j u hu)
          obtain ⟨hc0', hc1, hc2, hc3, hc4, hc5, hc6⟩ := rd7 hrg
          have Ha := Lib.hid ha
          have hd0 : decide (0 < l.length) = true := decide_eq_true hn
          have hwp : IntKind.i64.wrap ((l.length : Int) - 1) = m := by rw [hm1]; exact IntWalk.i64_in _ (by omega)
          have Hm := Lib.hid hm
          have Hm1 := Lib.hid hm1
          clear hrange hrg ha hE hc0 hlt hi hsl hx hq hn hm
          go_wp2_with fail
          go_quiet (fail)
          go_wp2_with fail
          go_ret
          exact ⟨retB (by rw [HEq.out]), Below.drewN hb0 _⟩
        · have hd0 : decide (0 < l.length) = false := decide_eq_false hn
          have HEq : Hid (T.validB cap cl fin l = false) := Lib.hid (by rw [hE]; simp [hc0, hn])
          clear hE hc0 hlt hi hn
          go_wp2_with fail
          go_quiet (fail)
          go_wp2_with fail
          go_ret
          exact ⟨retB HEq.out.symm, Below.drewN hb0 _⟩
/-- Valid, for any table -/
theorem valid_allG (cap cl : Int) (fin : Bool) (sv : Value) (l : List T.Trk) (w : World) (hr : RdK w sv l) (hn : l.length ≤ 281474976710656) (hf : ∀ i, i < l.length → Wf (T.tr l i)) :
    Calls Tryz.prog 7 #[.int .i64 cap, tval cl fin sv] w (ValPost cap cl fin l w) := by
  by_cases h : 1 ≤ cap ∧ cap ≤ 449849 ∧ l.length ≤ 99 ∧ 0 ≤ cl ∧ cl ≤ 16 ∧ ¬ (fin = true ∧ cl = 0)
  · obtain ⟨h1, h2, h3, h4, h5, h6⟩ := h
    exact valid_okG cap cl fin sv l w hr hf h1 h2 h3 h4 h5 h6
  · exact valid_bad cap cl fin sv l w hr h hn
end Go.Proofs.YtflmjdjkfognjaaGreat
