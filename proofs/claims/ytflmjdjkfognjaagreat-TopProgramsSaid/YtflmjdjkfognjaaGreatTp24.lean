/- Shaken out of XQv XQt -/
import Derived.Test.YtflmjdjkfognjaaGreatTp21
import Derived.Test.YtflmjdjkfognjaaGreatTp23
import Derived.Test.YtflmjdjkfognjaaGreatTp11
namespace Go.Proofs.YtflmjdjkfognjaaGreat.W10
open Go.RowKit
set_option linter.unusedVariables false
theorem ret_f {a : Bool} (h : a = false) : Ending.returned (.bool false) = .returned (.bool a) := by rw [h]
theorem ret_t {a : Bool} (h : a = true) : Ending.returned (.bool true) = .returned (.bool a) := by rw [h]
set_option maxRecDepth 100000 in
set_option maxHeartbeats 2000000 in
theorem avalid_any (m s f : Int) (w : World) : Calls Tryz.prog 111 #[msfv m s f] w (RB (vB m s f) w) := by
  have i0 : ∀ w, (Instr.index 207 (.agg #[.int .i64 m, .int .i64 s, .int .i64 f]) (.int .i64 0)).run Tryz.prog w = .ok (.int .i64 m) w := fun _ => by kernel_rfl
  have i1 : ∀ w, (Instr.index 207 (.agg #[.int .i64 m, .int .i64 s, .int .i64 f]) (.int .i64 1)).run Tryz.prog w = .ok (.int .i64 s) w := fun _ => by kernel_rfl
  have i2 : ∀ w, (Instr.index 207 (.agg #[.int .i64 m, .int .i64 s, .int .i64 f]) (.int .i64 2)).run Tryz.prog w = .ok (.int .i64 f) w := fun _ => by kernel_rfl
  go_enter Tryz.func111, Tryz.ntmps111
  go_wp2_with fail
  refine (split_any m s f _).mono ?_
  rintro e w1 ⟨rfl, hb⟩
  have hb1 := ((Below.refl w.heap.size w).alloc (Nat.le_refl _) (.cells #[.int .i64 m, .int .i64 s, .int .i64 f] 36)).trans (hb.mono (by simp))
  clear hb
  go_wp2_with fail
  go_loopw [7] (fun vi wr => ∃ (k : Nat), k ≤ 3 ∧ vi = .int .i64 k ∧ (0 < k → 0 ≤ m ∧ m ≤ 99) ∧ (1 < k → 0 ≤ s ∧ s ≤ 59) ∧ (2 < k → 0 ≤ f ∧ f ≤ 74) ∧ Below w.heap.size w wr) (fun vi _ => 3 - (intOf vi).toNat)
  case atStart => exact ⟨0, by omega, rfl, fun h => by omega, fun h => by omega, fun h => by omega, hb1⟩
  case round =>
    clear hb1
    obtain ⟨k, hk, rfl, hK0, hK1, hK2, hb⟩ := hrel
    by_cases h3 : k = 3
    · subst h3
      have a0 := Lib.hid (hK0 (by omega)); have a1 := Lib.hid (hK1 (by omega)); have a2 := Lib.hid (hK2 (by omega))
      clear hK0 hK1 hK2
      go_wp2_with fail
      go_ret
      exact ⟨ret_t (vB_t (by have := a0.out; have := a1.out; have := a2.out; omega)), hb⟩
    by_cases h0 : k = 0
    · subst h0
      have A0 := Lib.hid hK0; have A1 := Lib.hid hK1; have A2 := Lib.hid hK2
      clear hK0 hK1 hK2 h3
      by_cases hp : 0 ≤ m
      · have d1 : decide (m < 0) = false := decide_eq_false (by omega)
        by_cases hq : m ≤ 99
        · have d2 : decide (100 ≤ m) = false := decide_eq_false (by omega)
          go_wp2_with fail
          refine (limit_0 _).mono ?_
          rintro e w2 ⟨rfl, hb2⟩
          have hb3 := hb.trans (hb2.mono hb.size)
          go_wp2_with fail
          first
          | (go_roundw
             case rel => exact ⟨1, by omega, by go_num, fun _ => ⟨hp, hq⟩, fun h => by omega, fun h => by omega, hb3⟩
             case measure => simp [intOf])
          | exact ⟨⟨1, by omega, by go_num, fun _ => ⟨hp, hq⟩, fun h => by omega, fun h => by omega, hb3⟩, by simp [intOf]⟩
        · have d2 : decide (100 ≤ m) = true := decide_eq_true (by omega)
          go_wp2_with fail
          refine (limit_0 _).mono ?_
          rintro e w2 ⟨rfl, hb2⟩
          have hb3 := hb.trans (hb2.mono hb.size)
          go_wp2_with fail
          go_ret
          exact ⟨ret_f (vB_f (by omega)), hb3⟩
      · have d1 : decide (m < 0) = true := decide_eq_true (by omega)
        go_wp2_with fail
        go_ret
        exact ⟨ret_f (vB_f (by omega)), hb⟩
    by_cases h1 : k = 1
    · subst h1
      have A0 := Lib.hid hK0; have A1 := Lib.hid hK1; have A2 := Lib.hid hK2
      clear hK0 hK1 hK2 h3
      by_cases hp : 0 ≤ s
      · have d1 : decide (s < 0) = false := decide_eq_false (by omega)
        by_cases hq : s ≤ 59
        · have d2 : decide (60 ≤ s) = false := decide_eq_false (by omega)
          go_wp2_with fail
          refine (limit_1 _).mono ?_
          rintro e w2 ⟨rfl, hb2⟩
          have hb3 := hb.trans (hb2.mono hb.size)
          go_wp2_with fail
          first
          | (go_roundw
             case rel => exact ⟨2, by omega, by go_num, fun _ => A0.out (by omega), fun _ => ⟨hp, hq⟩, fun h => by omega, hb3⟩
             case measure => simp [intOf])
          | exact ⟨⟨2, by omega, by go_num, fun _ => A0.out (by omega), fun _ => ⟨hp, hq⟩, fun h => by omega, hb3⟩, by simp [intOf]⟩
        · have d2 : decide (60 ≤ s) = true := decide_eq_true (by omega)
          go_wp2_with fail
          refine (limit_1 _).mono ?_
          rintro e w2 ⟨rfl, hb2⟩
          have hb3 := hb.trans (hb2.mono hb.size)
          go_wp2_with fail
          go_ret
          exact ⟨ret_f (vB_f (by omega)), hb3⟩
      · have d1 : decide (s < 0) = true := decide_eq_true (by omega)
        go_wp2_with fail
        go_ret
        exact ⟨ret_f (vB_f (by omega)), hb⟩
    by_cases h2 : k = 2
    · subst h2
      have A0 := Lib.hid hK0; have A1 := Lib.hid hK1; have A2 := Lib.hid hK2
      clear hK0 hK1 hK2 h3
      by_cases hp : 0 ≤ f
      · have d1 : decide (f < 0) = false := decide_eq_false (by omega)
        by_cases hq : f ≤ 74
        · have d2 : decide (75 ≤ f) = false := decide_eq_false (by omega)
          go_wp2_with fail
          refine (limit_2 _).mono ?_
          rintro e w2 ⟨rfl, hb2⟩
          have hb3 := hb.trans (hb2.mono hb.size)
          go_wp2_with fail
          first
          | (go_roundw
             case rel => exact ⟨3, by omega, by go_num, fun _ => A0.out (by omega), fun _ => A1.out (by omega), fun _ => ⟨hp, hq⟩, hb3⟩
             case measure => simp [intOf])
          | exact ⟨⟨3, by omega, by go_num, fun _ => A0.out (by omega), fun _ => A1.out (by omega), fun _ => ⟨hp, hq⟩, hb3⟩, by simp [intOf]⟩
        · have d2 : decide (75 ≤ f) = true := decide_eq_true (by omega)
          go_wp2_with fail
          refine (limit_2 _).mono ?_
          rintro e w2 ⟨rfl, hb2⟩
          have hb3 := hb.trans (hb2.mono hb.size)
          go_wp2_with fail
          go_ret
          exact ⟨ret_f (vB_f (by omega)), hb3⟩
      · have d1 : decide (f < 0) = true := decide_eq_true (by omega)
        go_wp2_with fail
        go_ret
        exact ⟨ret_f (vB_f (by omega)), hb⟩
    omega
/-- what a frame may be -/
def trkB (n : Int) : Bool := btw n 0 99 || n == 170
def ptB (n : Int) : Bool := btw n 0 99 || btw n 160 162
def frB (q : Q.Fr) : Bool := btw q.ctl 0 15 && trkB q.trk && ptB q.pt && vB q.rm q.rs q.rf && vB q.am q.as q.af
theorem frB_1 {q : Q.Fr} (h : btw q.ctl 0 15 = false) : frB q = false := by simp [frB, h]
theorem frB_2 {q : Q.Fr} (h : btw q.trk 0 99 = false) (h' : (q.trk == 170) = false) : frB q = false := by simp [frB, trkB, h, h']
theorem frB_3 {q : Q.Fr} (h : btw q.pt 0 99 = false) (h' : btw q.pt 160 162 = false) : frB q = false := by simp [frB, ptB, h, h']
theorem frB_4 {q : Q.Fr} (h : vB q.rm q.rs q.rf = false) : frB q = false := by simp [frB, h]
theorem frB_ok {q : Q.Fr} (h1 : btw q.ctl 0 15 = true) (h2 : trkB q.trk = true) (h3 : ptB q.pt = true) (h4 : vB q.rm q.rs q.rf = true) : frB q = vB q.am q.as q.af := by simp [frB, h1, h2, h3, h4]
set_option maxRecDepth 100000 in
set_option maxHeartbeats 4000000 in
theorem fvalid_any (q : Q.Fr) (w : World) : Calls Tryz.prog 46 #[fagg q] w (RB (frB q) w) := by
  cases h1 : btw q.ctl 0 15 with
  | false =>
    go_enter Tryz.func46, Tryz.ntmps46
    go_wp2_with (first | (go_at_call 39; refine (between_any _ _ _ _).mono ?_; rintro e w' ⟨rfl, rfl⟩) | fail)
    go_ret
    exact ⟨ret_f (frB_1 h1), (Below.refl _ _).alloc (Nat.le_refl _) _⟩
  | true =>
    cases h2 : btw q.trk 0 99 with
    | false =>
      cases h2b : (q.trk == 170) with
      | false =>
        have e2b := Lib.hid h2b
        go_enter Tryz.func46, Tryz.ntmps46
        go_wp2_with (first | (go_at_call 39; refine (between_any _ _ _ _).mono ?_; rintro e w' ⟨rfl, rfl⟩) | fail)
        go_ret
        exact ⟨ret_f (frB_2 h2 e2b.out), (Below.refl _ _).alloc (Nat.le_refl _) _⟩
      | true =>
        have tk : trkB q.trk = true := by simp [trkB, h2b]
        have TK := Lib.hid tk
        clear tk
        cases h3 : btw q.pt 0 99 with
        | false =>
          cases h3b : btw q.pt 160 162 with
          | false =>
            go_enter Tryz.func46, Tryz.ntmps46
            go_wp2_with (first | (go_at_call 39; refine (between_any _ _ _ _).mono ?_; rintro e w' ⟨rfl, rfl⟩) | fail)
            go_ret
            exact ⟨ret_f (frB_3 h3 h3b), (Below.refl _ _).alloc (Nat.le_refl _) _⟩
          | true =>
            have PT := Lib.hid (show ptB q.pt = true from by simp [ptB, h3b])
            cases hv : vB q.rm q.rs q.rf with
            | false =>
              go_enter Tryz.func46, Tryz.ntmps46
              go_wp2_with (first | (go_at_call 39; refine (between_any _ _ _ _).mono ?_; rintro e w' ⟨rfl, rfl⟩) | fail)
              refine (avalid_any _ _ _ _).mono ?_
              rw [hv]
              rintro e w1 ⟨rfl, hb1⟩
              have hB1 := (Bx.new w 38 (fcs q)).call hb1
              have hle1 := ((Below.refl w.heap.size w).alloc (Nat.le_refl _) (fobj q)).trans (hb1.mono (by simp))
              have c6 := hB1.cell (i := 6) rfl
              have c7 := hB1.cell (i := 7) rfl
              have c8 := hB1.cell (i := 8) rfl
              clear hB1 hb1
              go_wp2_with (first | (go_at_call 39; refine (between_any _ _ _ _).mono ?_; rintro e w' ⟨rfl, rfl⟩) | fail)
              go_ret
              exact ⟨ret_f (frB_4 hv), hle1⟩
            | true =>
              go_enter Tryz.func46, Tryz.ntmps46
              go_wp2_with (first | (go_at_call 39; refine (between_any _ _ _ _).mono ?_; rintro e w' ⟨rfl, rfl⟩) | fail)
              refine (avalid_any _ _ _ _).mono ?_
              rw [hv]
              rintro e w1 ⟨rfl, hb1⟩
              have hB1 := (Bx.new w 38 (fcs q)).call hb1
              have hle1 := ((Below.refl w.heap.size w).alloc (Nat.le_refl _) (fobj q)).trans (hb1.mono (by simp))
              have c6 := hB1.cell (i := 6) rfl
              have c7 := hB1.cell (i := 7) rfl
              have c8 := hB1.cell (i := 8) rfl
              clear hB1 hb1
              go_wp2_with (first | (go_at_call 39; refine (between_any _ _ _ _).mono ?_; rintro e w' ⟨rfl, rfl⟩) | fail)
              refine (avalid_any _ _ _ _).mono ?_
              rintro e w2 ⟨rfl, hb2⟩
              have hle2 := hle1.trans (hb2.mono hle1.size)
              clear hb2 c6 c7 c8
              go_wp2_with (first | (go_at_call 39; refine (between_any _ _ _ _).mono ?_; rintro e w' ⟨rfl, rfl⟩) | fail)
              go_ret
              exact ⟨retB (frB_ok h1 TK.out PT.out hv).symm, hle2⟩
        | true =>
          have PT := Lib.hid (show ptB q.pt = true from by simp [ptB, h3])
          cases hv : vB q.rm q.rs q.rf with
          | false =>
            go_enter Tryz.func46, Tryz.ntmps46
            go_wp2_with (first | (go_at_call 39; refine (between_any _ _ _ _).mono ?_; rintro e w' ⟨rfl, rfl⟩) | fail)
            refine (avalid_any _ _ _ _).mono ?_
            rw [hv]
            rintro e w1 ⟨rfl, hb1⟩
            have hB1 := (Bx.new w 38 (fcs q)).call hb1
            have hle1 := ((Below.refl w.heap.size w).alloc (Nat.le_refl _) (fobj q)).trans (hb1.mono (by simp))
            have c6 := hB1.cell (i := 6) rfl
            have c7 := hB1.cell (i := 7) rfl
            have c8 := hB1.cell (i := 8) rfl
            clear hB1 hb1
            go_wp2_with (first | (go_at_call 39; refine (between_any _ _ _ _).mono ?_; rintro e w' ⟨rfl, rfl⟩) | fail)
            go_ret
            exact ⟨ret_f (frB_4 hv), hle1⟩
          | true =>
            go_enter Tryz.func46, Tryz.ntmps46
            go_wp2_with (first | (go_at_call 39; refine (between_any _ _ _ _).mono ?_; rintro e w' ⟨rfl, rfl⟩) | fail)
            refine (avalid_any _ _ _ _).mono ?_
            rw [hv]
            rintro e w1 ⟨rfl, hb1⟩
            have hB1 := (Bx.new w 38 (fcs q)).call hb1
            have hle1 := ((Below.refl w.heap.size w).alloc (Nat.le_refl _) (fobj q)).trans (hb1.mono (by simp))
            have c6 := hB1.cell (i := 6) rfl
            have c7 := hB1.cell (i := 7) rfl
            have c8 := hB1.cell (i := 8) rfl
            clear hB1 hb1
            go_wp2_with (first | (go_at_call 39; refine (between_any _ _ _ _).mono ?_; rintro e w' ⟨rfl, rfl⟩) | fail)
            refine (avalid_any _ _ _ _).mono ?_
            rintro e w2 ⟨rfl, hb2⟩
            have hle2 := hle1.trans (hb2.mono hle1.size)
            clear hb2 c6 c7 c8
            go_wp2_with (first | (go_at_call 39; refine (between_any _ _ _ _).mono ?_; rintro e w' ⟨rfl, rfl⟩) | fail)
            go_ret
            exact ⟨retB (frB_ok h1 TK.out PT.out hv).symm, hle2⟩
    | true =>
      have tk : trkB q.trk = true := by simp [trkB, h2]
      have TK := Lib.hid tk
      clear tk
      cases h3 : btw q.pt 0 99 with
      | false =>
        cases h3b : btw q.pt 160 162 with
        | false =>
          go_enter Tryz.func46, Tryz.ntmps46
          go_wp2_with (first | (go_at_call 39; refine (between_any _ _ _ _).mono ?_; rintro e w' ⟨rfl, rfl⟩) | fail)
          go_ret
          exact ⟨ret_f (frB_3 h3 h3b), (Below.refl _ _).alloc (Nat.le_refl _) _⟩
        | true =>
          have PT := Lib.hid (show ptB q.pt = true from by simp [ptB, h3b])
          cases hv : vB q.rm q.rs q.rf with
          | false =>
            go_enter Tryz.func46, Tryz.ntmps46
            go_wp2_with (first | (go_at_call 39; refine (between_any _ _ _ _).mono ?_; rintro e w' ⟨rfl, rfl⟩) | fail)
            refine (avalid_any _ _ _ _).mono ?_
            rw [hv]
            rintro e w1 ⟨rfl, hb1⟩
            have hB1 := (Bx.new w 38 (fcs q)).call hb1
            have hle1 := ((Below.refl w.heap.size w).alloc (Nat.le_refl _) (fobj q)).trans (hb1.mono (by simp))
            have c6 := hB1.cell (i := 6) rfl
            have c7 := hB1.cell (i := 7) rfl
            have c8 := hB1.cell (i := 8) rfl
            clear hB1 hb1
            go_wp2_with (first | (go_at_call 39; refine (between_any _ _ _ _).mono ?_; rintro e w' ⟨rfl, rfl⟩) | fail)
            go_ret
            exact ⟨ret_f (frB_4 hv), hle1⟩
          | true =>
            go_enter Tryz.func46, Tryz.ntmps46
            go_wp2_with (first | (go_at_call 39; refine (between_any _ _ _ _).mono ?_; rintro e w' ⟨rfl, rfl⟩) | fail)
            refine (avalid_any _ _ _ _).mono ?_
            rw [hv]
            rintro e w1 ⟨rfl, hb1⟩
            have hB1 := (Bx.new w 38 (fcs q)).call hb1
            have hle1 := ((Below.refl w.heap.size w).alloc (Nat.le_refl _) (fobj q)).trans (hb1.mono (by simp))
            have c6 := hB1.cell (i := 6) rfl
            have c7 := hB1.cell (i := 7) rfl
            have c8 := hB1.cell (i := 8) rfl
            clear hB1 hb1
            go_wp2_with (first | (go_at_call 39; refine (between_any _ _ _ _).mono ?_; rintro e w' ⟨rfl, rfl⟩) | fail)
            refine (avalid_any _ _ _ _).mono ?_
            rintro e w2 ⟨rfl, hb2⟩
            have hle2 := hle1.trans (hb2.mono hle1.size)
            clear hb2 c6 c7 c8
            go_wp2_with (first | (go_at_call 39; refine (between_any _ _ _ _).mono ?_; rintro e w' ⟨rfl, rfl⟩) | fail)
            go_ret
            exact ⟨retB (frB_ok h1 TK.out PT.out hv).symm, hle2⟩
      | true =>
        have PT := Lib.hid (show ptB q.pt = true from by simp [ptB, h3])
        cases hv : vB q.rm q.rs q.rf with
        | false =>
          go_enter Tryz.func46, Tryz.ntmps46
          go_wp2_with (first | (go_at_call 39; refine (between_any _ _ _ _).mono ?_; rintro e w' ⟨rfl, rfl⟩) | fail)
          refine (avalid_any _ _ _ _).mono ?_
          rw [hv]
          rintro e w1 ⟨rfl, hb1⟩
          have hB1 := (Bx.new w 38 (fcs q)).call hb1
          have hle1 := ((Below.refl w.heap.size w).alloc (Nat.le_refl _) (fobj q)).trans (hb1.mono (by simp))
          have c6 := hB1.cell (i := 6) rfl
          have c7 := hB1.cell (i := 7) rfl
          have c8 := hB1.cell (i := 8) rfl
          clear hB1 hb1
          go_wp2_with (first | (go_at_call 39; refine (between_any _ _ _ _).mono ?_; rintro e w' ⟨rfl, rfl⟩) | fail)
          go_ret
          exact ⟨ret_f (frB_4 hv), hle1⟩
        | true =>
          go_enter Tryz.func46, Tryz.ntmps46
          go_wp2_with (first | (go_at_call 39; refine (between_any _ _ _ _).mono ?_; rintro e w' ⟨rfl, rfl⟩) | fail)
          refine (avalid_any _ _ _ _).mono ?_
          rw [hv]
          rintro e w1 ⟨rfl, hb1⟩
          have hB1 := (Bx.new w 38 (fcs q)).call hb1
          have hle1 := ((Below.refl w.heap.size w).alloc (Nat.le_refl _) (fobj q)).trans (hb1.mono (by simp))
          have c6 := hB1.cell (i := 6) rfl
          have c7 := hB1.cell (i := 7) rfl
          have c8 := hB1.cell (i := 8) rfl
          clear hB1 hb1
          go_wp2_with (first | (go_at_call 39; refine (between_any _ _ _ _).mono ?_; rintro e w' ⟨rfl, rfl⟩) | fail)
          refine (avalid_any _ _ _ _).mono ?_
          rintro e w2 ⟨rfl, hb2⟩
          have hle2 := hle1.trans (hb2.mono hle1.size)
          clear hb2 c6 c7 c8
          go_wp2_with (first | (go_at_call 39; refine (between_any _ _ _ _).mono ?_; rintro e w' ⟨rfl, rfl⟩) | fail)
          go_ret
          exact ⟨retB (frB_ok h1 TK.out PT.out hv).symm, hle2⟩
end Go.Proofs.YtflmjdjkfognjaaGreat.W10
namespace Go.Proofs.YtflmjdjkfognjaaGreat.W10
open Go.RowKit
set_option linter.unusedVariables false
/-- the number of an address -/
def nmb (m s f : Int) : Int := (60 * m + s) * 75 + f
theorem nmb_bd {m s f : Int} (h : vB m s f = true) : 0 ≤ nmb m s f ∧ nmb m s f < 450000 := by
  have := vB_true.1 h; unfold nmb; omega
set_option maxRecDepth 100000 in
theorem lba_any (m s f : Int) (w : World) (h : vB m s f = true) : Calls Tryz.prog 75 #[msfv m s f] w (R2B (.int .i64 (nmb m s f - 150)) (.int .i64 0) w) := by
  have HV := Lib.hid h
  have hbd := nmb_bd h
  have HN := Lib.hid (fun W => anumber_any m s f W (vB_true.1 h))
  clear h
  have HE : Hid ((60 * m + s) * 75 + f = nmb m s f) := Lib.hid rfl
  go_enter Tryz.func75, Tryz.ntmps75
  go_wp2_with fail
  refine (avalid_any m s f _).mono ?_
  rw [HV.out]
  rintro e w1 ⟨rfl, hb⟩
  have hM := (Bx.new w 36 [.int .i64 m, .int .i64 s, .int .i64 f]).call hb
  have hle := ((Below.refl w.heap.size w).alloc (Nat.le_refl _) (.cells #[.int .i64 m, .int .i64 s, .int .i64 f] 36)).trans (hb.mono (by simp))
  have c0 := hM.cell (i := 0) rfl
  have c1 := hM.cell (i := 1) rfl
  have c2 := hM.cell (i := 2) rfl
  clear hb hM
  go_wp2_with fail
  refine (HN.out _).mono ?_
  rw [HE.out]
  rintro e w2 ⟨rfl, hb2⟩
  go_wp2_with fail
  go_ret2
  exact ⟨rfl, hle.trans (hb2.mono hle.size)⟩
end Go.Proofs.YtflmjdjkfognjaaGreat.W10
