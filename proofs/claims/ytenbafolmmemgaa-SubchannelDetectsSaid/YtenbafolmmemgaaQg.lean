/- Chapter 10: Encode of the reference walked. -/
import Derived.Test.YtenbafolmmemgaaQf
import Derived.Test.YtenbafolmmemgaaInr
import Derived.Deep.CutBlock
import Derived.Deep.DeepCutAuto
namespace Go.Proofs.Ytenbafolmmemgaa.W10
open Go.RowKit
set_option linter.unusedVariables false

theorem trkB_of {n : Int} {b : Bool} (h : b = true ↔ (0 ≤ n ∧ n ≤ 99) ∨ n = 170) : b = trkB n := by
  rw [Bool.eq_iff_iff, h]; unfold trkB; simp only [Bool.or_eq_true, btw_iff, beq_iff_eq]
theorem ptB_of {n : Int} {b : Bool} (h : b = true ↔ (0 ≤ n ∧ n ≤ 99) ∨ (160 ≤ n ∧ n ≤ 162)) : b = ptB n := by
  rw [Bool.eq_iff_iff, h]; unfold ptB; simp only [Bool.or_eq_true, btw_iff]
set_option maxRecDepth 100000 in
set_option maxHeartbeats 4000000 in
theorem rfvalid_any (q : Q.Fr) (w : World) : Calls Try.prog 46 #[fagg q] w (RB (frB q) w) := by
  go_enter Try.func46, Try.ntmps46
  go_upto_region 1 with (fail)
  go_cut [3] (fun v wx => v = .bool (trkB q.trk) ∧ wx = w.alloc (fobj q))
  case first =>
    by_cases h0 : 0 ≤ q.trk
    · have d0 : decide (0 ≤ q.trk) = true := decide_eq_true h0
      by_cases h1 : q.trk ≤ 99
      · have d1 : decide (q.trk ≤ 99) = true := decide_eq_true h1
        go_wp2_with fail
        all_goals (go_meet; case rel => exact ⟨congrArg Value.bool (trkB_of (by simp; omega)), rfl⟩)
      · have d1 : decide (q.trk ≤ 99) = false := decide_eq_false h1
        go_wp2_with fail
        all_goals (go_meet; case rel => exact ⟨congrArg Value.bool (trkB_of (by simp; omega)), rfl⟩)
    · have d0 : decide (0 ≤ q.trk) = false := decide_eq_false h0
      go_wp2_with fail
      all_goals (go_meet; case rel => exact ⟨congrArg Value.bool (trkB_of (by simp; omega)), rfl⟩)
  obtain ⟨rfl, rfl⟩ := hcut
  go_upto_region 2 with (fail)
  go_cut [4] (fun v wx => v = .bool (ptB q.pt) ∧ wx = w.alloc (fobj q))
  case first =>
    by_cases h0 : 0 ≤ q.pt
    · have d0 : decide (0 ≤ q.pt) = true := decide_eq_true h0
      by_cases h1 : q.pt ≤ 99
      · have d1 : decide (q.pt ≤ 99) = true := decide_eq_true h1
        go_wp2_with fail
        all_goals (go_meet; case rel => exact ⟨congrArg Value.bool (ptB_of (by simp; omega)), rfl⟩)
      · have d1 : decide (q.pt ≤ 99) = false := decide_eq_false h1
        by_cases h2 : 160 ≤ q.pt
        · have d2 : decide (160 ≤ q.pt) = true := decide_eq_true h2
          go_wp2_with fail
          all_goals (go_meet; case rel => exact ⟨congrArg Value.bool (ptB_of (by simp; omega)), rfl⟩)
        · have d2 : decide (160 ≤ q.pt) = false := decide_eq_false h2
          go_wp2_with fail
          all_goals (go_meet; case rel => exact ⟨congrArg Value.bool (ptB_of (by simp; omega)), rfl⟩)
    · have d0 : decide (0 ≤ q.pt) = false := decide_eq_false h0
      have d2 : decide (160 ≤ q.pt) = false := decide_eq_false (by omega)
      go_wp2_with fail
      all_goals (go_meet; case rel => exact ⟨congrArg Value.bool (ptB_of (by simp; omega)), rfl⟩)
  obtain ⟨rfl, rfl⟩ := hcut
  by_cases c0 : 0 ≤ q.ctl
  rotate_left
  · have d0 : decide (0 ≤ q.ctl) = false := decide_eq_false c0
    go_wp2_with fail
    go_ret
    exact ⟨ret_f (frB_1 (btw_f (by omega))), (Below.refl _ _).alloc (Nat.le_refl _) _⟩
  by_cases c1 : q.ctl ≤ 15
  rotate_left
  · have d1 : decide (q.ctl ≤ 15) = false := decide_eq_false c1
    go_wp2_with fail
    go_ret
    exact ⟨ret_f (frB_1 (btw_f (by omega))), (Below.refl _ _).alloc (Nat.le_refl _) _⟩
  have hct : btw q.ctl 0 15 = true := btw_t c0 c1
  have HC := Lib.hid hct
  have d0 : decide (0 ≤ q.ctl) = true := decide_eq_true c0
  have d1 : decide (q.ctl ≤ 15) = true := decide_eq_true c1
  clear hct c0 c1
  cases ht : trkB q.trk with
  | false =>
    have HT := Lib.hid ht
    clear ht
    go_wp2_with fail
    go_ret
    exact ⟨ret_f (by unfold frB; rw [HT.out]; simp), (Below.refl _ _).alloc (Nat.le_refl _) _⟩
  | true =>
    have HT := Lib.hid ht
    clear ht
    cases hp : ptB q.pt with
    | false =>
      have HP := Lib.hid hp
      clear hp
      go_wp2_with fail
      go_ret
      exact ⟨ret_f (by unfold frB; rw [HP.out]; simp), (Below.refl _ _).alloc (Nat.le_refl _) _⟩
    | true =>
      have HP := Lib.hid hp
      clear hp
      have HB := Lib.hid (Bx.new w 27 (fcs q))
      have hle := (Below.refl w.heap.size w).alloc (Nat.le_refl _) (fobj q)
      have hsz : w.heap.size ≤ (w.alloc (fobj q)).heap.size := by simp
      have HLE := Lib.hid hle; have HSZ := Lib.hid hsz
      clear hle hsz
      go_wp2_with fail
      refine (rvalid6_any _ _ _ _).mono ?_
      rintro e w1 ⟨rfl, hb1⟩
      have hB1 : Bx w1 w.heap.size 27 (fcs q) := HB.out.call hb1
      have hle1 := HLE.out.trans (hb1.mono HSZ.out)
      have x6 := hB1.cell (i := 6) rfl
      have x7 := hB1.cell (i := 7) rfl
      have x8 := hB1.cell (i := 8) rfl
      clear hB1 hb1 HB HLE HSZ
      cases hv : vB q.rm q.rs q.rf with
      | false =>
        have HV := Lib.hid hv
        clear hv
        go_wp2_with fail
        go_ret
        exact ⟨ret_f (frB_4 HV.out), hle1⟩
      | true =>
        have HV := Lib.hid hv
        clear hv
        go_wp2_with fail
        refine (rvalid6_any _ _ _ _).mono ?_
        rintro e w2 ⟨rfl, hb2⟩
        have hle2 := hle1.trans (hb2.mono hle1.size)
        clear hb2 hle1 x6 x7 x8
        cases ha : vB q.am q.as q.af with
        | false =>
          have HA := Lib.hid ha
          clear ha
          go_wp2_with fail
          go_ret
          exact ⟨ret_f (frB_5 HA.out), hle2⟩
        | true =>
          have HA := Lib.hid ha
          clear ha
          go_wp2_with fail
          go_ret
          exact ⟨ret_t ((frB_ok HC.out HT.out HP.out HV.out).trans HA.out), hle2⟩
theorem rnum8_any (n : Int) (w : World) (h : (0 ≤ n ∧ n ≤ 99) ∨ isSp n = true) : Calls Try.prog 48 #[.int .i64 n] w (RV (.int .u8 (num n)) w) := by
  have hn : 0 ≤ n ∧ n ≤ 255 := by
    rcases h with h | h
    · omega
    · rcases isSp_iff.1 h with h | h | h | h <;> omega
  refine (rnum_any n w hn.1 hn.2).mono ?_
  rintro e w' ⟨rfl, rfl⟩
  exact ⟨rfl, Below.refl _ _⟩
def rencV (gB : Nat) (q : Q.Fr) (i : Nat) (v : Value) (W : World) : Prop := match i with
  | 0 => v = .pointer (some ⟨gB, 0, none⟩)
  | 1 => v = .int .i64 q.ctl
  | 2 => v = .int .i64 (16 * q.ctl)
  | 3 => v = .int .i64 (16 * q.ctl + 1)
  | 4 => v = .int .u8 (16 * q.ctl + 1)
  | 5 => v = .pointer (some ⟨gB, 1, none⟩)
  | 6 => v = .int .i64 q.trk
  | 7 => v = .int .u8 (num q.trk)
  | 8 => v = .pointer (some ⟨gB, 2, none⟩)
  | 9 => v = .int .i64 q.pt
  | 10 => v = .int .u8 (num q.pt)
  | 11 => ∃ g, v = .slice (some ⟨g, 0, none⟩) 3 3 ∧ Bx W g 5 (bs [by8 (q.ctl * 16 + 1), by8 (num q.trk), by8 (num q.pt)])
  | 12 => v = .string (str [by8 (q.ctl * 16 + 1), by8 (num q.trk), by8 (num q.pt)])
  | 13 => v = .string (str (adr q.rm q.rs q.rf))
  | 14 => v = .string (str ([by8 (q.ctl * 16 + 1), by8 (num q.trk), by8 (num q.pt)] ++ adr q.rm q.rs q.rf))
  | 15 => v = .string (str ([by8 (q.ctl * 16 + 1), by8 (num q.trk), by8 (num q.pt)] ++ adr q.rm q.rs q.rf ++ [0]))
  | 16 => v = .string (str (adr q.am q.as q.af))
  | 17 => v = .string (str ([by8 (q.ctl * 16 + 1), by8 (num q.trk), by8 (num q.pt)] ++ adr q.rm q.rs q.rf ++ [0] ++ adr q.am q.as q.af))
  | 18 => v = .string (str ([by8 (q.ctl * 16 + 1), by8 (num q.trk), by8 (num q.pt)] ++ adr q.rm q.rs q.rf ++ [0] ++ adr q.am q.as q.af))
  | _ => True
theorem rencV_keep (gB : Nat) (q : Q.Fr) (i : Nat) (v : Value) (W W' : World) (hR : (fun w W => Below w.heap.size w W) W W') (h : rencV gB q i v W) : rencV gB q i v W' := by
  by_cases h11 : i = 11
  · subst h11
    obtain ⟨g, h1, h2⟩ := h
    exact ⟨g, h1, h2.call hR⟩
  unfold rencV at h ⊢
  split at h <;> first | exact h | exact absurd rfl h11
set_option maxRecDepth 100000 in
set_option maxHeartbeats 4000000 in
theorem renc_no (q : Q.Fr) (w : World) (h : frB q = false) : Calls Try.prog 22 #[fagg q] w (R2B (.string (str [])) (.int .i64 1) w) := by
  have HV := Lib.hid h
  clear h
  go_enter Try.func22, Try.ntmps22
  go_wp2_with fail
  refine (rfvalid_any q _).mono ?_
  rw [HV.out]
  rintro e w1 ⟨rfl, hb⟩
  have hle := ((Below.refl w.heap.size w).alloc (Nat.le_refl _) (fobj q)).trans (hb.mono (by simp))
  go_wp2_with fail
  go_ret2
  exact ⟨rfl, hle⟩
set_option maxRecDepth 100000 in
set_option maxHeartbeats 4000000 in
theorem renc_yes (q : Q.Fr) (w : World) (h : frB q = true) : Calls Try.prog 22 #[fagg q] w (R2B (.string (str (encL q))) (.int .i64 0) w) := by
  have HV := Lib.hid h
  have HG := Lib.hid (frB_good h)
  clear h
  go_enter Try.func22, Try.ntmps22
  go_wp2_with fail
  refine (rfvalid_any q _).mono ?_
  rw [HV.out]
  rintro e w1 ⟨rfl, hb⟩
  have hB : Bx w1 w.heap.size 27 (fcs q) := (Bx.new w 27 (fcs q)).call hb
  have hle := ((Below.refl w.heap.size w).alloc (Nat.le_refl _) (fobj q)).trans (hb.mono (by simp))
  clear hb
  obtain ⟨gB, hgB⟩ : ∃ gB, gB = w.heap.size := ⟨_, rfl⟩
  rw [← hgB] at hB
  simp only [← hgB]
  clear hgB
  have HB1 := Lib.hid hB
  have c3 := hB.cell (i := 3) rfl
  have c4 := hB.cell (i := 4) rfl
  have c5 := hB.cell (i := 5) rfl
  clear hB
  go_wp2_with fail
  refine (raenc_any _ _ _ _ HG.out.r).mono ?_
  rintro e w2 ⟨rfl, hb2⟩
  have hB2 := HB1.out.call hb2
  have hle2 := hle.trans (hb2.mono hle.size)
  have HB2 := Lib.hid hB2
  have c6 := hB2.cell (i := 6) rfl
  have c7 := hB2.cell (i := 7) rfl
  have c8 := hB2.cell (i := 8) rfl
  clear hB2 HB1 hle hb2 c3 c4 c5
  go_wp2_with fail
  refine (raenc_any _ _ _ _ HG.out.a).mono ?_
  rintro e w3 ⟨rfl, hb3⟩
  have hB := HB2.out.call hb3
  have hle := hle2.trans (hb3.mono hle2.size)
  clear HB2 hb3 c6 c7 c8 hle2
  go_upto_region 5 with (fail)
  refine wp_region_inr (by kernel_rfl) (fun w W => Below w.heap.size w W) (fun W => Bx W gB 27 (fcs q) ∧ Below w.heap.size w W) (rencV gB q) (fun _ => false) (by kernel_rfl) (fun W W' hb h => ⟨h.1.call hb, h.2.trans (hb.mono h.2.size)⟩) (rencV_keep gB q) (⟨hB, hle.drew⟩) ⟨?_, ?_, ?_, ?_, ?_, ?_, ?_, ?_, ?_, ?_, ?_, ?_, ?_, ?_, ?_, ?_, ?_, ?_, ?_, trivial⟩ ?_
  · intro a W hc hsz hold hdep
    have o1 : a.tmps.getD 1 undef = .pointer (some ⟨gB, 0, none⟩) := hold 1 (by kernel_rfl)
    clear hsz hold hdep
    refine stepR_do rfl (wanted_none rfl) ?_
    refine stepR_val (v := .pointer (some ⟨gB, 0, none⟩)) (Below.refl _ _) rfl fun K hK => ?_
    go_simp
    exact hK
  · intro a W hc hsz hold hdep
    have d0 : a.tmps.getD 24 undef = .pointer (some ⟨gB, 0, none⟩) := hdep 0 (by kernel_rfl) rfl _ rfl
    have c0 := hc.1.cell (i := 0) rfl
    clear hsz hold hdep
    refine stepR_do rfl (wanted_none rfl) ?_
    refine stepR_val (v := .int .i64 q.ctl) (Below.refl _ _) rfl fun K hK => ?_
    go_simp
    exact hK
  · intro a W hc hsz hold hdep
    have d1 : a.tmps.getD 25 undef = .int .i64 q.ctl := hdep 1 (by kernel_rfl) rfl _ rfl
    have b0 := HG.out.c0
    have b1 := HG.out.c1
    have hw : IntKind.i64.wrap (16 * q.ctl) = 16 * q.ctl := IntWalk.i64_in _ (by omega)
    have hw1 : IntKind.i64.wrap (16 * q.ctl + 1) = 16 * q.ctl + 1 := IntWalk.i64_in _ (by omega)
    have hw8 : IntKind.u8.wrap (16 * q.ctl + 1) = 16 * q.ctl + 1 := by rw [IntKind.wrap_u8']; omega
    clear hsz hold hdep
    refine stepR_do rfl (wanted_none rfl) ?_
    refine stepR_val (v := .int .i64 (16 * q.ctl)) (Below.refl _ _) rfl fun K hK => ?_
    go_simp
    exact hK
  · intro a W hc hsz hold hdep
    have d2 : a.tmps.getD 26 undef = .int .i64 (16 * q.ctl) := hdep 2 (by kernel_rfl) rfl _ rfl
    have b0 := HG.out.c0
    have b1 := HG.out.c1
    have hw : IntKind.i64.wrap (16 * q.ctl) = 16 * q.ctl := IntWalk.i64_in _ (by omega)
    have hw1 : IntKind.i64.wrap (16 * q.ctl + 1) = 16 * q.ctl + 1 := IntWalk.i64_in _ (by omega)
    have hw8 : IntKind.u8.wrap (16 * q.ctl + 1) = 16 * q.ctl + 1 := by rw [IntKind.wrap_u8']; omega
    clear hsz hold hdep
    refine stepR_do rfl (wanted_none rfl) ?_
    refine stepR_val (v := .int .i64 (16 * q.ctl + 1)) (Below.refl _ _) rfl fun K hK => ?_
    go_simp
    exact hK
  · intro a W hc hsz hold hdep
    have d3 : a.tmps.getD 27 undef = .int .i64 (16 * q.ctl + 1) := hdep 3 (by kernel_rfl) rfl _ rfl
    have b0 := HG.out.c0
    have b1 := HG.out.c1
    have hw : IntKind.i64.wrap (16 * q.ctl) = 16 * q.ctl := IntWalk.i64_in _ (by omega)
    have hw1 : IntKind.i64.wrap (16 * q.ctl + 1) = 16 * q.ctl + 1 := IntWalk.i64_in _ (by omega)
    have hw8 : IntKind.u8.wrap (16 * q.ctl + 1) = 16 * q.ctl + 1 := by rw [IntKind.wrap_u8']; omega
    clear hsz hold hdep
    refine stepR_do rfl (wanted_none rfl) ?_
    refine stepR_val (v := .int .u8 (16 * q.ctl + 1)) (Below.refl _ _) rfl fun K hK => ?_
    go_simp
    exact hK
  · intro a W hc hsz hold hdep
    have o1 : a.tmps.getD 1 undef = .pointer (some ⟨gB, 0, none⟩) := hold 1 (by kernel_rfl)
    clear hsz hold hdep
    refine stepR_do rfl (wanted_none rfl) ?_
    refine stepR_val (v := .pointer (some ⟨gB, 1, none⟩)) (Below.refl _ _) rfl fun K hK => ?_
    go_simp
    exact hK
  · intro a W hc hsz hold hdep
    have d5 : a.tmps.getD 29 undef = .pointer (some ⟨gB, 1, none⟩) := hdep 5 (by kernel_rfl) rfl _ rfl
    have c1 := hc.1.cell (i := 1) rfl
    clear hsz hold hdep
    refine stepR_do rfl (wanted_none rfl) ?_
    refine stepR_val (v := .int .i64 q.trk) (Below.refl _ _) rfl fun K hK => ?_
    go_simp
    exact hK
  · intro a W hc hsz hold hdep
    have d6 : a.tmps.getD 30 undef = .int .i64 q.trk := hdep 6 (by kernel_rfl) rfl _ rfl
    have e6 : a.tmps[30]?.getD undef = .int .i64 q.trk := by rw [← Array.getD_eq_getD_getElem?]; exact d6
    clear hsz hold hdep
    refine stepR_do rfl (wanted_none rfl) ?_
    refine stepR_call (v := .int .u8 (num q.trk)) (fun W' hb => hb) (fun _ => rfl) fun K hK => ?_
    go_simp
    refine (rnum8_any _ _ HG.out.t).mono ?_
    rintro e w' ⟨rfl, hb'⟩
    exact hK _ hb'
  · intro a W hc hsz hold hdep
    have o1 : a.tmps.getD 1 undef = .pointer (some ⟨gB, 0, none⟩) := hold 1 (by kernel_rfl)
    clear hsz hold hdep
    refine stepR_do rfl (wanted_none rfl) ?_
    refine stepR_val (v := .pointer (some ⟨gB, 2, none⟩)) (Below.refl _ _) rfl fun K hK => ?_
    go_simp
    exact hK
  · intro a W hc hsz hold hdep
    have d8 : a.tmps.getD 32 undef = .pointer (some ⟨gB, 2, none⟩) := hdep 8 (by kernel_rfl) rfl _ rfl
    have c2 := hc.1.cell (i := 2) rfl
    clear hsz hold hdep
    refine stepR_do rfl (wanted_none rfl) ?_
    refine stepR_val (v := .int .i64 q.pt) (Below.refl _ _) rfl fun K hK => ?_
    go_simp
    exact hK
  · intro a W hc hsz hold hdep
    have d9 : a.tmps.getD 33 undef = .int .i64 q.pt := hdep 9 (by kernel_rfl) rfl _ rfl
    have e9 : a.tmps[33]?.getD undef = .int .i64 q.pt := by rw [← Array.getD_eq_getD_getElem?]; exact d9
    clear hsz hold hdep
    refine stepR_do rfl (wanted_none rfl) ?_
    refine stepR_call (v := .int .u8 (num q.pt)) (fun W' hb => hb) (fun _ => rfl) fun K hK => ?_
    go_simp
    refine (rnum8_any _ _ HG.out.p).mono ?_
    rintro e w' ⟨rfl, hb'⟩
    exact hK _ hb'
  · intro a W hc hsz hold hdep
    have d4 : a.tmps.getD 28 undef = .int .u8 (16 * q.ctl + 1) := hdep 4 (by kernel_rfl) rfl _ rfl
    have e4 : a.tmps[28]?.getD undef = .int .u8 (16 * q.ctl + 1) := by rw [← Array.getD_eq_getD_getElem?]; exact d4
    have d7 : a.tmps.getD 31 undef = .int .u8 (num q.trk) := hdep 7 (by kernel_rfl) rfl _ rfl
    have e7 : a.tmps[31]?.getD undef = .int .u8 (num q.trk) := by rw [← Array.getD_eq_getD_getElem?]; exact d7
    have d10 : a.tmps.getD 34 undef = .int .u8 (num q.pt) := hdep 10 (by kernel_rfl) rfl _ rfl
    have e10 : a.tmps[34]?.getD undef = .int .u8 (num q.pt) := by rw [← Array.getD_eq_getD_getElem?]; exact d10
    clear hsz hold hdep
    refine stepR_do rfl (wanted_none rfl) ?_
    have e : (bs [by8 (q.ctl * 16 + 1), by8 (num q.trk), by8 (num q.pt)]).toArray = #[.int .u8 (16 * q.ctl + 1), .int .u8 (num q.trk), .int .u8 (num q.pt)] := by
      have n1 := num_lt HG.out.t
      have n2 := num_lt HG.out.p
      have b0 := HG.out.c0
      have b1 := HG.out.c1
      simp only [bs, B, List.map_cons, List.map_nil, by8_nat (show 0 ≤ q.ctl * 16 + 1 by omega) (show q.ctl * 16 + 1 < 256 by omega), by8_nat n1.1 n1.2, by8_nat n2.1 n2.2]
      rw [Int.mul_comm]
    have hN := Bx.new W 5 (bs [by8 (q.ctl * 16 + 1), by8 (num q.trk), by8 (num q.pt)])
    have hbN := (Below.refl W.heap.size W).alloc (Nat.le_refl _) (.cells (bs [by8 (q.ctl * 16 + 1), by8 (num q.trk), by8 (num q.pt)]).toArray 5)
    refine stepR_new (v := .slice (some ⟨W.heap.size, 0, none⟩) 3 3) hbN ⟨W.heap.size, rfl, hN⟩ fun K hK => ?_
    rw [e] at hK
    clear e hN hbN
    go_simp
    exact hK
  · intro a W hc hsz hold hdep
    have x11 := hdep 11 (by kernel_rfl) rfl _ rfl
    clear hsz hold hdep
    refine stepR_do rfl (wanted_none rfl) ?_
    obtain ⟨g, d11, hN⟩ : ∃ g, a.tmps.getD 35 undef = .slice (some ⟨g, 0, none⟩) 3 3 ∧ Bx W g 5 (bs [by8 (q.ctl * 16 + 1), by8 (num q.trk), by8 (num q.pt)]) := x11
    have hst := run_str (dst := 9) Try.underlying49 Try.underlying5 Try.underlying9 (Rd.ofBx hN (by simp))
    replace hst : (convert 49 9 (.slice (some ⟨g, 0, none⟩) 3 3)).run Try.prog W = _ := hst
    clear hN
    refine stepR_val (v := .string (str [by8 (q.ctl * 16 + 1), by8 (num q.trk), by8 (num q.pt)])) (Below.refl _ _) rfl fun K hK => ?_
    go_simp
    exact hK
  · intro a W hc hsz hold hdep
    have o4 : a.tmps.getD 4 undef = .string (str (adr q.rm q.rs q.rf)) := hold 4 (by kernel_rfl)
    clear hsz hold hdep
    refine stepR_do rfl (wanted_none rfl) ?_
    refine stepR_val (v := .string (str (adr q.rm q.rs q.rf))) (Below.refl _ _) rfl fun K hK => ?_
    go_simp
    exact hK
  · intro a W hc hsz hold hdep
    have d12 : a.tmps.getD 36 undef = .string (str [by8 (q.ctl * 16 + 1), by8 (num q.trk), by8 (num q.pt)]) := hdep 12 (by kernel_rfl) rfl _ rfl
    have d13 : a.tmps.getD 37 undef = .string (str (adr q.rm q.rs q.rf)) := hdep 13 (by kernel_rfl) rfl _ rfl
    have ap := str_app ([by8 (q.ctl * 16 + 1), by8 (num q.trk), by8 (num q.pt)]) (adr q.rm q.rs q.rf)
    clear hsz hold hdep
    refine stepR_do rfl (wanted_none rfl) ?_
    refine stepR_val (v := .string (str ([by8 (q.ctl * 16 + 1), by8 (num q.trk), by8 (num q.pt)] ++ adr q.rm q.rs q.rf))) (Below.refl _ _) rfl fun K hK => ?_
    go_simp
    exact hK
  · intro a W hc hsz hold hdep
    have d14 : a.tmps.getD 38 undef = .string (str ([by8 (q.ctl * 16 + 1), by8 (num q.trk), by8 (num q.pt)] ++ adr q.rm q.rs q.rf)) := hdep 14 (by kernel_rfl) rfl _ rfl
    have ap : str ([by8 (q.ctl * 16 + 1), by8 (num q.trk), by8 (num q.pt)] ++ adr q.rm q.rs q.rf) ++ ⟨#[0]⟩ = str ([by8 (q.ctl * 16 + 1), by8 (num q.trk), by8 (num q.pt)] ++ adr q.rm q.rs q.rf ++ [0]) := str_app ([by8 (q.ctl * 16 + 1), by8 (num q.trk), by8 (num q.pt)] ++ adr q.rm q.rs q.rf) [0]
    clear hsz hold hdep
    refine stepR_do rfl (wanted_none rfl) ?_
    refine stepR_val (v := .string (str ([by8 (q.ctl * 16 + 1), by8 (num q.trk), by8 (num q.pt)] ++ adr q.rm q.rs q.rf ++ [0]))) (Below.refl _ _) rfl fun K hK => ?_
    go_simp
    exact hK
  · intro a W hc hsz hold hdep
    have o6 : a.tmps.getD 6 undef = .string (str (adr q.am q.as q.af)) := hold 6 (by kernel_rfl)
    clear hsz hold hdep
    refine stepR_do rfl (wanted_none rfl) ?_
    refine stepR_val (v := .string (str (adr q.am q.as q.af))) (Below.refl _ _) rfl fun K hK => ?_
    go_simp
    exact hK
  · intro a W hc hsz hold hdep
    have d15 : a.tmps.getD 39 undef = .string (str ([by8 (q.ctl * 16 + 1), by8 (num q.trk), by8 (num q.pt)] ++ adr q.rm q.rs q.rf ++ [0])) := hdep 15 (by kernel_rfl) rfl _ rfl
    have d16 : a.tmps.getD 40 undef = .string (str (adr q.am q.as q.af)) := hdep 16 (by kernel_rfl) rfl _ rfl
    have ap := str_app ([by8 (q.ctl * 16 + 1), by8 (num q.trk), by8 (num q.pt)] ++ adr q.rm q.rs q.rf ++ [0]) (adr q.am q.as q.af)
    clear hsz hold hdep
    refine stepR_do rfl (wanted_none rfl) ?_
    refine stepR_val (v := .string (str ([by8 (q.ctl * 16 + 1), by8 (num q.trk), by8 (num q.pt)] ++ adr q.rm q.rs q.rf ++ [0] ++ adr q.am q.as q.af))) (Below.refl _ _) rfl fun K hK => ?_
    go_simp
    exact hK
  · intro a W hc hsz hold hdep
    have d17 : a.tmps.getD 41 undef = .string (str ([by8 (q.ctl * 16 + 1), by8 (num q.trk), by8 (num q.pt)] ++ adr q.rm q.rs q.rf ++ [0] ++ adr q.am q.as q.af)) := hdep 17 (by kernel_rfl) rfl _ rfl
    clear hsz hold hdep
    refine stepR_do rfl (wanted_none rfl) ?_
    refine stepR_val (v := .string (str ([by8 (q.ctl * 16 + 1), by8 (num q.trk), by8 (num q.pt)] ++ adr q.rm q.rs q.rf ++ [0] ++ adr q.am q.as q.af))) (Below.refl _ _) rfl fun K hK => ?_
    go_simp
    exact hK
  · intro a W hC hd hsz hold hval
    have d8 : a.tmps.getD 8 undef = .string (str ([by8 (q.ctl * 16 + 1), by8 (num q.trk), by8 (num q.pt)] ++ adr q.rm q.rs q.rf ++ [0] ++ adr q.am q.as q.af)) := hval 18 _ rfl rfl
    have d1 : a.tmps.getD 1 undef = .pointer (some ⟨gB, 0, none⟩) := hold 1 (by kernel_rfl)
    clear hold
    obtain ⟨tm, df⟩ := a
    replace hd : df = [] := hd
    replace hsz : tm.size = 46 := hsz
    replace d8 : tm.getD 8 undef = .string (str ([by8 (q.ctl * 16 + 1), by8 (num q.trk), by8 (num q.pt)] ++ adr q.rm q.rs q.rf ++ [0] ++ adr q.am q.as q.af)) := d8
    replace d1 : tm.getD 1 undef = .pointer (some ⟨gB, 0, none⟩) := d1
    subst hd
    have e : tm = #[tm.getD 0 undef, tm.getD 1 undef, tm.getD 2 undef, tm.getD 3 undef, tm.getD 4 undef, tm.getD 5 undef, tm.getD 6 undef, tm.getD 7 undef, tm.getD 8 undef, tm.getD 9 undef, tm.getD 10 undef, tm.getD 11 undef, tm.getD 12 undef, tm.getD 13 undef, tm.getD 14 undef, tm.getD 15 undef, tm.getD 16 undef, tm.getD 17 undef, tm.getD 18 undef, tm.getD 19 undef, tm.getD 20 undef, tm.getD 21 undef, tm.getD 22 undef, tm.getD 23 undef, tm.getD 24 undef, tm.getD 25 undef, tm.getD 26 undef, tm.getD 27 undef, tm.getD 28 undef, tm.getD 29 undef, tm.getD 30 undef, tm.getD 31 undef, tm.getD 32 undef, tm.getD 33 undef, tm.getD 34 undef, tm.getD 35 undef, tm.getD 36 undef, tm.getD 37 undef, tm.getD 38 undef, tm.getD 39 undef, tm.getD 40 undef, tm.getD 41 undef, tm.getD 42 undef, tm.getD 43 undef, tm.getD 44 undef, tm.getD 45 undef] := arr_eq tm 46 hsz
    rw [d8, d1] at e
    clear d8 d1 hsz
    generalize tm.getD 0 undef = v0 at e
    generalize tm.getD 2 undef = v2 at e
    generalize tm.getD 3 undef = v3 at e
    generalize tm.getD 4 undef = v4 at e
    generalize tm.getD 5 undef = v5 at e
    generalize tm.getD 6 undef = v6 at e
    generalize tm.getD 7 undef = v7 at e
    generalize tm.getD 9 undef = v9 at e
    generalize tm.getD 10 undef = v10 at e
    generalize tm.getD 11 undef = v11 at e
    generalize tm.getD 12 undef = v12 at e
    generalize tm.getD 13 undef = v13 at e
    generalize tm.getD 14 undef = v14 at e
    generalize tm.getD 15 undef = v15 at e
    generalize tm.getD 16 undef = v16 at e
    generalize tm.getD 17 undef = v17 at e
    generalize tm.getD 18 undef = v18 at e
    generalize tm.getD 19 undef = v19 at e
    generalize tm.getD 20 undef = v20 at e
    generalize tm.getD 21 undef = v21 at e
    generalize tm.getD 22 undef = v22 at e
    generalize tm.getD 23 undef = v23 at e
    generalize tm.getD 24 undef = v24 at e
    generalize tm.getD 25 undef = v25 at e
    generalize tm.getD 26 undef = v26 at e
    generalize tm.getD 27 undef = v27 at e
    generalize tm.getD 28 undef = v28 at e
    generalize tm.getD 29 undef = v29 at e
    generalize tm.getD 30 undef = v30 at e
    generalize tm.getD 31 undef = v31 at e
    generalize tm.getD 32 undef = v32 at e
    generalize tm.getD 33 undef = v33 at e
    generalize tm.getD 34 undef = v34 at e
    generalize tm.getD 35 undef = v35 at e
    generalize tm.getD 36 undef = v36 at e
    generalize tm.getD 37 undef = v37 at e
    generalize tm.getD 38 undef = v38 at e
    generalize tm.getD 39 undef = v39 at e
    generalize tm.getD 40 undef = v40 at e
    generalize tm.getD 41 undef = v41 at e
    generalize tm.getD 42 undef = v42 at e
    generalize tm.getD 43 undef = v43 at e
    generalize tm.getD 44 undef = v44 at e
    generalize tm.getD 45 undef = v45 at e
    subst e
    have hle2 := hC.2
    clear hC hval
    have HCh := Lib.hid (rcheck_any (str (bodyL q)) W (by rw [str_size, bodyL_length]; omega))
    have ap := str_app (bodyL q) (chk (bodyL q))
    have HAp : Hid (chk (str (bodyL q)).data.toList = chk (bodyL q)) := Lib.hid rfl
    rw [HAp.out] at HCh
    have hbd : str ([by8 (q.ctl * 16 + 1), by8 (num q.trk), by8 (num q.pt)] ++ adr q.rm q.rs q.rf ++ [0] ++ adr q.am q.as q.af) = str (bodyL q) := rfl
    rw [hbd]
    clear hbd
    go_wp2_with fail
    refine HCh.out.mono ?_
    rintro e w5 ⟨rfl, hb5⟩
    go_wp2_with fail
    go_ret2
    exact ⟨rfl, hle2.trans (hb5.mono hle2.size)⟩
end Go.Proofs.Ytenbafolmmemgaa.W10
