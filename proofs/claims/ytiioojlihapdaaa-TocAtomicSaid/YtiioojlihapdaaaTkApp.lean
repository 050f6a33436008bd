/- Append of both walked (chapter 14). -/
import Derived.Test.YtiioojlihapdaaaTkRes
import Derived.Outline
namespace Go.Proofs.Ytiioojlihapdaaa
open Go.RowKit
set_option linter.unusedVariables false

/-- the last open track whose next block is 'lba', among the first 'n' -/
def findO (l : List T.Trk) (lba : Int) : Nat → Option Nat
  | 0 => none
  | n + 1 => if (T.tr l n).sta ≠ 2 ∧ (T.tr l n).nx = lba then some n else findO l lba n
def appendR (cap cl : Int) (fin : Bool) (l : List T.Trk) (lba count : Int) : Res :=
  if T.validB cap cl fin l = false then Res.bad 1 else
  match findO l lba l.length with
  | none => Res.bad 2
  | some i => if ¬ T.okPk count (T.tr l i).pk then Res.bad 1 else if (T.tr l i).st + (T.tr l i).len - (T.tr l i).nx < count then Res.bad 12 else ⟨cl, fin, l.set i (T.grown (T.tr l i) count), 0⟩
theorem appendR_none {cap cl : Int} {fin : Bool} {l : List T.Trk} {lba count : Int} (hV : T.validB cap cl fin l = true) (h : findO l lba l.length = none) : appendR cap cl fin l lba count = Res.bad 2 := by
  unfold appendR; rw [if_neg (by rw [hV]; simp), h]
theorem appendR_some {cap cl : Int} {fin : Bool} {l : List T.Trk} {lba count : Int} {i : Nat} (hV : T.validB cap cl fin l = true) (h : findO l lba l.length = some i) :
    appendR cap cl fin l lba count = if ¬ T.okPk count (T.tr l i).pk then Res.bad 1 else if (T.tr l i).st + (T.tr l i).len - (T.tr l i).nx < count then Res.bad 12 else ⟨cl, fin, l.set i (T.grown (T.tr l i) count), 0⟩ := by
  unfold appendR; rw [if_neg (by rw [hV]; simp), h]

set_option maxRecDepth 100000 in
set_option maxHeartbeats 2000000 in
theorem pappend_1 (cap cl : Int) (fin : Bool) (sv : Value) (l : List T.Trk) (lba count : Int) (w : World) (hr : RdK w sv l) (hf : Few l) (hV : T.validB cap cl fin l = false) : Calls Try.prog 29 #[.int .i64 cap, tval cl fin sv, .int .i64 lba, .int .i64 count] w (OpP (Res.bad 1) w) := by
  obtain ⟨a, c, rfl, hac⟩ := RdS.form hr
  have hb0 := box2_below w cl fin (.slice a l.length c)
  have hcon := valid_any cap cl fin _ l _ (hr.keep hb0) hf
  have HCON := Lib.hid hcon; clear hcon
  have hst0 := St.new w cl fin (.slice a l.length c)
  have HV := Lib.hid hV; clear hV
  go_enter Try.func29, Try.ntmps29
  go_wp2_with fail
  refine HCON.out.mono ?_
  rintro e w1 ⟨rfl, hb⟩
  rw [HV.out]
  have hst := hst0.call hb
  have hb1 := hb0.trans (hb.mono hb0.size)
  obtain ⟨ht0, ht1, ht2, hs0, hs1, hs2, hf0, hf1⟩ := hst.facts
  have hw1 := hst.lt
  have hw0 : w.heap.size < w1.heap.size := by omega
  clear hb hst0 hb0
  go_wp2_with fail
  refine bodyPost_ret (v := .tuple #[tval 0 false (.slice none 0 0), .int .i64 1]) (by simp [results, Try.results29, go_sem, hs0, hs1, hs2]) rfl ⟨_, rfl, RdK.nil _, ?_⟩
  exact ((hb1.setCell (by simp) _).setCell (by simp) _).setCell (by simp) _
set_option maxRecDepth 100000 in
set_option maxHeartbeats 2000000 in
theorem rappend_1 (cap cl : Int) (fin : Bool) (sv : Value) (l : List T.Trk) (lba count : Int) (w : World) (hr : RdK w sv l) (hf : Few l) (hV : T.validB cap cl fin l = false) : Calls Try.prog 33 #[.int .i64 cap, tval cl fin sv, .int .i64 lba, .int .i64 count] w (OpP (Res.bad 1) w) := by
  obtain ⟨a, c, rfl, hac⟩ := RdS.form hr
  have hb0 := box2_below w cl fin (.slice a l.length c)
  have hcon := rvalid_any cap cl fin _ l _ (hr.keep hb0) hf
  have HCON := Lib.hid hcon; clear hcon
  have hst0 := St.new w cl fin (.slice a l.length c)
  have HV := Lib.hid hV; clear hV
  go_enter Try.func33, Try.ntmps33
  go_wp2_with fail
  refine HCON.out.mono ?_
  rintro e w1 ⟨rfl, hb⟩
  rw [HV.out]
  have hst := hst0.call hb
  have hb1 := hb0.trans (hb.mono hb0.size)
  obtain ⟨ht0, ht1, ht2, hs0, hs1, hs2, hf0, hf1⟩ := hst.facts
  have hw1 := hst.lt
  have hw0 : w.heap.size < w1.heap.size := by omega
  clear hb hst0 hb0
  go_wp2_with fail
  refine bodyPost_ret (v := .tuple #[tval 0 false (.slice none 0 0), .int .i64 1]) (by simp [results, Try.results33, go_sem, hs0, hs1, hs2]) rfl ⟨_, rfl, RdK.nil _, ?_⟩
  exact ((hb1.setCell (by simp) _).setCell (by simp) _).setCell (by simp) _
set_option maxRecDepth 100000 in
set_option maxHeartbeats 6000000 in
theorem pappend_2 (cap cl : Int) (fin : Bool) (sv : Value) (l : List T.Trk) (lba count : Int) (w : World) (hr : RdK w sv l) (hf : Few l) (hV : T.validB cap cl fin l = true) (hi : -9223372036854775808 ≤ count ∧ count ≤ 9223372036854775807) (hi2 : -9223372036854775808 ≤ lba ∧ lba ≤ 9223372036854775807) : Calls Try.prog 29 #[.int .i64 cap, tval cl fin sv, .int .i64 lba, .int .i64 count] w (OpP (appendR cap cl fin l lba count) w) := by
  have HN := Lib.hid (fun h => appendR_none (count := count) (lba := lba) hV h)
  have HS := Lib.hid (fun i h => appendR_some (count := count) (lba := lba) (i := i) hV h)
  have HVR := Lib.hid (T.validB_true.1 hV).2.2.2.2.2.1
  have h99 := (T.validB_true.1 hV).2.2.1
  have hcap := (T.validB_true.1 hV).2.1
  have HFw := Lib.hid hf
  have HI := Lib.hid hi; clear hi
  have hib := HI.out.2
  have HI2 := Lib.hid hi2; clear hi2
  obtain ⟨a, c, rfl, hac⟩ := RdS.form hr
  have hb0 := box2_below w cl fin (.slice a l.length c)
  have hcon := valid_any cap cl fin _ l _ (hr.keep hb0) hf
  have HCON := Lib.hid hcon; clear hcon
  have hst0 := St.new w cl fin (.slice a l.length c)
  have HV := Lib.hid hV; clear hV
  go_enter Try.func29, Try.ntmps29
  go_wp2_with fail
  refine HCON.out.mono ?_
  rintro e w1 ⟨rfl, hb⟩
  rw [HV.out]
  have hst := hst0.call hb
  have hb1 := hb0.trans (hb.mono hb0.size)
  obtain ⟨ht0, ht1, ht2, hs0, hs1, hs2, hf0, hf1⟩ := hst.facts
  have hw1 := hst.lt
  have hw0 : w.heap.size < w1.heap.size := by omega
  clear hb hst0 hb0
  have hrx := RdK.keep hr hb1
  have HRX := Lib.hid hrx
  obtain ⟨a', c', b, off, hv', hac', hcell⟩ := hrx
  obtain ⟨rfl, rfl⟩ : a = a' ∧ c = c' := by injection hv' with h1 h2 h3; exact ⟨h1, h3⟩
  have HC := Lib.hid hcell; clear hcell hv'
  have hln : -1 ≤ (l.length : Int) - 1 := by omega
  go_wp2_with fail
  go_loop [10] (fun vi => ∃ (i : Int) (k : Nat), -1 ≤ i ∧ i < l.length ∧ Hid (i = (k : Int) - 1) ∧ vi = .int .i64 i ∧ Hid (findO l lba l.length = findO l lba k)) (fun vi => (intOf vi + 1).toNat)
  case atStart => exact ⟨_, l.length, by omega, by omega, Lib.hid rfl, rfl, Lib.hid rfl⟩
  case round =>
    obtain ⟨i, k, hi1, hi2, HK, rfl, HFO⟩ := hrel
    by_cases hneg : i < 0
    · have hd : decide (0 ≤ i) = false := decide_eq_false (by omega)
      have hd2 : decide (i < 0) = true := decide_eq_true hneg
      have h0 : appendR cap cl fin l lba count = Res.bad 2 := HN.out (by
        have hk0 : k = 0 := by have := HK.out; omega
        rw [HFO.out, hk0]; rfl)
      have H0 := Lib.hid h0; clear h0 hneg
      go_wp2_with fail
      rw [H0.out]
      refine bodyPost_ret (v := .tuple #[tval 0 false (.slice none 0 0), .int .i64 2]) (by simp [results, Try.results29, go_sem, hs0, hs1, hs2]) rfl ⟨_, rfl, RdK.nil _, ?_⟩
      exact ((hb1.setCell (by simp) _).setCell (by simp) _).setCell (by simp) _
    · obtain ⟨j, rfl⟩ : ∃ j : Nat, i = j := ⟨i.toNat, by omega⟩
      have hjl : j < l.length := by omega
      have hd : decide (0 ≤ (j : Int)) = true := decide_eq_true (by omega)
      have hd2 : decide ((j : Int) < 0) = false := decide_eq_false (by omega)
      have hkj : k = j + 1 := by have := HK.out; omega
      have HKJ := Lib.hid hkj; clear hkj
      obtain ⟨ha, hrange⟩ := HC.out j hjl
      have hix := fun w' => run_idxS Try.underlying22 Try.sizeTrack (cap := c) ha hjl _ rfl w'
      obtain ⟨sm1, sm2, sm3, sm4, sm5, sm6, sm7⟩ := HFw.out.2 j hjl
      have hgo := HVR.out j hjl
      unfold T.okR at hgo
      obtain ⟨x, hx⟩ : ∃ x, x = T.tr l j := ⟨_, rfl⟩
      rw [← hx] at hrange sm1 sm2 sm3 sm4 sm5 sm6 sm7 hgo
      have HX := Lib.hid hx; clear hx
      obtain ⟨g1, g2, g3, g4, g5, g6, g7, g8, g9, g10, g11, g12, g13, g14⟩ := hgo
      clear g1 g2 g3 g4 g5 g12 g13 g14
      obtain ⟨hc0, hc1, hc2, hc3, hc4, hc5, hc6⟩ := rd7 hrange
      have hbl := World.block_lt_of_cell? w1 _ hc0
      simp only at hbl
      have Ha := Lib.hid ha; clear ha hrange
      unfold sm at sm3 sm4 sm5
      by_cases hs2 : x.sta = 2
      · have hd3 : (x.sta == 2) = true := by rw [beq_iff_eq]; exact hs2
        have HF2 : Hid (findO l lba l.length = findO l lba j) := Lib.hid (by rw [HFO.out, HKJ.out, findO, if_neg (by rw [← HX.out]; exact fun h => h.1 hs2)])
        clear hs2
        go_wp2_with fail
        go_round
        case rel => exact ⟨_, j, by omega, by omega, Lib.hid rfl, rfl, HF2⟩
        case measure => simp [intOf] <;> omega
      by_cases hnx : x.nx = lba
      · have hd3 : (x.sta == 2) = false := by rw [beq_eq_false_iff_ne]; exact hs2
        have hd4 : (x.nx != lba) = false := by rw [bne_eq_false_iff_eq]; exact hnx
        have hR := HS.out j (by rw [HFO.out, HKJ.out, findO, if_pos (by rw [← HX.out]; exact ⟨hs2, hnx⟩)])
        rw [← HX.out] at hR
        clear hs2
        by_cases hpk : T.okPk count x.pk
        · rw [if_neg (not_not_intro hpk)] at hR
          have HP : Hid (decide (1 ≤ count ∧ 0 ≤ x.pk ∧ x.pk ≤ 1024 ∧ (0 < x.pk → count.tmod x.pk = 0)) = true) := Lib.hid (decide_eq_true hpk)
          have hc1 : 1 ≤ count := hpk.1
          clear hpk
          have hlb : lba = x.nx := hnx.symm
          subst hlb
          clear hnx
          by_cases hfull : x.st + x.len - x.nx < count
          · rw [if_pos hfull] at hR
            have HR := Lib.hid hR; clear hR
            have hd5 : decide (x.st + x.len - x.nx < count) = true := decide_eq_true hfull
            clear hfull
            go_wp2_with fail
            refine (packets_any count x.pk _ HI.out.1 HI.out.2).mono ?_
            rintro e w2 ⟨rfl, rfl⟩
            rw [HP.out]
            go_wp2_with fail
            refine (end_any x _ sm3 sm4).mono ?_
            rintro e w2 ⟨rfl, rfl⟩
            go_wp2_with fail
            rw [HR.out]
            refine bodyPost_ret (v := .tuple #[tval 0 false (.slice none 0 0), .int .i64 12]) (by simp [results, Try.results29, go_sem, hs0, hs1, hs2, hw1]) rfl ⟨_, rfl, RdK.nil _, ?_⟩
            exact (((hb1.setCell (by simp) _).setCell (by simp) _).setCell (by simp) _).alloc (by simp; omega) _
          · rw [if_neg hfull] at hR
            have HR := Lib.hid hR; clear hR
            have hd5 : decide (x.st + x.len - x.nx < count) = false := decide_eq_false hfull
            have hc2 : count ≤ x.st + x.len - x.nx := by omega
            clear hfull
            go_wp2_with fail
            refine (packets_any count x.pk _ HI.out.1 HI.out.2).mono ?_
            rintro e w2 ⟨rfl, rfl⟩
            rw [HP.out]
            go_wp2_with fail
            refine (end_any x _ sm3 sm4).mono ?_
            rintro e w2 ⟨rfl, rfl⟩
            go_wp2_with fail
            have hbx := hb1.alloc (by omega) (tobj x)
            have hstx := hst.alloc (tobj x)
            refine (clone_any cl fin _ l _ (HRX.out.keep ((Below.refl _ _).alloc (Nat.le_refl _) (tobj x))) (by omega)).mono ?_
            rintro e w3 ⟨v3, rfl, hown3, hb3⟩
            have hst3 := hstx.call hb3
            have hb3' := hbx.trans (hb3.mono hbx.size)
            obtain ⟨gg, c3, rfl, hg1, hg2⟩ := own_addr hown3 (by omega)
            clear ht0 ht1 ht2 hs0 hs1 hs2 hf0 hf1
            obtain ⟨ht0, ht1, ht2, hs0, hs1, hs2, hf0, hf1⟩ := hst3.facts
            have hw4 := hst3.lt
            have hw5 : w.heap.size < w3.heap.size := by omega
            have hsx : w1.heap.size + 1 ≤ gg := by simpa using hg1
            have hfg : ∀ k, w3.frozen? ⟨gg, k, none⟩ = false := fun k => hown3.frozenAt k
            have hrow := own_cells hown3 j hjl
            rw [← HX.out] at hrow
            obtain ⟨hq0, hq1, hq2, hq3, hq4, hq5, hq6⟩ := rd7 hrow
            clear hrow
            have hix3 : ∀ W, (Instr.indexAt 22 (.slice (some ⟨gg, 0, none⟩) l.length c3) (.int .i64 (j : Int))).run Try.prog W = .ok (.pointer (some ⟨gg, j * 7, none⟩)) W := fun W =>
              (run_idxS (P := Try.prog) Try.underlying22 Try.sizeTrack (cap := c3) (rfl : some (⟨gg, 0, none⟩ : Addr) = _) hjl _ rfl W).trans (by rw [Nat.zero_add])
            go_wp2_with fail
            rw [HR.out]
            refine bodyPost_ret (v := .tuple #[tval cl fin (.slice (some ⟨gg, 0, none⟩) l.length c3), .int .i64 0]) (by simp [results, Try.results29, go_sem, hs0, hs1, hs2]) rfl ⟨_, rfl, ?_, ?_⟩
            · have hlb : ∀ k : Nat, k ≤ w.heap.size + 1 → k < (w1.alloc (tobj x)).heap.size := fun k hk => by simp; omega
              have e0 := own_set (own_set (own_set hown3 (p := ⟨w.heap.size, 0, none⟩) (hlb w.heap.size (by omega)) (.int .i64 cl)) (p := ⟨w.heap.size, 1, none⟩) (hlb w.heap.size (by omega)) (.bool fin)) (p := ⟨w.heap.size, 2, none⟩) (hlb w.heap.size (by omega)) (.slice (some ⟨gg, 0, none⟩) l.length c3)
              have e1 := own_fld e0 j 4 hjl (by omega) (.int .i64 (x.nx + count)) { x with nx := x.nx + count } (by rw [← HX.out]; rfl)
              have e2 := own_fld e1 j 5 (by simpa using hjl) (by omega) (.int .i64 1) (T.grown x count) (by rw [T.tr_set_eq _ _ _ hjl]; rfl)
              rw [List.set_set] at e2
              refine RdK.ofOwn (base := (w1.alloc (tobj x)).heap.size) (e := 40) ?_
              rw [List.length_set]
              exact own_set (own_set (own_set e2 (hlb (w.heap.size + 1) (Nat.le_refl _)) _) (hlb (w.heap.size + 1) (Nat.le_refl _)) _) (hlb (w.heap.size + 1) (Nat.le_refl _)) _
            · exact (((((((hb3'.setCell (by simp) _).setCell (by simp) _).setCell (by simp) _).setCell (by simp only; omega) _).setCell (by simp only; omega) _).setCell (by simp) _).setCell (by simp) _).setCell (by simp) _
        · rw [if_pos hpk] at hR
          have HR := Lib.hid hR; clear hR
          have HP : Hid (decide (1 ≤ count ∧ 0 ≤ x.pk ∧ x.pk ≤ 1024 ∧ (0 < x.pk → count.tmod x.pk = 0)) = false) := Lib.hid (decide_eq_false hpk); clear hpk hnx
          go_wp2_with fail
          refine (packets_any count x.pk _ HI.out.1 HI.out.2).mono ?_
          rintro e w2 ⟨rfl, rfl⟩
          rw [HP.out]
          go_wp2_with fail
          rw [HR.out]
          refine bodyPost_ret (v := .tuple #[tval 0 false (.slice none 0 0), .int .i64 1]) (by simp [results, Try.results29, go_sem, hs0, hs1, hs2]) rfl ⟨_, rfl, RdK.nil _, ?_⟩
          exact ((hb1.setCell (by simp) _).setCell (by simp) _).setCell (by simp) _
      · have hd3 : (x.sta == 2) = false := by rw [beq_eq_false_iff_ne]; exact hs2
        have hd4 : (x.nx != lba) = true := by rw [bne_iff_ne]; exact hnx
        have HF2 : Hid (findO l lba l.length = findO l lba j) := Lib.hid (by rw [HFO.out, HKJ.out, findO, if_neg (by rw [← HX.out]; exact fun h => hnx h.2)])
        clear hs2 hnx
        go_wp2_with fail
        go_round
        case rel => exact ⟨_, j, by omega, by omega, Lib.hid rfl, rfl, HF2⟩
        case measure => simp [intOf] <;> omega
set_option maxRecDepth 100000 in
set_option maxHeartbeats 6000000 in
theorem rappend_2 (cap cl : Int) (fin : Bool) (sv : Value) (l : List T.Trk) (lba count : Int) (w : World) (hr : RdK w sv l) (hf : Few l) (hV : T.validB cap cl fin l = true) (hi : -9223372036854775808 ≤ count ∧ count ≤ 9223372036854775807) (hi2 : -9223372036854775808 ≤ lba ∧ lba ≤ 9223372036854775807) : Calls Try.prog 33 #[.int .i64 cap, tval cl fin sv, .int .i64 lba, .int .i64 count] w (OpP (appendR cap cl fin l lba count) w) := by
  have HN := Lib.hid (fun h => appendR_none (count := count) (lba := lba) hV h)
  have HS := Lib.hid (fun i h => appendR_some (count := count) (lba := lba) (i := i) hV h)
  have HVR := Lib.hid (T.validB_true.1 hV).2.2.2.2.2.1
  have h99 := (T.validB_true.1 hV).2.2.1
  have hcap := (T.validB_true.1 hV).2.1
  have HFw := Lib.hid hf
  have HI := Lib.hid hi; clear hi
  have hib := HI.out.2
  have HI2 := Lib.hid hi2; clear hi2
  obtain ⟨a, c, rfl, hac⟩ := RdS.form hr
  have hb0 := box2_below w cl fin (.slice a l.length c)
  have hcon := rvalid_any cap cl fin _ l _ (hr.keep hb0) hf
  have HCON := Lib.hid hcon; clear hcon
  have hst0 := St.new w cl fin (.slice a l.length c)
  have HV := Lib.hid hV; clear hV
  go_enter Try.func33, Try.ntmps33
  go_wp2_with fail
  refine HCON.out.mono ?_
  rintro e w1 ⟨rfl, hb⟩
  rw [HV.out]
  have hst := hst0.call hb
  have hb1 := hb0.trans (hb.mono hb0.size)
  obtain ⟨ht0, ht1, ht2, hs0, hs1, hs2, hf0, hf1⟩ := hst.facts
  have hw1 := hst.lt
  have hw0 : w.heap.size < w1.heap.size := by omega
  clear hb hst0 hb0
  have hrx := RdK.keep hr hb1
  have HRX := Lib.hid hrx
  obtain ⟨a', c', b, off, hv', hac', hcell⟩ := hrx
  obtain ⟨rfl, rfl⟩ : a = a' ∧ c = c' := by injection hv' with h1 h2 h3; exact ⟨h1, h3⟩
  have HC := Lib.hid hcell; clear hcell hv'
  have hln : -1 ≤ (l.length : Int) - 1 := by omega
  go_wp2_with fail
  clear ht0 ht1 ht2 hs0 hs1 hs2 hf0 hf1
  go_loopw [10] (fun vi wr => ∃ (i : Int) (k : Nat), -1 ≤ i ∧ i < l.length ∧ Hid (i = (k : Int) - 1) ∧ vi = .int .i64 i ∧ Hid (findO l lba l.length = findO l lba k) ∧ Below w1.heap.size w1 wr) (fun vi _ => (intOf vi + 1).toNat)
  case atStart => exact ⟨_, l.length, by omega, by omega, Lib.hid rfl, rfl, Lib.hid rfl, Below.refl _ _⟩
  case round =>
    obtain ⟨i, k, hi1, hi2, HK, rfl, HFO, hbr⟩ := hrel
    have hstr := hst.call hbr
    obtain ⟨ht0, ht1, ht2, hs0, hs1, hs2, hf0, hf1⟩ := hstr.facts
    have hb1r := hb1.trans (hbr.mono hb1.size)
    have hwr1 := hstr.lt
    have hwr0 : w.heap.size < wr.heap.size := by omega
    have hw1r : w1.heap.size ≤ wr.heap.size := hbr.size
    by_cases hneg : i < 0
    · have hd : decide (0 ≤ i) = false := decide_eq_false (by omega)
      have h0 : appendR cap cl fin l lba count = Res.bad 2 := HN.out (by
        have hk0 : k = 0 := by have := HK.out; omega
        rw [HFO.out, hk0]; rfl)
      have H0 := Lib.hid h0; clear h0 hneg
      go_wp2_with fail
      rw [H0.out]
      refine bodyPost_ret (v := .tuple #[tval 0 false (.slice none 0 0), .int .i64 2]) (by simp [results, Try.results33, go_sem, hs0, hs1, hs2]) rfl ⟨_, rfl, RdK.nil _, ?_⟩
      exact ((hb1r.setCell (by simp) _).setCell (by simp) _).setCell (by simp) _
    · obtain ⟨j, rfl⟩ : ∃ j : Nat, i = j := ⟨i.toNat, by omega⟩
      have hjl : j < l.length := by omega
      have hd : decide (0 ≤ (j : Int)) = true := decide_eq_true (by omega)
      have hkj : k = j + 1 := by have := HK.out; omega
      have HKJ := Lib.hid hkj; clear hkj
      obtain ⟨ha, hrange⟩ := HC.out j hjl
      have hix := fun w' => run_idxS Try.underlying22 Try.sizeTrack (cap := c) ha hjl _ rfl w'
      obtain ⟨sm1, sm2, sm3, sm4, sm5, sm6, sm7⟩ := HFw.out.2 j hjl
      have hgo := HVR.out j hjl
      unfold T.okR at hgo
      obtain ⟨x, hx⟩ : ∃ x, x = T.tr l j := ⟨_, rfl⟩
      rw [← hx] at hrange sm1 sm2 sm3 sm4 sm5 sm6 sm7 hgo
      have HX := Lib.hid hx; clear hx
      obtain ⟨g1, g2, g3, g4, g5, g6, g7, g8, g9, g10, g11, g12, g13, g14⟩ := hgo
      clear g1 g2 g3 g4 g5 g12 g13 g14
      obtain ⟨hc0, hc1, hc2, hc3, hc4, hc5, hc6⟩ := rd7 hrange
      have hbl0 := World.block_lt_of_cell? w1 _ hc0
      simp only at hbl0
      have hbl : b < wr.heap.size := by omega
      have gc := fun k => hbr.cell (p := ⟨b, k, none⟩) (by simp only; exact hbl0)
      rw [← gc] at hc0 hc1 hc2 hc3 hc4 hc5 hc6
      clear gc
      have Ha := Lib.hid ha; clear ha hrange
      unfold sm at sm3 sm4 sm5
      by_cases hs2 : x.sta = 2
      · have hd3 : (x.sta == 2) = true := by rw [beq_iff_eq]; exact hs2
        have HF2 : Hid (findO l lba l.length = findO l lba j) := Lib.hid (by rw [HFO.out, HKJ.out, findO, if_neg (by rw [← HX.out]; exact fun h => h.1 hs2)])
        clear hs2
        go_wp2_with fail
        go_roundw
        case rel => exact ⟨_, j, by omega, by omega, Lib.hid rfl, rfl, HF2, hbr.alloc (by omega) _⟩
        case measure => simp [intOf] <;> omega
      by_cases hnx : x.nx = lba
      · have hd3 : (x.sta == 2) = false := by rw [beq_eq_false_iff_ne]; exact hs2
        have hd4 : (x.nx != lba) = false := by rw [bne_eq_false_iff_eq]; exact hnx
        have hR := HS.out j (by rw [HFO.out, HKJ.out, findO, if_pos (by rw [← HX.out]; exact ⟨hs2, hnx⟩)])
        rw [← HX.out] at hR
        clear hs2
        have hlb : lba = x.nx := hnx.symm
        subst hlb
        clear hnx
        by_cases hpk : T.okPk count x.pk
        · rw [if_neg (not_not_intro hpk)] at hR
          have hc1 : 1 ≤ count := hpk.1
          have hkd1 : decide (count < 1) = false := decide_eq_false (by omega)
          by_cases hz : x.pk = 0
          · have hzd : decide (0 < x.pk) = false := decide_eq_false (by omega)
            clear hz hpk
            by_cases hfull : x.st + x.len - x.nx < count
            · rw [if_pos hfull] at hR
              have HR := Lib.hid hR; clear hR
              have hd5 : decide (x.st + x.len - x.nx < count) = true := decide_eq_true hfull
              clear hfull
              go_wp2_with fail
              rw [HR.out]
              refine bodyPost_ret (v := .tuple #[tval 0 false (.slice none 0 0), .int .i64 12]) (by simp [results, Try.results33, go_sem, hs0, hs1, hs2, hwr1]) rfl ⟨_, rfl, RdK.nil _, ?_⟩
              exact (((hb1r.setCell (by simp) _).setCell (by simp) _).setCell (by simp) _).alloc (by simp; omega) _
            · rw [if_neg hfull] at hR
              have HR := Lib.hid hR; clear hR
              have hd5 : decide (x.st + x.len - x.nx < count) = false := decide_eq_false hfull
              have hc2 : count ≤ x.st + x.len - x.nx := by omega
              clear hfull
              go_wp2_with fail
              refine (changed_any cl fin _ l j (T.grown x count) _ (HRX.out.keep (hbr.alloc (by omega) _)) (by omega) hjl).mono ?_
              rintro e w3 ⟨v3, rfl, hown3, hb3⟩
              have hbx := hb1r.alloc (by omega) (tobj (T.grown x count))
              have hstx := hstr.alloc (tobj (T.grown x count))
              have hst3 := hstx.call hb3
              have hb3' := hbx.trans (hb3.mono hbx.size)
              obtain ⟨a3, c3, rfl, _⟩ := RdS.form (RdK.ofOwn hown3)
              clear ht0 ht1 ht2 hs0 hs1 hs2 hf0 hf1
              obtain ⟨ht0, ht1, ht2, hs0, hs1, hs2, hf0, hf1⟩ := hst3.facts
              have hw4 := hst3.lt
              go_wp2_with fail
              rw [HR.out]
              refine bodyPost_ret (v := .tuple #[tval cl fin (.slice a3 (l.set j (T.grown x count)).length c3), .int .i64 0]) (by simp [results, Try.results33, go_sem, hs0, hs1, hs2]) rfl ⟨_, rfl, ?_, ?_⟩
              · refine RdK.ofOwn (base := (wr.alloc (tobj (T.grown x count))).heap.size) (e := 40) ?_
                have hlb : w.heap.size + 1 < (wr.alloc (tobj (T.grown x count))).heap.size := by simp; omega
                exact own_set (own_set (own_set hown3 hlb _) hlb _) hlb _
              · exact ((hb3'.setCell (by simp) _).setCell (by simp) _).setCell (by simp) _
          · have hzd : decide (0 < x.pk) = true := decide_eq_true (by omega)
            have hz0 : 0 < x.pk := by omega
            have hzm : (count % x.pk != 0) = false := by
              have := hpk.2.2.2 hz0
              rw [Int.tmod_eq_emod_of_nonneg (by omega)] at this
              simp [this]
            clear hz hpk
            by_cases hfull : x.st + x.len - x.nx < count
            · rw [if_pos hfull] at hR
              have HR := Lib.hid hR; clear hR
              have hd5 : decide (x.st + x.len - x.nx < count) = true := decide_eq_true hfull
              clear hfull
              go_wp2_with fail
              rw [HR.out]
              refine bodyPost_ret (v := .tuple #[tval 0 false (.slice none 0 0), .int .i64 12]) (by simp [results, Try.results33, go_sem, hs0, hs1, hs2, hwr1]) rfl ⟨_, rfl, RdK.nil _, ?_⟩
              exact (((hb1r.setCell (by simp) _).setCell (by simp) _).setCell (by simp) _).alloc (by simp; omega) _
            · rw [if_neg hfull] at hR
              have HR := Lib.hid hR; clear hR
              have hd5 : decide (x.st + x.len - x.nx < count) = false := decide_eq_false hfull
              have hc2 : count ≤ x.st + x.len - x.nx := by omega
              clear hfull
              go_wp2_with fail
              refine (changed_any cl fin _ l j (T.grown x count) _ (HRX.out.keep (hbr.alloc (by omega) _)) (by omega) hjl).mono ?_
              rintro e w3 ⟨v3, rfl, hown3, hb3⟩
              have hbx := hb1r.alloc (by omega) (tobj (T.grown x count))
              have hstx := hstr.alloc (tobj (T.grown x count))
              have hst3 := hstx.call hb3
              have hb3' := hbx.trans (hb3.mono hbx.size)
              obtain ⟨a3, c3, rfl, _⟩ := RdS.form (RdK.ofOwn hown3)
              clear ht0 ht1 ht2 hs0 hs1 hs2 hf0 hf1
              obtain ⟨ht0, ht1, ht2, hs0, hs1, hs2, hf0, hf1⟩ := hst3.facts
              have hw4 := hst3.lt
              go_wp2_with fail
              rw [HR.out]
              refine bodyPost_ret (v := .tuple #[tval cl fin (.slice a3 (l.set j (T.grown x count)).length c3), .int .i64 0]) (by simp [results, Try.results33, go_sem, hs0, hs1, hs2]) rfl ⟨_, rfl, ?_, ?_⟩
              · refine RdK.ofOwn (base := (wr.alloc (tobj (T.grown x count))).heap.size) (e := 40) ?_
                have hlb : w.heap.size + 1 < (wr.alloc (tobj (T.grown x count))).heap.size := by simp; omega
                exact own_set (own_set (own_set hown3 hlb _) hlb _) hlb _
              · exact ((hb3'.setCell (by simp) _).setCell (by simp) _).setCell (by simp) _
        · rw [if_pos hpk] at hR
          have HR := Lib.hid hR; clear hR
          by_cases hc1 : count < 1
          · have hkd1 : decide (count < 1) = true := decide_eq_true hc1
            clear hc1 hpk
            go_wp2_with fail
            rw [HR.out]
            refine bodyPost_ret (v := .tuple #[tval 0 false (.slice none 0 0), .int .i64 1]) (by simp [results, Try.results33, go_sem, hs0, hs1, hs2, hwr1]) rfl ⟨_, rfl, RdK.nil _, ?_⟩
            exact (((hb1r.setCell (by simp) _).setCell (by simp) _).setCell (by simp) _).alloc (by simp; omega) _
          · have hkd1 : decide (count < 1) = false := decide_eq_false hc1
            have hz0 : 0 < x.pk ∧ count % x.pk ≠ 0 := by
              refine Classical.byContradiction fun h => hpk ⟨by omega, by omega, by omega, fun h0 => ?_⟩
              rw [Int.tmod_eq_emod_of_nonneg (by omega)]
              exact Classical.byContradiction fun h1 => h ⟨h0, h1⟩
            have hzd : decide (0 < x.pk) = true := decide_eq_true hz0.1
            have hzm : (count % x.pk != 0) = true := by rw [bne_iff_ne]; exact hz0.2
            have hzp := hz0.1
            have hc1' : 1 ≤ count := by omega
            clear hz0 hpk hc1
            go_wp2_with fail
            rw [HR.out]
            refine bodyPost_ret (v := .tuple #[tval 0 false (.slice none 0 0), .int .i64 1]) (by simp [results, Try.results33, go_sem, hs0, hs1, hs2, hwr1]) rfl ⟨_, rfl, RdK.nil _, ?_⟩
            exact (((hb1r.setCell (by simp) _).setCell (by simp) _).setCell (by simp) _).alloc (by simp; omega) _
      · have hd3 : (x.sta == 2) = false := by rw [beq_eq_false_iff_ne]; exact hs2
        have hd4 : (x.nx != lba) = true := by rw [bne_iff_ne]; exact hnx
        have HF2 : Hid (findO l lba l.length = findO l lba j) := Lib.hid (by rw [HFO.out, HKJ.out, findO, if_neg (by rw [← HX.out]; exact fun h => hnx h.2)])
        clear hs2 hnx
        go_wp2_with fail
        go_roundw
        case rel => exact ⟨_, j, by omega, by omega, Lib.hid rfl, rfl, HF2, hbr.alloc (by omega) _⟩
        case measure => simp [intOf] <;> omega
end Go.Proofs.Ytiioojlihapdaaa
