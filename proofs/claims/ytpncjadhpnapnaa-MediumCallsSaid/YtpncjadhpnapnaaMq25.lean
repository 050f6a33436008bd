/- Chapter 12: Few of the reference, act of the laws. -/
import Derived.Test.YtpncjadhpnapnaaMq13
import Derived.Test.YtpncjadhpnapnaaSeqA
namespace Go.Proofs.Ytpncjadhpnapnaa.D12
open Go.RowKit Go.Maps C9
open D13 (RdI ixI is)
set_option linter.unusedVariables false

def smallA (a : AC) : Bool := decide (a.scr.length ≤ 8) && decide (a.dam.er.length ≤ 200) && decide (a.dam.ch.length ≤ 200)
def fewR (l : List AV) : Bool := l.all (fun x => smallA x.a) && decide (l.length ≤ 40)
theorem smallA_iff (a : AC) : smallA a = true ↔ a.scr.length ≤ 8 ∧ a.dam.er.length ≤ 200 ∧ a.dam.ch.length ≤ 200 := by simp [smallA, and_assoc]
theorem fewR_iff (l : List AV) : fewR l = true ↔ (∀ i, i < l.length → smallA (atD avz l i).a = true) ∧ l.length ≤ 40 := by
  unfold fewR
  rw [Bool.and_eq_true, List.all_eq_true, decide_eq_true_eq]
  constructor
  · rintro ⟨h1, h2⟩; exact ⟨fun i hi => h1 _ (atD_mem hi), h2⟩
  · rintro ⟨h1, h2⟩
    refine ⟨fun x hx => ?_, h2⟩
    obtain ⟨i, hi, rfl⟩ := List.getElem_of_mem hx
    have := h1 i hi
    rwa [show atD avz l i = l[i] from by simp [atD, hi]] at this
/-- where a call that came in lies -/
structure AvW (w : World) (b o : Nat) (x : AV) : Prop where
  r : w.rangeAt b o (avD x)
theorem Try.sizeAct : (Try.prog.info? 46).map (·.size) = some 8 := by kernel_rfl
set_option maxRecDepth 100000 in
set_option maxHeartbeats 2000000 in
theorem few12 {w : World} {v : Value} {l : List AV} (h : CameActs w v l) :
    Calls Try.prog 21 #[v] w fun e w' => e = .returned (.bool (fewR l)) ∧ w' = w := by
  obtain ⟨al, cl, rfl, _⟩ := RdD.form h.1
  obtain ⟨bl, off, hcell⟩ := RdD.at h.1
  have HC := Lib.hid hcell
  have HA := Lib.hid h.2.2
  have hl63 := h.2.1
  clear h hcell
  have HNO : Hid (∀ k, k < l.length → smallA (atD avz l k).a = false → fewR l = false) := Lib.hid fun k hk hs => by
    rw [Bool.eq_false_iff]
    intro hf
    rw [((fewR_iff l).1 hf).1 k hk] at hs
    cases hs
  have HYES : Hid ((∀ k, k < l.length → smallA (atD avz l k).a = true) → fewR l = decide (l.length ≤ 40)) := Lib.hid fun hs => by
    by_cases h40 : l.length ≤ 40
    · rw [decide_eq_true h40, fewR_iff]; exact ⟨hs, h40⟩
    · rw [decide_eq_false h40, Bool.eq_false_iff]
      exact fun hf => h40 ((fewR_iff l).1 hf).2
  go_enter Try.func21, Try.ntmps21
  go_wp2_with fail
  go_loop [3] (fun vk => ∃ k : Nat, k ≤ l.length ∧ vk = .int .i64 k ∧ Hid (∀ j, j < k → smallA (atD avz l j).a = true)) (fun vk => l.length - (RowKit.intOf vk).toNat)
  case atStart => exact ⟨0, by omega, rfl, Lib.hid fun j hj => by omega⟩
  case round =>
    obtain ⟨k, hk, rfl, HK⟩ := hrel
    by_cases hlt : k < l.length
    · obtain ⟨hva, hrange⟩ := HC.out k hlt
      have hx := HA.out k hlt
      have HNK := Lib.hid (HNO.out k hlt)
      have HKS : Hid (smallA (atD avz l k).a = true → ∀ j, j < k + 1 → smallA (atD avz l j).a = true) := Lib.hid fun h j hj => by
        by_cases e : j = k
        · rw [e]; exact h
        · exact HK.out j (by omega)
      generalize atD avz l k = x at *
      have hix := fun w' => run_idxS Try.underlying54 Try.sizeAct (cap := cl) (n := l.length) (k := k) (b := bl) (off := off) hva hlt _ rfl w'
      have c4 := hrange 4 _ rfl
      have c6 := hrange 6 _ rfl
      have c7 := hrange 7 _ rfl
      obtain ⟨sa, sc, hvs, _⟩ := RdD.form hx.s.1
      obtain ⟨aE, cE, hvE, _⟩ := RdS.form hx.d.er.1
      obtain ⟨aC, cC, hvC, _⟩ := RdD.form hx.d.ch.1
      have hl1 := hx.s.2.2
      have hl2 := hx.d.er.2.1
      have hl3 := hx.d.ch.2.1
      simp only [hvs, hvE, hvC] at c4 c6 c7
      have HIF := Lib.hid (smallA_iff x.a)
      generalize x.a.scr.length = n1 at *
      generalize x.a.dam.er.length = n2 at *
      generalize x.a.dam.ch.length = n3 at *
      clear hx hrange hvs hvE hvC hva
      by_cases h1 : 8 < n1
      · have hq : decide (8 < (n1 : Int)) = true := decide_eq_true (by omega)
        have HR := Lib.hid (HNK.out (by rw [Bool.eq_false_iff]; intro h; have := HIF.out.1 h; omega))
        clear h1
        go_wp2_with fail
        go_ret
        exact ⟨by rw [HR.out]; rfl, rfl⟩
      have hq1 : decide (8 < (n1 : Int)) = false := decide_eq_false (by omega)
      by_cases h2 : 200 < n2
      · have hq : decide (200 < (n2 : Int)) = true := decide_eq_true (by omega)
        have HR := Lib.hid (HNK.out (by rw [Bool.eq_false_iff]; intro h; have := HIF.out.1 h; omega))
        clear h1 h2
        go_wp2_with fail
        go_ret
        exact ⟨by rw [HR.out]; rfl, rfl⟩
      have hq2 : decide (200 < (n2 : Int)) = false := decide_eq_false (by omega)
      by_cases h3 : 200 < n3
      · have hq : decide (200 < (n3 : Int)) = true := decide_eq_true (by omega)
        have HR := Lib.hid (HNK.out (by rw [Bool.eq_false_iff]; intro h; have := HIF.out.1 h; omega))
        clear h1 h2 h3
        go_wp2_with fail
        go_ret
        exact ⟨by rw [HR.out]; rfl, rfl⟩
      have hq3 : decide (200 < (n3 : Int)) = false := decide_eq_false (by omega)
      have HKN := Lib.hid (HKS.out (HIF.out.2 ⟨by omega, by omega, by omega⟩))
      clear h1 h2 h3
      go_wp2_with fail
      go_round
      case rel => exact ⟨k + 1, by omega, by go_num, HKN⟩
      case measure => simp [RowKit.intOf]; omega
    · obtain rfl : k = l.length := by omega
      have HR := Lib.hid (HYES.out HK.out)
      go_wp2_with fail
      go_ret
      refine ⟨?_, rfl⟩
      rw [HR.out]
      exact retB12 (by rw [decide_eq_decide]; omega)
def actV (g ab : Nat) (x : AV) (z : Int) (i : Nat) (v : Value) (W : World) : Prop := match i with
  | 0 => v = .pointer (some ⟨g, 0, none⟩)
  | 1 => v = .pointer (some ⟨ab, 1, none⟩)
  | 2 => v = .int .i64 x.a.at_
  | 3 => v = .agg #[.int .i64 x.a.kind, .int .i64 x.a.at_, .int .i64 x.a.byte, .bool x.a.short, x.vs, .int .i64 x.a.dam.lba, x.vE, x.vC]
  | 4 => v = .string (str (rawR x.a.byte x.a.short))
  | 5 => v = .int .i64 z
  | 6 => v = .int .i64 z
  | _ => True
def actVE : Nat → Option Nat
  | 4 => some 0
  | 5 => some 1
  | _ => none
theorem actV_keep (g ab : Nat) (x : AV) (z : Int) (i r : Nat) (v : Value) (W W' : World) (hk : ∀ k, actVE i = some k → k < r) (hR : (anyR) r W W') (h : actV g ab x z i v W) : actV g ab x z i v W' := by
  unfold actV at h ⊢
  split at h <;> first | exact h
/-- while act records: the string is made, the sector recorded -/
def ActC (w : World) (g : Nat) (X R : Nat → Prop) (Z : Int × Med) (r : Nat) (W : World) : Prop := match r with
  | 0 => Below w.heap.size w W ∧ True
  | 1 => Below w.heap.size w W ∧ True
  | _ => ∃ X2 R2, MedW W g Z.2 X2 R2 ∧ Ch X R X2 R2 w W
theorem ActC.below {w : World} {g : Nat} {X R : Nat → Prop} {Z : Int × Med} {r : Nat} {W : World} (h : ActC w g X R Z r W) (hr : r ≤ 1) : Below w.heap.size w W := by
  match r, hr with
  | 0, _ => exact h.1
  | 1, _ => exact h.1
theorem WrP.later {w w1 w' : World} {g : Nat} {X R : Nat → Prop} {Z : Int × Med} {e : Ending} (h : WrP Z g X R w1 e w') (hb : Below w.heap.size w w1) : WrP Z g X R w e w' := by
  obtain ⟨he, X2, R2, hm, hc⟩ := h
  exact ⟨he, X2, R2, hm, (Ch.of hb).trans hc⟩
set_option maxRecDepth 100000 in
set_option maxHeartbeats 4000000 in
theorem act12_tear {w : World} {g : Nat} {M : Med} {X R : Nat → Prop} {N : Nat} (h : MedW w g M X R) (ho : M.Ok N) (hN : N ≤ 1000000) (x : AV) {w0 : World} (hx : CameAV w0 x) (h0 : Below w0.heap.size w0 w) (hX : ∀ b, X b → w0.heap.size ≤ b) (hs : smallA x.a = true) (hk : x.a.kind = 1) :
    Calls Try.prog 23 #[.pointer (some ⟨g, 0, none⟩), .agg (avD x).toArray] w (WrP (M.act x.a) g X R w) := by
  obtain ⟨hs1, hs2, hs3⟩ := (smallA_iff _).1 hs
  have hA := (Below.refl w.heap.size w).alloc (Nat.le_refl _) (.cells (avD x).toArray 46)
  have hB := Bx.new w 46 (avD x)
  obtain ⟨wA, hwA⟩ : ∃ wA, wA = w.alloc (.cells (avD x).toArray 46) := ⟨_, rfl⟩
  obtain ⟨ab, hab⟩ : ∃ ab, ab = w.heap.size := ⟨_, rfl⟩
  rw [← hwA] at hA hB
  rw [← hab] at hB
  have HWA := Lib.hid hwA
  have HAB := Lib.hid hab
  have HA := Lib.hid hA
  have HB := Lib.hid hB
  have HM := Lib.hid (h.below hA)
  have c0 := hB.cell (i := 0) rfl
  have h0A := h0.trans (hA.mono h0.size)
  have HCL := Lib.hid ((tear12 HM.out ho (by omega) x.a.at_).mono fun e w' hw => WrP.later hw HA.out)
  have hz : M.act x.a = M.tear x.a.at_ := by unfold Med.act; rw [if_neg (by omega), if_pos hk]
  rw [← hz] at HCL
  have q1 := hB.cell (i := 1) rfl
  have q4 := hB.cell (i := 4) rfl
  have q5 := hB.cell (i := 5) rfl
  have q6 := hB.cell (i := 6) rfl
  have q7 := hB.cell (i := 7) rfl
  rw [hk] at c0
  clear hx h ho hN h0 hX hs hs1 hs2 hs3 hA hB hwA hab h0A hz
  go_enter Try.func23, Try.ntmps23
  go_upto_region 1 with (fail)
  rw [show (w.alloc (.cells (avD x).toArray 46)) = wA from HWA.out.symm, show w.heap.size = ab from HAB.out.symm]
  go_wp2_with fail
  refine HCL.out.mono ?_
  rintro e w2 hw
  obtain ⟨rfl, hw2⟩ := hw
  have HF : Hid (WrP (M.act x.a) g X R w (.returned (.int .i64 (M.act x.a).1)) w2) := Lib.hid ⟨rfl, hw2⟩
  clear hw2
  go_wp2_with fail
  go_ret
  exact HF.out
set_option maxRecDepth 100000 in
set_option maxHeartbeats 4000000 in
theorem act12_erase {w : World} {g : Nat} {M : Med} {X R : Nat → Prop} {N : Nat} (h : MedW w g M X R) (ho : M.Ok N) (hN : N ≤ 1000000) (x : AV) {w0 : World} (hx : CameAV w0 x) (h0 : Below w0.heap.size w0 w) (hX : ∀ b, X b → w0.heap.size ≤ b) (hs : smallA x.a = true) (hk : x.a.kind = 2) :
    Calls Try.prog 23 #[.pointer (some ⟨g, 0, none⟩), .agg (avD x).toArray] w (WrP (M.act x.a) g X R w) := by
  obtain ⟨hs1, hs2, hs3⟩ := (smallA_iff _).1 hs
  have hA := (Below.refl w.heap.size w).alloc (Nat.le_refl _) (.cells (avD x).toArray 46)
  have hB := Bx.new w 46 (avD x)
  obtain ⟨wA, hwA⟩ : ∃ wA, wA = w.alloc (.cells (avD x).toArray 46) := ⟨_, rfl⟩
  obtain ⟨ab, hab⟩ : ∃ ab, ab = w.heap.size := ⟨_, rfl⟩
  rw [← hwA] at hA hB
  rw [← hab] at hB
  have HWA := Lib.hid hwA
  have HAB := Lib.hid hab
  have HA := Lib.hid hA
  have HB := Lib.hid hB
  have HM := Lib.hid (h.below hA)
  have c0 := hB.cell (i := 0) rfl
  have h0A := h0.trans (hA.mono h0.size)
  have HCL := Lib.hid ((erase12 HM.out ho x.a.at_).mono fun e w' hw => WrP.later hw HA.out)
  have hz : M.act x.a = M.erase x.a.at_ := by unfold Med.act; rw [if_neg (by omega), if_neg (by omega), if_pos hk]
  rw [← hz] at HCL
  have q1 := hB.cell (i := 1) rfl
  have q4 := hB.cell (i := 4) rfl
  have q5 := hB.cell (i := 5) rfl
  have q6 := hB.cell (i := 6) rfl
  have q7 := hB.cell (i := 7) rfl
  rw [hk] at c0
  clear hx h ho hN h0 hX hs hs1 hs2 hs3 hA hB hwA hab h0A hz
  go_enter Try.func23, Try.ntmps23
  go_upto_region 1 with (fail)
  rw [show (w.alloc (.cells (avD x).toArray 46)) = wA from HWA.out.symm, show w.heap.size = ab from HAB.out.symm]
  go_wp2_with fail
  refine HCL.out.mono ?_
  rintro e w2 hw
  obtain ⟨rfl, hw2⟩ := hw
  have HF : Hid (WrP (M.act x.a) g X R w (.returned (.int .i64 (M.act x.a).1)) w2) := Lib.hid ⟨rfl, hw2⟩
  clear hw2
  go_wp2_with fail
  go_ret
  exact HF.out
set_option maxRecDepth 100000 in
set_option maxHeartbeats 4000000 in
theorem act12_scratch {w : World} {g : Nat} {M : Med} {X R : Nat → Prop} {N : Nat} (h : MedW w g M X R) (ho : M.Ok N) (hN : N ≤ 1000000) (x : AV) {w0 : World} (hx : CameAV w0 x) (h0 : Below w0.heap.size w0 w) (hX : ∀ b, X b → w0.heap.size ≤ b) (hs : smallA x.a = true) (hk : x.a.kind = 3) :
    Calls Try.prog 23 #[.pointer (some ⟨g, 0, none⟩), .agg (avD x).toArray] w (WrP (M.act x.a) g X R w) := by
  obtain ⟨hs1, hs2, hs3⟩ := (smallA_iff _).1 hs
  have hA := (Below.refl w.heap.size w).alloc (Nat.le_refl _) (.cells (avD x).toArray 46)
  have hB := Bx.new w 46 (avD x)
  obtain ⟨wA, hwA⟩ : ∃ wA, wA = w.alloc (.cells (avD x).toArray 46) := ⟨_, rfl⟩
  obtain ⟨ab, hab⟩ : ∃ ab, ab = w.heap.size := ⟨_, rfl⟩
  rw [← hwA] at hA hB
  rw [← hab] at hB
  have HWA := Lib.hid hwA
  have HAB := Lib.hid hab
  have HA := Lib.hid hA
  have HB := Lib.hid hB
  have HM := Lib.hid (h.below hA)
  have c0 := hB.cell (i := 0) rfl
  have h0A := h0.trans (hA.mono h0.size)
  have HCL := Lib.hid ((scratch12 HM.out ho x.vs x.a.scr (hx.s.keep h0A) (by omega)).mono fun e w' hw => WrP.later hw HA.out)
  have hz : M.act x.a = M.scratch x.a.scr := by unfold Med.act; rw [if_neg (by omega), if_neg (by omega), if_neg (by omega), if_pos hk]
  rw [← hz] at HCL
  have q1 := hB.cell (i := 1) rfl
  have q4 := hB.cell (i := 4) rfl
  have q5 := hB.cell (i := 5) rfl
  have q6 := hB.cell (i := 6) rfl
  have q7 := hB.cell (i := 7) rfl
  rw [hk] at c0
  clear hx h ho hN h0 hX hs hs1 hs2 hs3 hA hB hwA hab h0A hz
  go_enter Try.func23, Try.ntmps23
  go_upto_region 1 with (fail)
  rw [show (w.alloc (.cells (avD x).toArray 46)) = wA from HWA.out.symm, show w.heap.size = ab from HAB.out.symm]
  go_wp2_with fail
  refine HCL.out.mono ?_
  rintro e w2 hw
  obtain ⟨rfl, hw2⟩ := hw
  have HF : Hid (WrP (M.act x.a) g X R w (.returned (.int .i64 (M.act x.a).1)) w2) := Lib.hid ⟨rfl, hw2⟩
  clear hw2
  go_wp2_with fail
  go_ret
  exact HF.out
set_option maxRecDepth 100000 in
set_option maxHeartbeats 4000000 in
theorem act12_damage {w : World} {g : Nat} {M : Med} {X R : Nat → Prop} {N : Nat} (h : MedW w g M X R) (ho : M.Ok N) (hN : N ≤ 1000000) (x : AV) {w0 : World} (hx : CameAV w0 x) (h0 : Below w0.heap.size w0 w) (hX : ∀ b, X b → w0.heap.size ≤ b) (hs : smallA x.a = true) (hk : x.a.kind ≠ 0 ∧ x.a.kind ≠ 1 ∧ x.a.kind ≠ 2 ∧ x.a.kind ≠ 3) :
    Calls Try.prog 23 #[.pointer (some ⟨g, 0, none⟩), .agg (avD x).toArray] w (WrP (M.act x.a) g X R w) := by
  obtain ⟨hs1, hs2, hs3⟩ := (smallA_iff _).1 hs
  have hA := (Below.refl w.heap.size w).alloc (Nat.le_refl _) (.cells (avD x).toArray 46)
  have hB := Bx.new w 46 (avD x)
  obtain ⟨wA, hwA⟩ : ∃ wA, wA = w.alloc (.cells (avD x).toArray 46) := ⟨_, rfl⟩
  obtain ⟨ab, hab⟩ : ∃ ab, ab = w.heap.size := ⟨_, rfl⟩
  rw [← hwA] at hA hB
  rw [← hab] at hB
  have HWA := Lib.hid hwA
  have HAB := Lib.hid hab
  have HA := Lib.hid hA
  have HB := Lib.hid hB
  have HM := Lib.hid (h.below hA)
  have c0 := hB.cell (i := 0) rfl
  have h0A := h0.trans (hA.mono h0.size)
  have HCL := Lib.hid ((damage12 HM.out ho x.vE x.vC x.a.dam (hx.d.dam hs2 hs3) h0A hX).mono fun e w' hw => WrP.later hw HA.out)
  have hz : M.act x.a = M.damage x.a.dam := by unfold Med.act; rw [if_neg (by omega), if_neg (by omega), if_neg (by omega), if_neg (by omega)]
  rw [← hz] at HCL
  have q1 := hB.cell (i := 1) rfl
  have q4 := hB.cell (i := 4) rfl
  have q5 := hB.cell (i := 5) rfl
  have q6 := hB.cell (i := 6) rfl
  have q7 := hB.cell (i := 7) rfl
  have r0 : (x.a.kind == 0) = false := by rw [beq_eq_false_iff_ne]; exact hk.1
  have r1 : (x.a.kind == 1) = false := by rw [beq_eq_false_iff_ne]; exact hk.2.1
  have r2 : (x.a.kind == 2) = false := by rw [beq_eq_false_iff_ne]; exact hk.2.2.1
  have r3 : (x.a.kind == 3) = false := by rw [beq_eq_false_iff_ne]; exact hk.2.2.2
  clear hx h ho hN h0 hX hs hs1 hs2 hs3 hA hB hwA hab h0A hz
  go_enter Try.func23, Try.ntmps23
  go_upto_region 1 with (fail)
  rw [show (w.alloc (.cells (avD x).toArray 46)) = wA from HWA.out.symm, show w.heap.size = ab from HAB.out.symm]
  go_wp2_with fail
  refine HCL.out.mono ?_
  rintro e w2 hw
  obtain ⟨rfl, hw2⟩ := hw
  have HF : Hid (WrP (M.act x.a) g X R w (.returned (.int .i64 (M.act x.a).1)) w2) := Lib.hid ⟨rfl, hw2⟩
  clear hw2
  go_wp2_with fail
  go_ret
  exact HF.out
set_option maxRecDepth 100000 in
set_option maxHeartbeats 4000000 in
theorem act12_record {w : World} {g : Nat} {M : Med} {X R : Nat → Prop} {N : Nat} (h : MedW w g M X R) (ho : M.Ok N) (hN : N ≤ 1000000) (x : AV) {w0 : World} (hx : CameAV w0 x) (h0 : Below w0.heap.size w0 w) (hX : ∀ b, X b → w0.heap.size ≤ b) (hs : smallA x.a = true) (hk : x.a.kind = 0) :
    Calls Try.prog 23 #[.pointer (some ⟨g, 0, none⟩), .agg (avD x).toArray] w (WrP (M.act x.a) g X R w) := by
  obtain ⟨hs1, hs2, hs3⟩ := (smallA_iff _).1 hs
  have hA := (Below.refl w.heap.size w).alloc (Nat.le_refl _) (.cells (avD x).toArray 46)
  have hB := Bx.new w 46 (avD x)
  obtain ⟨wA, hwA⟩ : ∃ wA, wA = w.alloc (.cells (avD x).toArray 46) := ⟨_, rfl⟩
  obtain ⟨ab, hab⟩ : ∃ ab, ab = w.heap.size := ⟨_, rfl⟩
  rw [← hwA] at hA hB
  rw [← hab] at hB
  have HWA := Lib.hid hwA
  have HAB := Lib.hid hab
  have HA := Lib.hid hA
  have HB := Lib.hid hB
  have HM := Lib.hid (h.below hA)
  have c0 := hB.cell (i := 0) rfl
  have h0A := h0.trans (hA.mono h0.size)
  have HRAW := Lib.hid (fun W => raw12 x.a.kind x.a.at_ x.a.byte x.a.short x.vs x.vE x.vC x.a.dam hx.b W)
  obtain ⟨Z, hZ⟩ : ∃ Z, Z = M.act x.a := ⟨_, rfl⟩
  have hZr : Z = M.record x.a.at_ (rawR x.a.byte x.a.short) := by rw [hZ]; unfold Med.act; rw [if_pos hk]
  have HREC : Hid (∀ W, Below wA.heap.size wA W → Calls Try.prog 11 #[.pointer (some ⟨g, 0, none⟩), .int .i64 x.a.at_, .string (str (rawR x.a.byte x.a.short))] W (WrP Z g X R W)) := Lib.hid fun W hW => by
    rw [hZr]
    exact record12 (HM.out.below hW) ho (by omega) x.a.at_ _ (by rw [rawR_length]; unfold rawN; split <;> omega)
  have HBX := Lib.hid (fun W (hW : Below wA.heap.size wA W) => HB.out.call hW)
  have HZQ := Lib.hid hZ
  obtain ⟨z, hz⟩ : ∃ z, z = Z.1 := ⟨_, rfl⟩
  have HZ := Lib.hid hz
  clear hx h ho hN h0 hX hs hs1 hs2 hs3 hA hB hwA hab h0A hZ hZr hz
  rw [hk] at c0
  clear hk
  go_enter Try.func23, Try.ntmps23
  go_upto_region 1 with (fail)
  rw [show (w.alloc (.cells (avD x).toArray 46)) = wA from HWA.out.symm, show w.heap.size = ab from HAB.out.symm]
  go_upto_region 3 with (fail)
  refine wp_region_seqA (by kernel_rfl) (anyR) (fun r a W => ActC wA g X R Z r W) (actV g ab x z) (fun _ => false) actVE 2 (by kernel_rfl) (by kernel_rfl) (.inl (by kernel_rfl)) (fun _ _ _ _ _ _ _ _ hc => hc) (actV_keep g ab x z) (⟨(Below.refl _ _).drew, trivial⟩) ⟨?_, ?_, ?_, ?_, ?_, ?_, ?_, trivial⟩ ?_
  · intro r a W hc hsz hold hdep hnot hlo hhi hrk
    have o0 : a.tmps.getD 0 undef = .pointer (some ⟨g, 0, none⟩) := hold 0 (by kernel_rfl)
    clear hsz hold hdep hnot hlo hhi hrk
    refine stepR_do rfl (wanted_none rfl) ?_
    refine stepA_val (v := .pointer (some ⟨g, 0, none⟩)) (anyR_mk _ _ _) rfl fun K hK => ?_
    go_simp
    exact hK
  · intro r a W hc hsz hold hdep hnot hlo hhi hrk
    have o3 : a.tmps.getD 3 undef = .pointer (some ⟨ab, 0, none⟩) := hold 3 (by kernel_rfl)
    clear hsz hold hdep hnot hlo hhi hrk
    refine stepR_do rfl (wanted_none rfl) ?_
    refine stepA_val (v := .pointer (some ⟨ab, 1, none⟩)) (anyR_mk _ _ _) rfl fun K hK => ?_
    go_simp
    exact hK
  · intro r a W hc hsz hold hdep hnot hlo hhi hrk
    have d1 : a.tmps.getD 10 undef = .pointer (some ⟨ab, 1, none⟩) := hdep 1 (by kernel_rfl) rfl _ rfl
    have hr2 := hhi 5 1 rfl (by kernel_rfl)
    have hcb := ActC.below hc hr2
    have q1 := (HBX.out W hcb).cell (i := 1) rfl
    clear hsz hold hdep hnot hlo hhi hrk
    refine stepR_do rfl (wanted_none rfl) ?_
    refine stepA_val (v := .int .i64 x.a.at_) (anyR_mk _ _ _) rfl fun K hK => ?_
    go_simp
    exact hK
  · intro r a W hc hsz hold hdep hnot hlo hhi hrk
    have o3 : a.tmps.getD 3 undef = .pointer (some ⟨ab, 0, none⟩) := hold 3 (by kernel_rfl)
    have hr2 := hhi 5 1 rfl (by kernel_rfl)
    have hcb := ActC.below hc hr2
    have q0 := (HBX.out W hcb).cell (i := 0) rfl
    have q1 := (HBX.out W hcb).cell (i := 1) rfl
    have q2 := (HBX.out W hcb).cell (i := 2) rfl
    have q3 := (HBX.out W hcb).cell (i := 3) rfl
    have q4 := (HBX.out W hcb).cell (i := 4) rfl
    have q5 := (HBX.out W hcb).cell (i := 5) rfl
    have q6 := (HBX.out W hcb).cell (i := 6) rfl
    have q7 := (HBX.out W hcb).cell (i := 7) rfl
    clear hsz hold hdep hnot hlo hhi hrk
    refine stepR_do rfl (wanted_none rfl) ?_
    refine stepA_val (v := .agg #[.int .i64 x.a.kind, .int .i64 x.a.at_, .int .i64 x.a.byte, .bool x.a.short, x.vs, .int .i64 x.a.dam.lba, x.vE, x.vC]) (anyR_mk _ _ _) rfl fun K hK => ?_
    go_simp
    exact hK
  · intro r a W hc hsz hold hdep hnot hlo hhi hrk
    have hr := hrk 0 rfl
    subst hr
    have d3 : a.tmps.getD 12 undef = .agg #[.int .i64 x.a.kind, .int .i64 x.a.at_, .int .i64 x.a.byte, .bool x.a.short, x.vs, .int .i64 x.a.dam.lba, x.vE, x.vC] := hdep 3 (by kernel_rfl) rfl _ rfl
    have e3 : a.tmps[12]?.getD undef = .agg #[.int .i64 x.a.kind, .int .i64 x.a.at_, .int .i64 x.a.byte, .bool x.a.short, x.vs, .int .i64 x.a.dam.lba, x.vE, x.vC] := by rw [← Array.getD_eq_getD_getElem?]; exact d3
    clear hsz hold hdep hnot hlo hhi hrk
    refine stepR_do rfl (wanted_none rfl) ?_
    have hc1 := hc.1
    refine stepA_any (C := fun a W => ActC wA g X R Z 1 W) fun K hK => ?_
    clear d3
    go_simp
    refine (HRAW.out W).mono ?_
    rintro e w' ⟨rfl, hb⟩
    exact hK _ _ (anyR_mk _ _ _) ⟨hc1.trans (hb.mono hc1.size), trivial⟩ rfl
  · intro r a W hc hsz hold hdep hnot hlo hhi hrk
    have hr := hrk 1 rfl
    subst hr
    have d0 : a.tmps.getD 9 undef = .pointer (some ⟨g, 0, none⟩) := hdep 0 (by kernel_rfl) rfl _ rfl
    have e0 : a.tmps[9]?.getD undef = .pointer (some ⟨g, 0, none⟩) := by rw [← Array.getD_eq_getD_getElem?]; exact d0
    have d2 : a.tmps.getD 11 undef = .int .i64 x.a.at_ := hdep 2 (by kernel_rfl) rfl _ rfl
    have e2 : a.tmps[11]?.getD undef = .int .i64 x.a.at_ := by rw [← Array.getD_eq_getD_getElem?]; exact d2
    have d4 : a.tmps.getD 13 undef = .string (str (rawR x.a.byte x.a.short)) := hdep 4 (by kernel_rfl) rfl _ rfl
    have e4 : a.tmps[13]?.getD undef = .string (str (rawR x.a.byte x.a.short)) := by rw [← Array.getD_eq_getD_getElem?]; exact d4
    clear hsz hold hdep hnot hlo hhi hrk
    refine stepR_do rfl (wanted_none rfl) ?_
    have hc1 := hc.1
    have e11 : a.eval (.tmp 11) = .int .i64 x.a.at_ := d2
    refine stepA_any (C := fun a W => ActC wA g X R Z 2 W) fun K hK => ?_
    go_simp
    refine (HREC.out W hc1).mono ?_
    rintro e w' hw
    obtain ⟨rfl, X2, R2, hm, hch⟩ := hw
    exact hK _ _ (anyR_mk _ _ _) ⟨X2, R2, hm, (Ch.of hc1).trans hch⟩ (by rw [HZ.out]; rfl)
  · intro r a W hc hsz hold hdep hnot hlo hhi hrk
    have d5 : a.tmps.getD 14 undef = .int .i64 z := hdep 5 (by kernel_rfl) rfl _ rfl
    clear hsz hold hdep hnot hlo hhi hrk
    refine stepR_do rfl (wanted_none rfl) ?_
    refine stepA_val (v := .int .i64 z) (anyR_mk _ _ _) rfl fun K hK => ?_
    go_simp
    exact hK
  · intro a W hC hd hsz hold hval
    have d4 : a.tmps.getD 4 undef = .int .i64 z := hval 6 _ rfl rfl
    clear hold
    obtain ⟨tm, df⟩ := a
    replace hd : df = [] := hd
    replace hsz : tm.size = 37 := hsz
    replace d4 : tm.getD 4 undef = .int .i64 z := d4
    subst hd
    have e : tm = List.toArray (tm.getD 0 undef :: tm.getD 1 undef :: tm.getD 2 undef :: tm.getD 3 undef :: tm.getD 4 undef :: tm.getD 5 undef :: tm.getD 6 undef :: tm.getD 7 undef :: tm.getD 8 undef :: tm.getD 9 undef :: tm.getD 10 undef :: tm.getD 11 undef :: tm.getD 12 undef :: tm.getD 13 undef :: tm.getD 14 undef :: tm.getD 15 undef :: tm.getD 16 undef :: tm.getD 17 undef :: tm.getD 18 undef :: tm.getD 19 undef :: tm.getD 20 undef :: tm.getD 21 undef :: tm.getD 22 undef :: tm.getD 23 undef :: tm.getD 24 undef :: tm.getD 25 undef :: tm.getD 26 undef :: tm.getD 27 undef :: tm.getD 28 undef :: tm.getD 29 undef :: tm.getD 30 undef :: tm.getD 31 undef :: tm.getD 32 undef :: tm.getD 33 undef :: tm.getD 34 undef :: tm.getD 35 undef :: tm.getD 36 undef :: []) := arr_eq tm 37 hsz
    rw [d4] at e
    clear d4 hsz
    generalize tm.getD 0 undef = v0 at e
    generalize tm.getD 1 undef = v1 at e
    generalize tm.getD 2 undef = v2 at e
    generalize tm.getD 3 undef = v3 at e
    generalize tm.getD 5 undef = v5 at e
    generalize tm.getD 6 undef = v6 at e
    generalize tm.getD 7 undef = v7 at e
    generalize tm.getD 8 undef = v8 at e
    generalize tm.getD 9 undef = v9 at e
    generalize tm.getD 10 undef = v10 at e
    generalize tm.getD 11 undef = v11 at e
    generalize tm.getD 12 undef = v12 at e
    generalize tm.getD 13 undef = v13 at e
    generalize tm.getD 14 undef = v14 at e
    generalize tm.getD 15 undef = v15 at e
    generalize tm.getD 16 undef = v16 at e
    generalize tm.getD 17 undef = v17 at e
    generalize tm.getD 18 undef = v18 at e
    generalize tm.getD 19 undef = v19 at e
    generalize tm.getD 20 undef = v20 at e
    generalize tm.getD 21 undef = v21 at e
    generalize tm.getD 22 undef = v22 at e
    generalize tm.getD 23 undef = v23 at e
    generalize tm.getD 24 undef = v24 at e
    generalize tm.getD 25 undef = v25 at e
    generalize tm.getD 26 undef = v26 at e
    generalize tm.getD 27 undef = v27 at e
    generalize tm.getD 28 undef = v28 at e
    generalize tm.getD 29 undef = v29 at e
    generalize tm.getD 30 undef = v30 at e
    generalize tm.getD 31 undef = v31 at e
    generalize tm.getD 32 undef = v32 at e
    generalize tm.getD 33 undef = v33 at e
    generalize tm.getD 34 undef = v34 at e
    generalize tm.getD 35 undef = v35 at e
    generalize tm.getD 36 undef = v36 at e
    subst e
    obtain ⟨X2, R2, hm, hch⟩ : ∃ X2 R2, MedW W g Z.2 X2 R2 ∧ Ch X R X2 R2 wA W := hC
    have HF : Hid (WrP (M.act x.a) g X R w (.returned (.int .i64 z)) W) := Lib.hid (by
      rw [← HZQ.out, HZ.out]
      exact ⟨rfl, X2, R2, hm, (Ch.of HA.out).trans hch⟩)
    clear hm hch hval
    go_wp2_with fail
    go_ret
    exact HF.out
/-- a call of the laws -/
theorem act12 {w : World} {g : Nat} {M : Med} {X R : Nat → Prop} {N : Nat} (h : MedW w g M X R) (ho : M.Ok N) (hN : N ≤ 1000000) (x : AV) {w0 : World} (hx : CameAV w0 x) (h0 : Below w0.heap.size w0 w) (hX : ∀ b, X b → w0.heap.size ≤ b) (hs : smallA x.a = true) :
    Calls Try.prog 23 #[.pointer (some ⟨g, 0, none⟩), .agg (avD x).toArray] w (WrP (M.act x.a) g X R w) := by
  by_cases k0 : x.a.kind = 0
  · exact act12_record h ho hN x hx h0 hX hs k0
  by_cases k1 : x.a.kind = 1
  · exact act12_tear h ho hN x hx h0 hX hs k1
  by_cases k2 : x.a.kind = 2
  · exact act12_erase h ho hN x hx h0 hX hs k2
  by_cases k3 : x.a.kind = 3
  · exact act12_scratch h ho hN x hx h0 hX hs k3
  · exact act12_damage h ho hN x hx h0 hX hs ⟨k0, k1, k2, k3⟩
end Go.Proofs.Ytpncjadhpnapnaa.D12
