/- Chapter 12: MediumHeals. -/
import Derived.Test.YtpncjadhpnapnaaMq11
import Derived.Test.YtpncjadhpnapnaaMq12
namespace Go.Proofs.Ytpncjadhpnapnaa.D12
open Go.RowKit Go.Maps C9
open D13 (RdI ixI is)
set_option linter.unusedVariables false

/-- a medium of the call's own, above the block 'B' -/
structure HaveB (w0 : World) (B : Nat) (w : World) (g : Nat) (M : Med) (X R : Nat → Prop) : Prop where
  m : MedW w g M X R
  b : Below w0.heap.size w0 w
  x : ∀ b, X b ∨ R b → B ≤ b
  l : w0.heap.size ≤ B ∧ B ≤ w.heap.size
section
variable {w0 w w' : World} {B g : Nat} {M : Med} {X R X2 R2 : Nat → Prop} {Z : Int × Med} {e : Ending}
theorem HaveB.below (h : HaveB w0 B w g M X R) (hb : Below w.heap.size w w') : HaveB w0 B w' g M X R := ⟨h.m.below hb, h.b.trans (hb.mono h.b.size), h.x, h.l.1, Nat.le_trans h.l.2 hb.size⟩
theorem HaveB.ch {M2 : Med} (h : HaveB w0 B w g M X R) (hm : MedW w' g M2 X2 R2) (hc : Ch X R X2 R2 w w') : HaveB w0 B w' g M2 X2 R2 :=
  ⟨hm, h.b.trans (hc.below _ h.b.size fun b hb => Nat.le_trans h.l.1 (h.x b (.inl hb))), fun b hb => by
    have hs := h.l.2
    rcases hb with h1 | h1
    · exact (hc.x b h1).elim (fun h2 => h.x b (.inl h2)) (fun h2 => Nat.le_trans hs h2)
    · exact (hc.r b h1).elim (fun h2 => h.x b (.inr h2)) (fun h2 => Nat.le_trans hs h2), h.l.1, Nat.le_trans h.l.2 hc.size⟩
theorem HaveB.keepsB (h : HaveB w0 B w g M X R) (hc : Ch X R X2 R2 w w') {b : Nat} (hb : b < B) : w'.heap[b]? = w.heap[b]? := hc.block b (Nat.lt_of_lt_of_le hb h.l.2) fun hx => by
  have := h.x b (.inl hx); omega
theorem WrP.haveB (hw : WrP Z g X R w e w') (h : HaveB w0 B w g M X R) : e = .returned (.int .i64 Z.1) ∧ ∃ X2 R2, HaveB w0 B w' g Z.2 X2 R2 ∧ ∀ b, b < B → w'.heap[b]? = w.heap[b]? := by
  obtain ⟨he, X2, R2, hm, hc⟩ := hw
  exact ⟨he, X2, R2, h.ch hm hc, fun b hb => h.keepsB hc hb⟩
/-- a cell of a block below 'B' is stored -/
theorem HaveB.low (h : HaveB w0 B w g M X R) {p : Addr} (hp : p.block < B) (hp0 : w0.heap.size ≤ p.block) (v : Value) : HaveB w0 B (w.setCell p v) g M X R := by
  obtain ⟨L, hm⟩ := h.m
  refine ⟨⟨L, hm.keep (by simp) fun b hx => Below.heap_setCell w p v b fun e => ?_⟩, h.b.setCell hp0 v, h.x, h.l.1, by simpa using h.l.2⟩
  have := h.x b hx
  omega
end
theorem rdI_at12 {w : World} {a : Option Addr} {n c : Nat} {l : List Int} (h : RdI w (.slice a n c) l) : ∃ b off, ∀ i, i < l.length → a = some ⟨b, off, none⟩ ∧ w.cell? ⟨b, off + i, none⟩ = some (.int .i64 (ixI l i)) := by
  obtain ⟨_, ⟨a', c', b, off, hv, _, hcell⟩, _⟩ := h
  injection hv with e1 e2 e3
  subst e1
  exact ⟨b, off, hcell⟩
/-- the medium of MediumHeals -/
def hM (c : Nat) (raw : List UInt8) (er : Nat → Bool) (ch : Nat → UInt8) : Med := ⟨2, 9, [⟨1, c, raw, er, ch⟩], []⟩
theorem hM_n (c : Nat) (raw : List UInt8) (er : Nat → Bool) (ch : Nat → UInt8) : (hM c raw er ch).n = 1 := rfl
theorem heals1 {raw : List UInt8} (hr : raw.length = 2352) : (medNew 2 1 9).record 0 raw = (0, hM 1 raw (fun _ => false) (fun _ => 0)) :=
  (Med.record_rw (M := medNew 2 1 9) (i := 0) (by decide) (.inl rfl) hr (by decide)).trans rfl
theorem heals2 {raw raw2 : List UInt8} {er : Nat → Bool} {ch : Nat → UInt8} (hr : raw2.length = 2352) : (hM 1 raw er ch).record 0 raw2 = (0, hM 2 raw2 er (fun _ => 0)) :=
  (Med.record_rw (M := hM 1 raw er ch) (i := 0) (by rw [hM_n]; omega) (.inl rfl) hr (show 1 + 1 ≤ 9 by omega)).trans rfl
open Classical in
theorem healsD {raw : List UInt8} {d : Dam} (hd : d.Ok 1) : (hM 1 raw (fun _ => false) (fun _ => 0)).damage d = (0, hM 1 raw (erF (fun _ => false) d.er) (chF (fun _ => 0) d.ch)) := by
  unfold Med.damage
  rw [if_pos (show d.Ok (hM 1 raw (fun _ => false) (fun _ => 0)).n from hd)]
  have e : d.lba.toNat = 0 := by have := hd.1; omega
  rw [e]
  rfl
open Classical in
theorem healsN {raw : List UInt8} {d : Dam} (hd : ¬ d.Ok 1) : (hM 1 raw (fun _ => false) (fun _ => 0)).damage d = (1, hM 1 raw (fun _ => false) (fun _ => 0)) := by
  unfold Med.damage
  rw [if_neg (show ¬ d.Ok (hM 1 raw (fun _ => false) (fun _ => 0)).n from hd)]
theorem hM_goneP (c : Nat) (raw : List UInt8) (er : Nat → Bool) (ch : Nat → UInt8) (k : Nat) : (hM c raw er ch).goneP 0 k = er k := by
  unfold Med.goneP
  rw [show (hM c raw er ch).scr = [] from rfl, lostP_nil, Bool.or_false]
  rfl
theorem hM_clean {c : Nat} {raw : List UInt8} : (hM c raw (fun _ => false) (fun _ => 0)).cleanR 0 = true :=
  cleanR_true ⟨⟨by omega, by rw [hM_n]; omega⟩, rfl, gone_none fun k _ => hM_goneP _ _ _ _ k, fun _ _ => rfl⟩
theorem hM_gone {c : Nat} {raw : List UInt8} {d : Dam} (hd : d.Ok 1) : (hM c raw (erF (fun _ => false) d.er) (fun _ => 0)).gone 0 = d.er := by
  refine sorted_eq (gone_sorted _ _) hd.2.1.2 fun z => ?_
  rw [mem_gone]
  have h1 := hd.2.1.1
  constructor
  · rintro ⟨k, h2, h3, rfl⟩
    rw [hM_goneP] at h3
    simpa [erF] using h3
  · intro hz
    have := h1 z hz
    refine ⟨z.toNat, by omega, ?_, by omega⟩
    rw [hM_goneP]
    have e : ((z.toNat : Nat) : Int) = z := by omega
    simp [erF, e, hz]
theorem hM_cleanE {c : Nat} {raw : List UInt8} {d : Dam} (hd : d.Ok 1) : (hM c raw (erF (fun _ => false) d.er) (fun _ => 0)).cleanR 0 = decide (d.er.length = 0) := by
  by_cases h : d.er.length = 0
  · rw [decide_eq_true h]
    refine cleanR_true ⟨⟨by omega, by rw [hM_n]; omega⟩, rfl, ?_, fun _ _ => rfl⟩
    rw [show (0 : Int).toNat = 0 from rfl, hM_gone hd]
    exact List.length_eq_zero_iff.1 h
  · rw [decide_eq_false h]
    refine cleanR_false fun h2 => ?_
    obtain ⟨_, _, h3, _⟩ := h2
    rw [show (0 : Int).toNat = 0 from rfl, hM_gone hd] at h3
    exact h (by rw [h3]; rfl)
theorem hM_read {c : Nat} {raw : List UInt8} {d : Dam} (hr : raw.length = 2352) (hd : d.Ok 1) : (hM c raw (erF (fun _ => false) d.er) (fun _ => 0)).readR 0 = (zerK raw d.er, d.er, 0) := by
  unfold Med.readR
  rw [if_pos ⟨by omega, by rw [hM_n]; omega⟩, if_neg (show ¬ ((hM c raw (erF (fun _ => false) d.er) (fun _ => 0)).sec (0 : Int).toNat).st = 0 from fun h => by cases h), if_pos (show ((hM c raw (erF (fun _ => false) d.er) (fun _ => 0)).sec (0 : Int).toNat).st = 1 from rfl)]
  rw [show (0 : Int).toNat = 0 from rfl, ← zerK_all, hM_gone hd]
  rw [show ((hM c raw (erF (fun _ => false) d.er) (fun _ => 0)).sec 0).raw = raw from rfl, show ((hM c raw (erF (fun _ => false) d.er) (fun _ => 0)).sec 0).ch = fun _ => 0 from rfl, xorA_zero hr (fun _ => rfl)]
theorem hM_ok {c : Nat} {raw : List UInt8} {er : Nat → Bool} {ch : Nat → UInt8} (hc : c ≤ 9) (hr : raw.length = 2352) (h1 : ∀ k, er k = true → k < 2352) (h2 : ∀ k, ch k ≠ 0 → k < 2352) : (hM c raw er ch).Ok 10 := by
  refine ⟨Nat.le_refl 2, ⟨by show 1 ≤ 9; omega, by show 9 ≤ _; omega⟩, ⟨by rw [hM_n]; omega, by rw [hM_n]; omega⟩, fun i hi => ?_, by simp [hM], by simp [hM, fitA]⟩
  rw [hM_n] at hi
  obtain rfl : i = 0 := by omega
  exact ⟨by show 1 ≤ 3; omega, by show c ≤ 10; omega, fun _ => hr, by show raw.length ≤ _; omega, h1, h2⟩
theorem erF_lt {d : Dam} (hd : d.Ok 1) : ∀ k, erF (fun _ => false) d.er k = true → k < 2352 := fun k hk => by
  have := hd.2.1.1 (k : Int) (by simpa [erF] using hk)
  omega
def hlV (g bx : Nat) (d : Dam) (v9 aE : Option Addr) (c9 cE : Nat) (S9 Sb : ByteArray) (cl : Bool) (i : Nat) (v : Value) (W : World) : Prop := match i with
  | 0 => v = .int .i64 0
  | 1 => v = .bool false
  | 2 => v = .bool false
  | 3 => v = .slice v9 d.er.length c9
  | 4 => v = .pointer (some ⟨bx, 1, none⟩)
  | 5 => v = .slice aE d.er.length cE
  | 6 => v = .bool true
  | 7 => v = .bool false
  | 8 => v = .bool false
  | 9 => v = .bool false
  | 10 => v = .string S9
  | 11 => v = .int .i64 2352
  | 12 => v = .string Sb
  | 13 => v = .int .i64 2352
  | 14 => v = .bool false
  | 15 => v = .bool false
  | 16 => v = .bool false
  | 17 => v = .pointer (some ⟨g, 0, none⟩)
  | 18 => v = .bool cl
  | 19 => v = .pointer (some ⟨bx, 1, none⟩)
  | 20 => v = .slice aE d.er.length cE
  | 21 => v = .int .i64 (d.er.length : Nat)
  | 22 => v = .bool cl
  | 23 => v = .bool false
  | 24 => v = .bool false
  | _ => True
theorem hlV_keep (g bx : Nat) (d : Dam) (v9 aE : Option Addr) (c9 cE : Nat) (S9 Sb : ByteArray) (cl : Bool) (i : Nat) (v : Value) (W W' : World) (hR : (fun w W => Below w.heap.size w W) W W') (h : hlV g bx d v9 aE c9 cE S9 Sb cl i v W) : hlV g bx d v9 aE c9 cE S9 Sb cl i v W' := by
  unfold hlV at h ⊢
  split at h <;> first | exact h
theorem stepR_callx {P : Program} {Q : Exit → Act → World → Prop} {R : World → World → Prop} {V : Nat → Value → World → Prop} {i : Nat} {o : Oper} {a : Act} {w : World} (h : ∀ K : Act → World → Prop, (∀ v w', R w w' → V i (kept o.dst v) w' → K (a.put o.dst v) w') → o.wp P a w K Q) :
    o.wp P a w (fun a' w' => ∃ v, a' = a.put o.dst v ∧ R w w' ∧ V i (kept o.dst v) w') Q := h _ fun v w' h1 h2 => ⟨v, rfl, h1, h2⟩
set_option maxRecDepth 100000 in
set_option maxHeartbeats 8000000 in
theorem heals_law (w : World) (v0 : Value) (x : DV) (h0 : CameDV w v0 x) (a : Int) (ha : (Lit.int .u8 a).wf = true) (b : Int) (hb : (Lit.int .u8 b).wf = true) :
    Calls Try.prog 5 #[v0, .int .u8 a, .int .u8 b] w fun e w' => e = .returned (.bool true) ∧ Below w.heap.size w w' := by
  obtain ⟨rfl, hd⟩ := h0
  obtain ⟨ha0, ha1⟩ := u8_wf ha
  obtain ⟨hb0, hb1⟩ := u8_wf hb
  clear ha hb
  obtain ⟨⟨lba, E, C⟩, vE, vC⟩ := x
  simp only at hd ⊢
  obtain ⟨aE, cE, hvE, _⟩ := RdS.form hd.er.1
  obtain ⟨aC, cC, hvC, _⟩ := RdD.form hd.ch.1
  subst hvE hvC
  have HD := Lib.hid hd
  clear hd
  have hA := (Below.refl w.heap.size w).alloc (Nat.le_refl _) (.cells #[.int .i64 lba, .slice aE E.length cE, .slice aC C.length cC] 44)
  have hX := Bx.new w 44 [.int .i64 lba, .slice aE E.length cE, .slice aC C.length cC]
  obtain ⟨wB, hwB⟩ : ∃ wB, wB = w.alloc (.cells #[.int .i64 lba, .slice aE E.length cE, .slice aC C.length cC] 44) := ⟨_, rfl⟩
  obtain ⟨bx, hbx⟩ : ∃ bx, bx = w.heap.size := ⟨_, rfl⟩
  change Bx (w.alloc (.cells #[.int .i64 lba, .slice aE E.length cE, .slice aC C.length cC] 44)) _ _ _ at hX
  rw [← hwB] at hA hX
  rw [← hbx] at hX
  have HWB := Lib.hid hwB
  have HBXN := Lib.hid hbx
  have HA := Lib.hid hA
  have HX := Lib.hid hX
  have HAW := Lib.hid (awake12 wB)
  have HNEW := Lib.hid (fun W => new12 2 1 9 (by unfold newOk; omega) W)
  have HRAW := Lib.hid (fun (W : World) (k : Int) (h0 : 0 ≤ k) (h1 : k ≤ 255) => raw12 0 0 k false (.slice none 0 0) (.slice none 0 0) (.slice none 0 0) ⟨0, [], []⟩ (by unfold In64; omega) W)
  clear hA hX hwB hbx
  go_enter Try.func5, Try.ntmps5
  unfold damv
  go_upto_region 1 with (fail)
  rw [show (w.alloc (.cells #[.int .i64 lba, .slice aE E.length cE, .slice aC C.length cC] 44)) = wB from HWB.out.symm, show w.heap.size = bx from HBXN.out.symm]
  go_wp2_with fail
  refine HAW.out.mono ?_
  rintro e w1 ⟨rfl, hb1'⟩
  have HB1 := Lib.hid (HA.out.trans (hb1'.mono HA.out.size))
  have HX1 := Lib.hid (HX.out.call hb1')
  clear hb1'
  go_wp2_with fail
  refine (HNEW.out _).mono ?_
  rintro e w2 hw
  obtain ⟨g, X2, R2, rfl, hm2, hb2, hx2⟩ := hw
  rw [show (2 : Int).toNat = 2 from rfl, show (1 : Int).toNat = 1 from rfl, show (9 : Int).toNat = 9 from rfl] at hm2
  have H2 : Hid (HaveB w w1.heap.size w2 g (medNew 2 1 9) X2 R2) := Lib.hid ⟨hm2, HB1.out.trans (hb2.mono HB1.out.size), hx2, HB1.out.size, hb2.size⟩
  have HX2 := Lib.hid (HX1.out.call hb2)
  have HBL : Hid (bx < w1.heap.size) := Lib.hid HX1.out.lt
  have HBW : Hid (w.heap.size ≤ bx) := Lib.hid (by rw [HBXN.out]; exact Nat.le_refl _)
  clear hm2 hb2 hx2
  go_wp2_with fail
  refine (HRAW.out _ a ha0 ha1).mono ?_
  rintro e w3 ⟨rfl, hb3⟩
  have H3 := Lib.hid (H2.out.below hb3)
  have HX3 := Lib.hid (HX2.out.call hb3)
  clear hb3
  go_wp2_with fail
  refine (HRAW.out _ b hb0 hb1).mono ?_
  rintro e w4 ⟨rfl, hb4⟩
  have H4 := Lib.hid (H3.out.below hb4)
  have HX4 := Lib.hid (HX3.out.call hb4)
  clear hb4
  obtain ⟨ra, hra⟩ : ∃ ra, ra = rawR a false := ⟨_, rfl⟩
  obtain ⟨rb, hrb⟩ : ∃ rb, rb = rawR b false := ⟨_, rfl⟩
  have HRA : Hid (ra.length = 2352) := Lib.hid (by rw [hra]; exact rawN_len _)
  have HRB : Hid (rb.length = 2352) := Lib.hid (by rw [hrb]; exact rawN_len _)
  rw [← hra, ← hrb]
  clear hra hrb
  go_wp2_with fail
  refine (record12 H4.out.m (medNew_ok (by omega) (by omega) (by omega)) (by omega) 0 ra (by rw [HRA.out]; omega)).mono ?_
  rintro e w5 hw
  rw [heals1 HRA.out] at hw
  obtain ⟨rfl, X5, R5, h5, hk5⟩ := hw.haveB H4.out
  have H5 := Lib.hid h5
  have HX5 : Hid (Bx w5 bx 44 [.int .i64 lba, .slice aE E.length cE, .slice aC C.length cC]) := Lib.hid ((hk5 bx HBL.out).trans HX4.out)
  clear h5 hk5 hw
  have q0 := HX5.out.cell (i := 0) rfl
  have qf := HX5.out.free 0
  go_upto_region 10 with (fail)
  have H6 := Lib.hid (H5.out.low (p := ⟨bx, 0, none⟩) HBL.out HBW.out (.int .i64 0))
  have HX6 : Hid (Bx (w5.setCell ⟨bx, 0, none⟩ (.int .i64 0)) bx 44 [.int .i64 0, .slice aE E.length cE, .slice aC C.length cC]) := Lib.hid (HX5.out.set 0 (.int .i64 0))
  generalize w5.setCell ⟨bx, 0, none⟩ (.int .i64 0) = w6 at *
  clear q0 qf
  have q0 := HX6.out.cell (i := 0) rfl
  have q1 := HX6.out.cell (i := 1) rfl
  have q2 := HX6.out.cell (i := 2) rfl
  have HF6 := Lib.hid H6.out.b
  by_cases hE : 200 < E.length
  · have hq : decide (200 < (E.length : Int)) = true := decide_eq_true (by omega)
    go_wp2_with fail
    go_ret
    exact ⟨rfl, HF6.out⟩
  have hqE : decide (200 < (E.length : Int)) = false := decide_eq_false (by omega)
  by_cases hC : 200 < C.length
  · have hq : decide (200 < (C.length : Int)) = true := decide_eq_true (by omega)
    go_wp2_with fail
    go_ret
    exact ⟨rfl, HF6.out⟩
  have hqC : decide (200 < (C.length : Int)) = false := decide_eq_false (by omega)
  have hdv : DamV w (.slice aE E.length cE) (.slice aC C.length cC) ⟨0, E, C⟩ := by
    obtain ⟨h1, h2, _, h4, h5⟩ := HD.out.dam (show E.length ≤ 200 by omega) (show C.length ≤ 200 by omega)
    exact ⟨h1, h2, by show In64 0; unfold In64; omega, h4, h5⟩
  have HRD6 := Lib.hid hdv.er
  have HDM := Lib.hid (damage12 H6.out.m (hM_ok (by omega) HRA.out (by simp) (by simp)) _ _ ⟨0, E, C⟩ hdv H6.out.b (fun b hb => Nat.le_trans H6.out.l.1 (H6.out.x b (.inl hb))))
  have hEl : E.length ≤ 200 := by omega
  clear hdv hE hC
  go_wp2_with fail
  refine HDM.out.mono ?_
  rintro e w7 hw
  by_cases hd : ¬ Dam.Ok ⟨0, E, C⟩ 1
  · rw [healsN hd] at hw
    obtain ⟨rfl, X7, R7, h7, _⟩ := hw.haveB H6.out
    have H7 := Lib.hid h7
    clear h7 hw hd
    go_wp2_with fail
    refine (clean12 H7.out.m (hM_ok (by omega) HRA.out (by simp) (by simp)) 0).mono ?_
    rw [hM_clean]
    rintro e w8 ⟨rfl, hb8⟩
    have HF := Lib.hid (H7.out.below hb8).b
    clear hb8
    go_wp2_with fail
    go_ret
    exact ⟨rfl, HF.out⟩
  replace hd := Classical.not_not.1 hd
  have HOKD := Lib.hid hd
  rw [healsD hd] at hw
  obtain ⟨rfl, X7, R7, h7, hk7⟩ := hw.haveB H6.out
  have H7 := Lib.hid h7
  have HX7 : Hid (Bx w7 bx 44 [.int .i64 0, .slice aE E.length cE, .slice aC C.length cC]) := Lib.hid ((hk7 bx HBL.out).trans HX6.out)
  clear h7 hw hd hk7 q0 q1 q2
  go_wp2_with fail
  refine (record12 H7.out.m (hM_ok (by omega) HRA.out (erF_lt HOKD.out) (chF_lt _ _ (by simp) HOKD.out.2.2)) (by omega) 0 rb (by rw [HRB.out]; omega)).mono ?_
  rintro e w8 hw
  rw [heals2 HRB.out] at hw
  obtain ⟨rfl, X8, R8, h8, hk8⟩ := hw.haveB H7.out
  have H8 := Lib.hid h8
  have HX8 : Hid (Bx w8 bx 44 [.int .i64 0, .slice aE E.length cE, .slice aC C.length cC]) := Lib.hid ((hk8 bx HBL.out).trans HX7.out)
  have HOK8 := Lib.hid (hM_ok (c := 2) (raw := rb) (ch := fun _ => 0) (by omega) HRB.out (erF_lt HOKD.out) (by simp))
  clear h8 hw hk8
  go_wp2_with fail
  refine (read12 H8.out.m HOK8.out 0).mono ?_
  rw [hM_read HRB.out HOKD.out]
  rintro e w9 ⟨v9, rfl, ho9, hb9⟩
  obtain ⟨a9, c9, rfl⟩ := ownD_form ho9
  have H9 := Lib.hid (H8.out.below hb9)
  have HX9 := Lib.hid (HX8.out.call hb9)
  have HO9 := Lib.hid ho9
  have HE64 : Hid (∀ x ∈ E, -9223372036854775808 ≤ x ∧ x ≤ 9223372036854775807) := Lib.hid fun x hx => by have := HOKD.out.2.1.1 x hx; omega
  have HR9 := Lib.hid (HRD6.out.keep H9.out.b)
  have HBX := Lib.hid (fun W (hW : Below w9.heap.size w9 W) => (HX9.out.call hW).cell (i := 1) rfl)
  have HEQ := Lib.hid (fun W (hW : Below w9.heap.size w9 W) => equal12 (D13.rdI_own (ownD_keep HO9.out hW) rfl (by show E.length ≤ _; omega) HE64.out) (HR9.out.keep hW))
  rw [decide_eq_true rfl] at HEQ
  have HCK := Lib.hid (fun W (hW : Below w9.heap.size w9 W) => clean12 (H9.out.below hW).m HOK8.out 0)
  rw [hM_cleanE HOKD.out] at HCK
  obtain ⟨S9, hS9⟩ : ∃ S, S = str (zerK rb E) := ⟨_, rfl⟩
  obtain ⟨Sb, hSb⟩ : ∃ S, S = str rb := ⟨_, rfl⟩
  obtain ⟨cl, hcl⟩ : ∃ cl, cl = decide (E.length = 0) := ⟨_, rfl⟩
  have HS9 : Hid (S9.size = 2352) := Lib.hid (by rw [hS9, str_size, zerK_len])
  have HSB : Hid (Sb.size = 2352) := Lib.hid (by rw [hSb, str_size, HRB.out])
  have HSBD : Hid (Sb.data.toList = rb) := Lib.hid (by rw [hSb]; rfl)
  have HS9E := Lib.hid hS9
  have HCL : Hid (((E.length : Int) == 0) = cl) := Lib.hid (by
    rw [hcl]
    by_cases h : E.length = 0
    · rw [decide_eq_true h, h]; rfl
    · rw [decide_eq_false h, beq_eq_false_iff_ne]; omega)
  simp only
  rw [← hS9, ← hSb]
  simp only at HCK HEQ HBX
  rw [← hcl] at HCK
  clear ho9 hb9 hS9 hSb hcl hqE hqC
  go_upto_region 18 with (fail)
  refine wp_region_inr (by kernel_rfl) (fun w W => Below w.heap.size w W) (fun W => Below w9.heap.size w9 W) (hlV g bx ⟨0, E, C⟩ a9 aE c9 cE S9 Sb cl) (fun _ => false) (by kernel_rfl) (fun _ _ hR hc => hc.trans (hR.mono hc.size)) (hlV_keep g bx ⟨0, E, C⟩ a9 aE c9 cE S9 Sb cl) ((Below.refl _ _).drew) ⟨?_, ?_, ?_, ?_, ?_, ?_, ?_, ?_, ?_, ?_, ?_, ?_, ?_, ?_, ?_, ?_, ?_, ?_, ?_, ?_, ?_, ?_, ?_, ?_, ?_, trivial⟩ ?_
  · intro a W hc hsz hold hdep
    have o8 : a.tmps.getD 8 undef = .int .i64 0 := hold 8 (by kernel_rfl)
    clear hsz hold hdep
    refine stepR_do rfl (wanted_none rfl) ?_
    refine stepR_val (v := .int .i64 0) (Below.refl _ _) rfl fun K hK => ?_
    go_simp
    exact hK
  · intro a W hc hsz hold hdep
    have d0 : a.tmps.getD 73 undef = .int .i64 0 := hdep 0 (by kernel_rfl) rfl _ rfl
    clear hsz hold hdep
    refine stepR_do rfl (wanted_none rfl) ?_
    refine stepR_val (v := .bool false) (Below.refl _ _) rfl fun K hK => ?_
    go_simp
    exact hK
  · intro a W hc hsz hold hdep
    have d1 : a.tmps.getD 74 undef = .bool false := hdep 1 (by kernel_rfl) rfl _ rfl
    clear hsz hold hdep
    refine stepR_do rfl (wanted_none rfl) ?_
    refine stepR_val (v := .bool false) (Below.refl _ _) rfl fun K hK => ?_
    go_simp
    exact hK
  · intro a W hc hsz hold hdep
    have o13 : a.tmps.getD 13 undef = .slice a9 E.length c9 := hold 13 (by kernel_rfl)
    have g3 : a.tmps.getD 75 undef = .bool false := hdep 2 (by kernel_rfl) rfl _ rfl
    clear hsz hold hdep
    refine stepR_do rfl ((wanted_of (want := false) rfl rfl g3).trans rfl) ?_
    clear g3
    refine stepR_val (v := .slice a9 E.length c9) (Below.refl _ _) rfl fun K hK => ?_
    go_simp
    exact hK
  · intro a W hc hsz hold hdep
    have o3 : a.tmps.getD 3 undef = .pointer (some ⟨bx, 0, none⟩) := hold 3 (by kernel_rfl)
    have g4 : a.tmps.getD 75 undef = .bool false := hdep 2 (by kernel_rfl) rfl _ rfl
    clear hsz hold hdep
    refine stepR_do rfl ((wanted_of (want := false) rfl rfl g4).trans rfl) ?_
    clear g4
    refine stepR_val (v := .pointer (some ⟨bx, 1, none⟩)) (Below.refl _ _) rfl fun K hK => ?_
    go_simp
    exact hK
  · intro a W hc hsz hold hdep
    have d4 : a.tmps.getD 77 undef = .pointer (some ⟨bx, 1, none⟩) := hdep 4 (by kernel_rfl) rfl _ rfl
    have g5 : a.tmps.getD 75 undef = .bool false := hdep 2 (by kernel_rfl) rfl _ rfl
    have q1 := HBX.out W hc
    clear hsz hold hdep
    refine stepR_do rfl ((wanted_of (want := false) rfl rfl g5).trans rfl) ?_
    clear g5
    refine stepR_val (v := .slice aE E.length cE) (Below.refl _ _) rfl fun K hK => ?_
    go_simp
    exact hK
  · intro a W hc hsz hold hdep
    have d3 : a.tmps.getD 76 undef = .slice a9 E.length c9 := hdep 3 (by kernel_rfl) rfl _ rfl
    have e3 : a.tmps[76]?.getD undef = .slice a9 E.length c9 := by rw [← Array.getD_eq_getD_getElem?]; exact d3
    have d5 : a.tmps.getD 78 undef = .slice aE E.length cE := hdep 5 (by kernel_rfl) rfl _ rfl
    have e5 : a.tmps[78]?.getD undef = .slice aE E.length cE := by rw [← Array.getD_eq_getD_getElem?]; exact d5
    have g6 : a.tmps.getD 75 undef = .bool false := hdep 2 (by kernel_rfl) rfl _ rfl
    clear hsz hold hdep
    refine stepR_do rfl ((wanted_of (want := false) rfl rfl g6).trans rfl) ?_
    have HCC := Lib.hid (HEQ.out W hc)
    refine stepR_callx fun K hK => ?_
    clear hc
    go_simp
    refine HCC.out.mono ?_
    rintro e w' ⟨rfl, hb⟩
    exact hK _ _ (hb) rfl
  · intro a W hc hsz hold hdep
    have d6 : a.tmps.getD 79 undef = .bool true := hdep 6 (by kernel_rfl) rfl _ rfl
    have g7 : a.tmps.getD 75 undef = .bool false := hdep 2 (by kernel_rfl) rfl _ rfl
    clear hsz hold hdep
    refine stepR_do rfl ((wanted_of (want := false) rfl rfl g7).trans rfl) ?_
    clear g7
    refine stepR_val (v := .bool false) (Below.refl _ _) rfl fun K hK => ?_
    go_simp
    exact hK
  · intro a W hc hsz hold hdep
    have d2 : a.tmps.getD 75 undef = .bool false := hdep 2 (by kernel_rfl) rfl _ rfl
    have d7 : a.tmps.getD 80 undef = .bool false := hdep 7 (by kernel_rfl) rfl _ rfl
    clear hsz hold hdep
    refine stepR_do rfl (wanted_none rfl) ?_
    refine stepR_val (v := .bool false) (Below.refl _ _) rfl fun K hK => ?_
    go_simp
    exact hK
  · intro a W hc hsz hold hdep
    have d8 : a.tmps.getD 81 undef = .bool false := hdep 8 (by kernel_rfl) rfl _ rfl
    clear hsz hold hdep
    refine stepR_do rfl (wanted_none rfl) ?_
    refine stepR_val (v := .bool false) (Below.refl _ _) rfl fun K hK => ?_
    go_simp
    exact hK
  · intro a W hc hsz hold hdep
    have o12 : a.tmps.getD 12 undef = .string S9 := hold 12 (by kernel_rfl)
    have g10 : a.tmps.getD 82 undef = .bool false := hdep 9 (by kernel_rfl) rfl _ rfl
    clear hsz hold hdep
    refine stepR_do rfl ((wanted_of (want := false) rfl rfl g10).trans rfl) ?_
    clear g10
    refine stepR_val (v := .string S9) (Below.refl _ _) rfl fun K hK => ?_
    go_simp
    exact hK
  · intro a W hc hsz hold hdep
    have d10 : a.tmps.getD 83 undef = .string S9 := hdep 10 (by kernel_rfl) rfl _ rfl
    have e10 : a.tmps[83]?.getD undef = .string S9 := by rw [← Array.getD_eq_getD_getElem?]; exact d10
    have g11 : a.tmps.getD 82 undef = .bool false := hdep 9 (by kernel_rfl) rfl _ rfl
    have q2 := HS9.out
    clear hsz hold hdep
    refine stepR_do rfl ((wanted_of (want := false) rfl rfl g11).trans rfl) ?_
    clear g11
    refine stepR_val (v := .int .i64 2352) (Below.refl _ _) rfl fun K hK => ?_
    go_simp
    exact hK
  · intro a W hc hsz hold hdep
    have o10 : a.tmps.getD 10 undef = .string Sb := hold 10 (by kernel_rfl)
    have g12 : a.tmps.getD 82 undef = .bool false := hdep 9 (by kernel_rfl) rfl _ rfl
    clear hsz hold hdep
    refine stepR_do rfl ((wanted_of (want := false) rfl rfl g12).trans rfl) ?_
    clear g12
    refine stepR_val (v := .string Sb) (Below.refl _ _) rfl fun K hK => ?_
    go_simp
    exact hK
  · intro a W hc hsz hold hdep
    have d12 : a.tmps.getD 85 undef = .string Sb := hdep 12 (by kernel_rfl) rfl _ rfl
    have e12 : a.tmps[85]?.getD undef = .string Sb := by rw [← Array.getD_eq_getD_getElem?]; exact d12
    have g13 : a.tmps.getD 82 undef = .bool false := hdep 9 (by kernel_rfl) rfl _ rfl
    have q2 := HSB.out
    clear hsz hold hdep
    refine stepR_do rfl ((wanted_of (want := false) rfl rfl g13).trans rfl) ?_
    clear g13
    refine stepR_val (v := .int .i64 2352) (Below.refl _ _) rfl fun K hK => ?_
    go_simp
    exact hK
  · intro a W hc hsz hold hdep
    have d11 : a.tmps.getD 84 undef = .int .i64 2352 := hdep 11 (by kernel_rfl) rfl _ rfl
    have d13 : a.tmps.getD 86 undef = .int .i64 2352 := hdep 13 (by kernel_rfl) rfl _ rfl
    have g14 : a.tmps.getD 82 undef = .bool false := hdep 9 (by kernel_rfl) rfl _ rfl
    clear hsz hold hdep
    refine stepR_do rfl ((wanted_of (want := false) rfl rfl g14).trans rfl) ?_
    clear g14
    refine stepR_val (v := .bool false) (Below.refl _ _) rfl fun K hK => ?_
    go_simp
    exact hK
  · intro a W hc hsz hold hdep
    have d9 : a.tmps.getD 82 undef = .bool false := hdep 9 (by kernel_rfl) rfl _ rfl
    have d14 : a.tmps.getD 87 undef = .bool false := hdep 14 (by kernel_rfl) rfl _ rfl
    clear hsz hold hdep
    refine stepR_do rfl (wanted_none rfl) ?_
    refine stepR_val (v := .bool false) (Below.refl _ _) rfl fun K hK => ?_
    go_simp
    exact hK
  · intro a W hc hsz hold hdep
    have d15 : a.tmps.getD 88 undef = .bool false := hdep 15 (by kernel_rfl) rfl _ rfl
    clear hsz hold hdep
    refine stepR_do rfl (wanted_none rfl) ?_
    refine stepR_val (v := .bool false) (Below.refl _ _) rfl fun K hK => ?_
    go_simp
    exact hK
  · intro a W hc hsz hold hdep
    have o7 : a.tmps.getD 7 undef = .pointer (some ⟨g, 0, none⟩) := hold 7 (by kernel_rfl)
    have g17 : a.tmps.getD 89 undef = .bool false := hdep 16 (by kernel_rfl) rfl _ rfl
    clear hsz hold hdep
    refine stepR_do rfl ((wanted_of (want := false) rfl rfl g17).trans rfl) ?_
    clear g17
    refine stepR_val (v := .pointer (some ⟨g, 0, none⟩)) (Below.refl _ _) rfl fun K hK => ?_
    go_simp
    exact hK
  · intro a W hc hsz hold hdep
    have d17 : a.tmps.getD 90 undef = .pointer (some ⟨g, 0, none⟩) := hdep 17 (by kernel_rfl) rfl _ rfl
    have e17 : a.tmps[90]?.getD undef = .pointer (some ⟨g, 0, none⟩) := by rw [← Array.getD_eq_getD_getElem?]; exact d17
    have g18 : a.tmps.getD 89 undef = .bool false := hdep 16 (by kernel_rfl) rfl _ rfl
    clear hsz hold hdep
    refine stepR_do rfl ((wanted_of (want := false) rfl rfl g18).trans rfl) ?_
    have HCC := Lib.hid (HCK.out W hc)
    refine stepR_callx fun K hK => ?_
    clear hc
    go_simp
    refine HCC.out.mono ?_
    rintro e w' ⟨rfl, hb⟩
    exact hK _ _ (hb) rfl
  · intro a W hc hsz hold hdep
    have o3 : a.tmps.getD 3 undef = .pointer (some ⟨bx, 0, none⟩) := hold 3 (by kernel_rfl)
    have g19 : a.tmps.getD 89 undef = .bool false := hdep 16 (by kernel_rfl) rfl _ rfl
    clear hsz hold hdep
    refine stepR_do rfl ((wanted_of (want := false) rfl rfl g19).trans rfl) ?_
    clear g19
    refine stepR_val (v := .pointer (some ⟨bx, 1, none⟩)) (Below.refl _ _) rfl fun K hK => ?_
    go_simp
    exact hK
  · intro a W hc hsz hold hdep
    have d19 : a.tmps.getD 92 undef = .pointer (some ⟨bx, 1, none⟩) := hdep 19 (by kernel_rfl) rfl _ rfl
    have g20 : a.tmps.getD 89 undef = .bool false := hdep 16 (by kernel_rfl) rfl _ rfl
    have q1 := HBX.out W hc
    clear hsz hold hdep
    refine stepR_do rfl ((wanted_of (want := false) rfl rfl g20).trans rfl) ?_
    clear g20
    refine stepR_val (v := .slice aE E.length cE) (Below.refl _ _) rfl fun K hK => ?_
    go_simp
    exact hK
  · intro a W hc hsz hold hdep
    have d20 : a.tmps.getD 93 undef = .slice aE E.length cE := hdep 20 (by kernel_rfl) rfl _ rfl
    have e20 : a.tmps[93]?.getD undef = .slice aE E.length cE := by rw [← Array.getD_eq_getD_getElem?]; exact d20
    have g21 : a.tmps.getD 89 undef = .bool false := hdep 16 (by kernel_rfl) rfl _ rfl
    clear hsz hold hdep
    refine stepR_do rfl ((wanted_of (want := false) rfl rfl g21).trans rfl) ?_
    clear g21
    refine stepR_val (v := .int .i64 (E.length : Nat)) (Below.refl _ _) rfl fun K hK => ?_
    go_simp
    exact hK
  · intro a W hc hsz hold hdep
    have d21 : a.tmps.getD 94 undef = .int .i64 (E.length : Nat) := hdep 21 (by kernel_rfl) rfl _ rfl
    have g22 : a.tmps.getD 89 undef = .bool false := hdep 16 (by kernel_rfl) rfl _ rfl
    have q2 := HCL.out
    clear hsz hold hdep
    refine stepR_do rfl ((wanted_of (want := false) rfl rfl g22).trans rfl) ?_
    clear g22
    refine stepR_val (v := .bool cl) (Below.refl _ _) rfl fun K hK => ?_
    go_simp
    exact hK
  · intro a W hc hsz hold hdep
    have d18 : a.tmps.getD 91 undef = .bool cl := hdep 18 (by kernel_rfl) rfl _ rfl
    have d22 : a.tmps.getD 95 undef = .bool cl := hdep 22 (by kernel_rfl) rfl _ rfl
    have g23 : a.tmps.getD 89 undef = .bool false := hdep 16 (by kernel_rfl) rfl _ rfl
    clear hsz hold hdep
    refine stepR_do rfl ((wanted_of (want := false) rfl rfl g23).trans rfl) ?_
    clear g23
    refine stepR_val (v := .bool false) (Below.refl _ _) rfl fun K hK => ?_
    go_simp
    exact hK
  · intro a W hc hsz hold hdep
    have d16 : a.tmps.getD 89 undef = .bool false := hdep 16 (by kernel_rfl) rfl _ rfl
    have d23 : a.tmps.getD 96 undef = .bool false := hdep 23 (by kernel_rfl) rfl _ rfl
    clear hsz hold hdep
    refine stepR_do rfl (wanted_none rfl) ?_
    refine stepR_val (v := .bool false) (Below.refl _ _) rfl fun K hK => ?_
    go_simp
    exact hK
  · intro a W hC hd hsz hold hval
    have d97 : a.tmps.getD 97 undef = .bool false := hval 24 _ rfl rfl
    have d12 : a.tmps.getD 12 undef = .string S9 := hold 12 (by kernel_rfl)
    have d10 : a.tmps.getD 10 undef = .string Sb := hold 10 (by kernel_rfl)
    have d3 : a.tmps.getD 3 undef = .pointer (some ⟨bx, 0, none⟩) := hold 3 (by kernel_rfl)
    clear hold
    obtain ⟨tm, df⟩ := a
    replace hd : df = [] := hd
    replace hsz : tm.size = 115 := hsz
    replace d97 : tm.getD 97 undef = .bool false := d97
    replace d12 : tm.getD 12 undef = .string S9 := d12
    replace d10 : tm.getD 10 undef = .string Sb := d10
    replace d3 : tm.getD 3 undef = .pointer (some ⟨bx, 0, none⟩) := d3
    subst hd
    have e : tm = List.toArray (tm.getD 0 undef :: tm.getD 1 undef :: tm.getD 2 undef :: tm.getD 3 undef :: tm.getD 4 undef :: tm.getD 5 undef :: tm.getD 6 undef :: tm.getD 7 undef :: tm.getD 8 undef :: tm.getD 9 undef :: tm.getD 10 undef :: tm.getD 11 undef :: tm.getD 12 undef :: tm.getD 13 undef :: tm.getD 14 undef :: tm.getD 15 undef :: tm.getD 16 undef :: tm.getD 17 undef :: tm.getD 18 undef :: tm.getD 19 undef :: tm.getD 20 undef :: tm.getD 21 undef :: tm.getD 22 undef :: tm.getD 23 undef :: tm.getD 24 undef :: tm.getD 25 undef :: tm.getD 26 undef :: tm.getD 27 undef :: tm.getD 28 undef :: tm.getD 29 undef :: tm.getD 30 undef :: tm.getD 31 undef :: tm.getD 32 undef :: tm.getD 33 undef :: tm.getD 34 undef :: tm.getD 35 undef :: tm.getD 36 undef :: tm.getD 37 undef :: tm.getD 38 undef :: tm.getD 39 undef :: tm.getD 40 undef :: tm.getD 41 undef :: tm.getD 42 undef :: tm.getD 43 undef :: tm.getD 44 undef :: tm.getD 45 undef :: tm.getD 46 undef :: tm.getD 47 undef :: tm.getD 48 undef :: tm.getD 49 undef :: tm.getD 50 undef :: tm.getD 51 undef :: tm.getD 52 undef :: tm.getD 53 undef :: tm.getD 54 undef :: tm.getD 55 undef :: tm.getD 56 undef :: tm.getD 57 undef :: tm.getD 58 undef :: tm.getD 59 undef :: tm.getD 60 undef :: tm.getD 61 undef :: tm.getD 62 undef :: tm.getD 63 undef :: tm.getD 64 undef :: tm.getD 65 undef :: tm.getD 66 undef :: tm.getD 67 undef :: tm.getD 68 undef :: tm.getD 69 undef :: tm.getD 70 undef :: tm.getD 71 undef :: tm.getD 72 undef :: tm.getD 73 undef :: tm.getD 74 undef :: tm.getD 75 undef :: tm.getD 76 undef :: tm.getD 77 undef :: tm.getD 78 undef :: tm.getD 79 undef :: tm.getD 80 undef :: tm.getD 81 undef :: tm.getD 82 undef :: tm.getD 83 undef :: tm.getD 84 undef :: tm.getD 85 undef :: tm.getD 86 undef :: tm.getD 87 undef :: tm.getD 88 undef :: tm.getD 89 undef :: tm.getD 90 undef :: tm.getD 91 undef :: tm.getD 92 undef :: tm.getD 93 undef :: tm.getD 94 undef :: tm.getD 95 undef :: tm.getD 96 undef :: tm.getD 97 undef :: tm.getD 98 undef :: tm.getD 99 undef :: tm.getD 100 undef :: tm.getD 101 undef :: tm.getD 102 undef :: tm.getD 103 undef :: tm.getD 104 undef :: tm.getD 105 undef :: tm.getD 106 undef :: tm.getD 107 undef :: tm.getD 108 undef :: tm.getD 109 undef :: tm.getD 110 undef :: tm.getD 111 undef :: tm.getD 112 undef :: tm.getD 113 undef :: tm.getD 114 undef :: []) := arr_eq tm 115 hsz
    rw [d97, d12, d10, d3] at e
    clear d97 d12 d10 d3 hsz
    generalize tm.getD 0 undef = v0 at e
    generalize tm.getD 1 undef = v1 at e
    generalize tm.getD 2 undef = v2 at e
    generalize tm.getD 4 undef = v4 at e
    generalize tm.getD 5 undef = v5 at e
    generalize tm.getD 6 undef = v6 at e
    generalize tm.getD 7 undef = v7 at e
    generalize tm.getD 8 undef = v8 at e
    generalize tm.getD 9 undef = v9 at e
    generalize tm.getD 11 undef = v11 at e
    generalize tm.getD 13 undef = v13 at e
    generalize tm.getD 14 undef = v14 at e
    generalize tm.getD 15 undef = v15 at e
    generalize tm.getD 16 undef = v16 at e
    generalize tm.getD 17 undef = v17 at e
    generalize tm.getD 18 undef = v18 at e
    generalize tm.getD 19 undef = v19 at e
    generalize tm.getD 20 undef = v20 at e
    generalize tm.getD 21 undef = v21 at e
    generalize tm.getD 22 undef = v22 at e
    generalize tm.getD 23 undef = v23 at e
    generalize tm.getD 24 undef = v24 at e
    generalize tm.getD 25 undef = v25 at e
    generalize tm.getD 26 undef = v26 at e
    generalize tm.getD 27 undef = v27 at e
    generalize tm.getD 28 undef = v28 at e
    generalize tm.getD 29 undef = v29 at e
    generalize tm.getD 30 undef = v30 at e
    generalize tm.getD 31 undef = v31 at e
    generalize tm.getD 32 undef = v32 at e
    generalize tm.getD 33 undef = v33 at e
    generalize tm.getD 34 undef = v34 at e
    generalize tm.getD 35 undef = v35 at e
    generalize tm.getD 36 undef = v36 at e
    generalize tm.getD 37 undef = v37 at e
    generalize tm.getD 38 undef = v38 at e
    generalize tm.getD 39 undef = v39 at e
    generalize tm.getD 40 undef = v40 at e
    generalize tm.getD 41 undef = v41 at e
    generalize tm.getD 42 undef = v42 at e
    generalize tm.getD 43 undef = v43 at e
    generalize tm.getD 44 undef = v44 at e
    generalize tm.getD 45 undef = v45 at e
    generalize tm.getD 46 undef = v46 at e
    generalize tm.getD 47 undef = v47 at e
    generalize tm.getD 48 undef = v48 at e
    generalize tm.getD 49 undef = v49 at e
    generalize tm.getD 50 undef = v50 at e
    generalize tm.getD 51 undef = v51 at e
    generalize tm.getD 52 undef = v52 at e
    generalize tm.getD 53 undef = v53 at e
    generalize tm.getD 54 undef = v54 at e
    generalize tm.getD 55 undef = v55 at e
    generalize tm.getD 56 undef = v56 at e
    generalize tm.getD 57 undef = v57 at e
    generalize tm.getD 58 undef = v58 at e
    generalize tm.getD 59 undef = v59 at e
    generalize tm.getD 60 undef = v60 at e
    generalize tm.getD 61 undef = v61 at e
    generalize tm.getD 62 undef = v62 at e
    generalize tm.getD 63 undef = v63 at e
    generalize tm.getD 64 undef = v64 at e
    generalize tm.getD 65 undef = v65 at e
    generalize tm.getD 66 undef = v66 at e
    generalize tm.getD 67 undef = v67 at e
    generalize tm.getD 68 undef = v68 at e
    generalize tm.getD 69 undef = v69 at e
    generalize tm.getD 70 undef = v70 at e
    generalize tm.getD 71 undef = v71 at e
    generalize tm.getD 72 undef = v72 at e
    generalize tm.getD 73 undef = v73 at e
    generalize tm.getD 74 undef = v74 at e
    generalize tm.getD 75 undef = v75 at e
    generalize tm.getD 76 undef = v76 at e
    generalize tm.getD 77 undef = v77 at e
    generalize tm.getD 78 undef = v78 at e
    generalize tm.getD 79 undef = v79 at e
    generalize tm.getD 80 undef = v80 at e
    generalize tm.getD 81 undef = v81 at e
    generalize tm.getD 82 undef = v82 at e
    generalize tm.getD 83 undef = v83 at e
    generalize tm.getD 84 undef = v84 at e
    generalize tm.getD 85 undef = v85 at e
    generalize tm.getD 86 undef = v86 at e
    generalize tm.getD 87 undef = v87 at e
    generalize tm.getD 88 undef = v88 at e
    generalize tm.getD 89 undef = v89 at e
    generalize tm.getD 90 undef = v90 at e
    generalize tm.getD 91 undef = v91 at e
    generalize tm.getD 92 undef = v92 at e
    generalize tm.getD 93 undef = v93 at e
    generalize tm.getD 94 undef = v94 at e
    generalize tm.getD 95 undef = v95 at e
    generalize tm.getD 96 undef = v96 at e
    generalize tm.getD 98 undef = v98 at e
    generalize tm.getD 99 undef = v99 at e
    generalize tm.getD 100 undef = v100 at e
    generalize tm.getD 101 undef = v101 at e
    generalize tm.getD 102 undef = v102 at e
    generalize tm.getD 103 undef = v103 at e
    generalize tm.getD 104 undef = v104 at e
    generalize tm.getD 105 undef = v105 at e
    generalize tm.getD 106 undef = v106 at e
    generalize tm.getD 107 undef = v107 at e
    generalize tm.getD 108 undef = v108 at e
    generalize tm.getD 109 undef = v109 at e
    generalize tm.getD 110 undef = v110 at e
    generalize tm.getD 111 undef = v111 at e
    generalize tm.getD 112 undef = v112 at e
    generalize tm.getD 113 undef = v113 at e
    generalize tm.getD 114 undef = v114 at e
    subst e
    have HC := Lib.hid hC
    clear hC hval
    have q1 := HBX.out W HC.out
    go_upto_region 21 with (refine wpList_bytes rfl _ rfl Try.underlying9 Try.underlying52 Try.underlying5 rfl ?_; intro w10 cap hr10 hb10 hcap10)
    rw [HSB.out]
    rw [HSBD.out] at hr10
    have HB10 := Lib.hid (HC.out.trans (hb10.mono HC.out.size))
    obtain ⟨g1, hg1⟩ : ∃ g1, g1 = W.heap.size := ⟨_, rfl⟩
    rw [← hg1] at hr10 ⊢
    have HG1 : Hid (w9.heap.size ≤ g1) := Lib.hid (by rw [hg1]; exact HC.out.size)
    rw [zerK_nil HRB.out] at hr10
    have HR10 := Lib.hid hr10
    clear q1 hr10 hb10 hcap10 hg1
    have q1 := HBX.out w10 HB10.out
    go_wp2_with fail
    go_loopw [103] (fun vk wr => ∃ j : Nat, j ≤ E.length ∧ vk = .int .i64 j ∧ Row wr 5 g1 cap (zerK rb (E.take j)) ∧ Below w9.heap.size w9 wr) (fun vk _ => E.length - (RowKit.intOf vk).toNat)
    case atStart => exact ⟨0, by omega, rfl, HR10.out, HB10.out⟩
    case round =>
      obtain ⟨j, hj, rfl, hrw, hbb⟩ := hrel
      by_cases hlt : j < E.length
      · obtain ⟨bl, off, hcell⟩ := rdI_at12 (HR9.out.keep hbb)
        obtain ⟨hva, hcl⟩ := hcell j hlt
        have hix := fun w' => run_idxS Try.underlying30 Try.sizeInt9 (cap := cE) (n := E.length) (k := j) (b := bl) (off := off) hva hlt _ rfl w'
        simp only [Nat.mul_one] at hix
        have hxb := HOKD.out.2.1.1 _ (D13.ixI_mem hlt)
        have HTK : Hid (E.take (j + 1) = E.take j ++ [ixI E j]) := Lib.hid (by rw [List.take_succ_eq_append_getElem hlt, ← D13.ixI_get hlt])
        simp only at hcl hxb
        generalize hxe : ixI E j = x at *
        clear hxe
        obtain ⟨y, rfl⟩ : ∃ y : Nat, x = y := ⟨x.toNat, by omega⟩
        have hy : y < 2352 := by omega
        have hix2 := fun w' => run_idxS Try.underlying52 Try.sizeU8 (cap := cap) (n := 2352) (k := y) (b := g1) (off := 0) rfl hy _ rfl w'
        simp only [Nat.mul_one, Nat.zero_add] at hix2
        have hcy := hrw.cell y (by rw [zerK_len]; exact hy)
        have hfy := hrw.frozen y (by have := hrw.le; rw [zerK_len] at this; omega)
        have hset := hrw.store y 0 (by rw [zerK_len]; exact hy)
        rw [zerK_step, ← HTK.out] at hset
        have HSET := Lib.hid (show Row (wr.setCell ⟨g1, y, none⟩ (.int .u8 0)) _ _ _ _ from hset)
        have HBB := Lib.hid (hbb.setCell (p := ⟨g1, y, none⟩) HG1.out (.int .u8 0))
        clear hset hrw hbb hxb HTK hva hcell
        generalize hold : B (G.ix _ y) = old at hcy
        clear hold
        go_wp2_with fail
        go_roundw
        case rel => exact ⟨j + 1, by omega, by go_num, HSET.out, HBB.out⟩
        case measure => simp [RowKit.intOf]; omega
      · obtain rfl : j = E.length := by omega
        rw [List.take_length] at hrw
        have hl : (zerK rb E).length = 2352 := zerK_len _ _
        have hrd := hrw.rd (by omega)
        rw [hl] at hrd
        have hcx := run_str (P := Try.prog) Try.underlying52 Try.underlying5 Try.underlying9 hrd
        rw [← HS9E.out] at hcx
        have HFIN := Lib.hid (H9.out.b.trans (hbb.mono H9.out.b.size))
        clear hrw hrd hbb
        go_wp2_with fail
        go_ret
        exact ⟨rfl, HFIN.out⟩
end Go.Proofs.Ytpncjadhpnapnaa.D12
