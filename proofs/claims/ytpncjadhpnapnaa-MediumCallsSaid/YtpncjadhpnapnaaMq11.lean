/- Chapter 12: a sector that is not damaged is read as it was recorded; MediumWears. -/
import Derived.Test.YtpncjadhpnapnaaMq10
/- Chapter 12: what a law holds of its medium; the example, plain; awake walked. -/
namespace Go.Proofs.Ytpncjadhpnapnaa.D12
open Go.RowKit Go.Maps C9
open D13 (RdI ixI is)
set_option linter.unusedVariables false

/-- a medium of the call's own -/
structure Have (w0 w : World) (g : Nat) (M : Med) (X R : Nat → Prop) : Prop where
  m : MedW w g M X R
  b : Below w0.heap.size w0 w
  x : ∀ b, X b ∨ R b → w0.heap.size ≤ b
section
variable {w0 w w' : World} {g : Nat} {M : Med} {X R X2 R2 : Nat → Prop} {Z : Int × Med} {e : Ending}
theorem Have.below (h : Have w0 w g M X R) (hb : Below w.heap.size w w') : Have w0 w' g M X R := ⟨h.m.below hb, h.b.trans (hb.mono h.b.size), h.x⟩
theorem Have.ch {M2 : Med} (h : Have w0 w g M X R) (hm : MedW w' g M2 X2 R2) (hc : Ch X R X2 R2 w w') : Have w0 w' g M2 X2 R2 :=
  ⟨hm, h.b.trans (hc.below _ h.b.size fun b hb => h.x b (.inl hb)), fun b hb => by
    have hs := h.b.size
    rcases hb with h1 | h1
    · exact (hc.x b h1).elim (fun h2 => h.x b (.inl h2)) (fun h2 => Nat.le_trans hs h2)
    · exact (hc.r b h1).elim (fun h2 => h.x b (.inr h2)) (fun h2 => Nat.le_trans hs h2)⟩
theorem WrP.have_ (hw : WrP Z g X R w e w') (h : Have w0 w g M X R) : e = .returned (.int .i64 Z.1) ∧ ∃ X2 R2, Have w0 w' g Z.2 X2 R2 ∧ Ch X R X2 R2 w w' := by
  obtain ⟨he, X2, R2, hm, hc⟩ := hw
  exact ⟨he, X2, R2, h.ch hm hc, hc⟩
theorem NewW.have_ {k n en : Nat} (h : NewW k n en w e w') : ∃ g X R, e = .returned (.tuple #[.pointer (some ⟨g, 0, none⟩), .int .i64 0]) ∧ Have w w' g (medNew k n en) X R := by
  obtain ⟨g, X, R, he, hm, hb, hx⟩ := h
  exact ⟨g, X, R, he, hm, hb, hx⟩
end
theorem Med.record_rw {M : Med} {i : Nat} (hi : i < M.n) (hk : M.kind = 2 ∨ (M.kind = 1 ∧ (M.sec i).st = 0)) {raw : List UInt8} (hr : raw.length = 2352) (hc : (M.sec i).cnt + 1 ≤ M.endu) :
    M.record (i : Nat) raw = (0, M.put i { M.sec i with st := 1, cnt := (M.sec i).cnt + 1, raw := raw, ch := fun _ => 0 }) := by
  unfold Med.record Med.write
  rw [if_pos ⟨by omega, by omega⟩, if_pos hr, Int.toNat_natCast, if_neg (by omega), if_neg (by omega), if_neg (by omega)]
theorem Med.record_worn {M : Med} {i : Nat} (hi : i < M.n) (hk : M.kind = 2) {raw : List UInt8} (hr : raw.length = 2352) (hc : M.endu < (M.sec i).cnt + 1) :
    M.record (i : Nat) raw = (16, M.put i { M.sec i with st := 3, cnt := (M.sec i).cnt + 1, raw := [], ch := fun _ => 0 }) := by
  unfold Med.record Med.write
  rw [if_pos ⟨by omega, by omega⟩, if_pos hr, Int.toNat_natCast, if_neg (by omega), if_neg (by omega), if_pos (by omega)]
/-- the example's medium -/
def exS : List UInt8 := List.replicate 2352 115
theorem exS_len : exS.length = 2352 := List.length_replicate
def exM (c : Nat) (scr : List Sc) : Med := ⟨2, 2, [⟨1, 2, exS, fun _ => false, fun _ => 0⟩, ⟨1, c, exS, fun _ => false, fun _ => 0⟩], scr⟩
theorem ex1 : (medNew 2 2 2).record 0 exS = (0, ⟨2, 2, [⟨1, 1, exS, fun _ => false, fun _ => 0⟩, blank], []⟩) := (Med.record_rw (M := medNew 2 2 2) (i := 0) (by decide) (.inl rfl) exS_len (by decide)).trans rfl
theorem ex2 : (⟨2, 2, [⟨1, 1, exS, fun _ => false, fun _ => 0⟩, blank], []⟩ : Med).record 0 exS = (0, ⟨2, 2, [⟨1, 2, exS, fun _ => false, fun _ => 0⟩, blank], []⟩) := (Med.record_rw (M := ⟨2, 2, [⟨1, 1, exS, fun _ => false, fun _ => 0⟩, blank], []⟩) (i := 0) (by decide) (.inl rfl) exS_len (by decide)).trans rfl
theorem ex3 : (⟨2, 2, [⟨1, 2, exS, fun _ => false, fun _ => 0⟩, blank], []⟩ : Med).record 1 exS = (0, exM 1 []) := (Med.record_rw (M := ⟨2, 2, [⟨1, 2, exS, fun _ => false, fun _ => 0⟩, blank], []⟩) (i := 1) (by decide) (.inl rfl) exS_len (by decide)).trans rfl
theorem ex4 : (exM 1 []).scratch [⟨0, 17⟩] = (0, exM 1 [⟨0, 17⟩]) := by
  unfold Med.scratch
  rw [if_neg (by decide), if_neg (by decide)]
  rfl
theorem ex_lost : lostN [⟨0, 17⟩] 196 = [0, 1, 2, 3, 4] := by kernel_rfl
theorem ex_lostP (i k : Nat) : lostP 2 [⟨0, 17⟩] i k = decide (2352 * i + k < 5) := by
  unfold lostP lostL
  rw [show 98 * 2 = 196 from rfl, ex_lost]
  rw [decide_eq_decide]
  simp only [List.mem_cons, List.not_mem_nil, or_false]
  omega
theorem ex_goneP (i k : Nat) (hi : i < 2) : (exM 1 [⟨0, 17⟩]).goneP i k = decide (2352 * i + k < 5) := by
  unfold Med.goneP
  have h1 : ((exM 1 [⟨0, 17⟩]).sec i).er k = false := by
    rcases i with _ | _ | i
    · rfl
    · rfl
    · omega
  rw [h1, Bool.false_or]
  exact ex_lostP i k
theorem ex_gone0 : (exM 1 [⟨0, 17⟩]).gone 0 = [0, 1, 2, 3, 4] := by
  refine sorted_eq (gone_sorted _ _) (by decide) fun z => ?_
  rw [mem_gone]
  simp only [List.mem_cons, List.not_mem_nil, or_false]
  constructor
  · rintro ⟨k, h1, h2, rfl⟩
    rw [ex_goneP _ _ (by omega)] at h2
    have := of_decide_eq_true h2
    omega
  · intro h
    refine ⟨z.toNat, by omega, ?_, by omega⟩
    rw [ex_goneP _ _ (by omega)]
    exact decide_eq_true (by omega)
theorem ex_gone1 : (exM 1 [⟨0, 17⟩]).gone 1 = [] := by
  rw [List.eq_nil_iff_forall_not_mem]
  intro z hz
  obtain ⟨k, h1, h2, _⟩ := (mem_gone _ _ _).1 hz
  rw [ex_goneP _ _ (by omega)] at h2
  have := of_decide_eq_true h2
  omega
theorem ex_out : (exM 1 [⟨0, 17⟩]).out 0 = [0, 0, 0, 0, 0] ++ exS.drop 5 := by
  unfold Med.out
  apply List.ext_getElem?
  intro k
  by_cases hk : k < 2352
  · rw [List.getElem?_map, List.getElem?_range hk, Option.map_some, ex_goneP _ _ (by omega)]
    by_cases h5 : k < 5
    · rw [if_pos (decide_eq_true (by omega)), List.getElem?_append_left (by simp; omega)]
      have : k = 0 ∨ k = 1 ∨ k = 2 ∨ k = 3 ∨ k = 4 := by omega
      rcases this with rfl | rfl | rfl | rfl | rfl <;> rfl
    · rw [if_neg (by rw [decide_eq_true_eq]; omega), List.getElem?_append_right (by simp; omega), List.getElem?_drop]
      have e : 5 + (k - [(0 : UInt8), 0, 0, 0, 0].length) = k := by simp; omega
      rw [e]
      show some (byteA exS k ^^^ 0) = _
      have : exS[k]? = some (byteA exS k) := by
        unfold byteA atD
        rw [List.getElem?_eq_getElem (by rw [exS_len]; exact hk)]
        rfl
      rw [this]
      simp
  · rw [List.getElem?_eq_none (by simpa using hk), List.getElem?_eq_none (by simp [exS_len]; omega)]
theorem ex_read : (exM 1 [⟨0, 17⟩]).readR 0 = ([0, 0, 0, 0, 0] ++ exS.drop 5, [0, 1, 2, 3, 4], 0) := by
  unfold Med.readR
  rw [if_pos ⟨by omega, by decide⟩, if_neg (by decide), if_pos (by decide)]
  show ((exM 1 [⟨0, 17⟩]).out 0, (exM 1 [⟨0, 17⟩]).gone 0, (0 : Int)) = _
  rw [ex_out, ex_gone0]
theorem ex_clean : (exM 1 [⟨0, 17⟩]).cleanR 1 = true := cleanR_true ⟨⟨by omega, by decide⟩, rfl, ex_gone1, fun _ _ => rfl⟩
theorem ex_state : (exM 1 [⟨0, 17⟩]).stateR 0 = (1, 0) := rfl
theorem ex5 : ((exM 1 [⟨0, 17⟩]).record 0 exS).1 = 16 := congrArg Prod.fst (Med.record_worn (M := exM 1 [⟨0, 17⟩]) (i := 0) (by decide) rfl exS_len (by decide))
theorem ok_new2 : (medNew 2 2 2).Ok 0 := medNew_ok (by decide) (by decide) (by decide)
theorem repeatL12 (c : UInt8) : ∀ n, Lib.repeatL [c] n = List.replicate n c
  | 0 => rfl
  | n + 1 => by rw [Lib.repeatL, repeatL12 c n, List.replicate_succ]; rfl
/-- 'strings.Repeat' of one byte -/
theorem repeat12 (c : UInt8) (n : Nat) (hn : n ≤ 1000000) (W : World) : Calls Try.prog 9 #[.string ⟨#[c]⟩, .int .i64 (n : Nat)] W fun e w' => e = .returned (.string (str (List.replicate n c))) ∧ Below W.heap.size W w' := by
  have h := Try.strings_Repeat (⟨#[c]⟩ : ByteArray) n W (by omega) (by simp [ByteArray.size]; omega)
  have e : (⟨(Lib.repeatL (⟨#[c]⟩ : ByteArray).data.toList n).toArray⟩ : ByteArray) = str (List.replicate n c) := by
    have h : (⟨#[c]⟩ : ByteArray).data.toList = [c] := rfl
    rw [h, repeatL12]
    rfl
  rw [e] at h
  exact h
/-- slices.Equal of two lists -/
theorem equal12 {w : World} {v1 v2 : Value} {l m : List Int} (h1 : RdI w v1 l) (h2 : RdI w v2 m) :
    Calls Try.prog 16 #[v1, v2] w fun e w' => e = .returned (.bool (decide (l = m))) ∧ Below w.heap.size w w' := by
  obtain ⟨k1, ⟨a1, c1, b1, o1, rfl, _, hc1⟩, _⟩ := h1
  obtain ⟨k2, ⟨a2, c2, b2, o2, rfl, _, hc2⟩, _⟩ := h2
  by_cases hl : l.length = m.length
  · by_cases h0 : l.length = 0
    · have e1 := List.length_eq_zero_iff.1 h0
      have e2 : m = [] := List.length_eq_zero_iff.1 (hl ▸ h0)
      subst e1 e2
      refine (Try.slices_Equal_int_empty a1 a2 c1 0 c2 w (by omega)).mono ?_
      rintro e w' ⟨rfl, rfl⟩
      exact ⟨by simp, Below.refl _ _⟩
    · obtain ⟨rfl, _⟩ := hc1 0 (by omega)
      obtain ⟨rfl, _⟩ := hc2 0 (by omega)
      refine (Try.slices_Equal_int b1 o1 l.length c1 b2 o2 m.length c2 l m w (Nat.le_refl _) (Nat.le_refl _) (by omega) (by omega) (fun j hj => (hc1 j hj).2) (fun j hj => (hc2 j hj).2)).mono ?_
      rintro e w' ⟨rfl, q, rfl⟩
      exact ⟨by
        rw [List.take_length, List.take_length]
        by_cases e : l = m <;> simp [e], Below.drewN (Below.refl _ _) q⟩
  · refine (Try.slices_Equal_int_lens a1 a2 l.length c1 m.length c2 w hl).mono ?_
    rintro e w' ⟨rfl, rfl⟩
    have : ¬ l = m := fun e => hl (by rw [e])
    exact ⟨by simp [this], Below.refl _ _⟩
end Go.Proofs.Ytpncjadhpnapnaa.D12
/- Chapter 12: awake walked. -/
namespace Go.Proofs.Ytpncjadhpnapnaa.D12
open Go.RowKit Go.Maps C9
open D13 (RdI ixI is)
set_option linter.unusedVariables false

theorem cameSc_one {W : World} (x : Sc) (hx : Wf x) {g : Nat} (hb : Bx W g 36 (scc x)) : CameSc W (.slice (some ⟨g, 0, none⟩) 1 1) [x] :=
  ⟨⟨some ⟨g, 0, none⟩, 1, g, 0, rfl, Nat.le_refl _, fun i hi => ⟨rfl, fun j u hu => by
    obtain rfl : i = 0 := by simp at hi; omega
    rw [Nat.zero_mul, Nat.zero_add]
    exact hb.cell hu⟩⟩, fun i hi => by
    obtain rfl : i = 0 := by simp at hi; omega
    exact hx, by simp⟩
theorem rdI_five {W : World} {g : Nat} (hb : Bx W g 3 (is [0, 1, 2, 3, 4])) : RdI W (.slice (some ⟨g, 0, none⟩) 5 5) [0, 1, 2, 3, 4] :=
  ⟨by decide, ⟨_, _, g, 0, rfl, Nat.le_refl _, fun i hi => ⟨rfl, hb.cell (by rw [Nat.zero_add]; exact D13.is_get hi)⟩⟩, fun i hi => by
    have : i = 0 ∨ i = 1 ∨ i = 2 ∨ i = 3 ∨ i = 4 := by simp at hi; omega
    rcases this with rfl | rfl | rfl | rfl | rfl <;> decide⟩
set_option maxRecDepth 100000 in
set_option maxHeartbeats 4000000 in
theorem awake12 (w : World) : Calls Try.prog 8 #[] w fun e w' => e = .returned (.bool true) ∧ Below w.heap.size w w' := by
  have HNEW := Lib.hid (new12 2 2 2 (by unfold newOk; omega) w)
  have HREP := Lib.hid (fun W => repeat12 115 2352 (by omega) W)
  obtain ⟨S, hS⟩ : ∃ S, S = str exS := ⟨_, rfl⟩
  have HS := Lib.hid hS
  have hsz : S.size = 2352 := by rw [hS, str_size, exS_len]
  have HREC := Lib.hid (fun (W : World) (g : Nat) (M : Med) (X R : Nat → Prop) (h : Have w W g M X R) (ho : M.Ok 10) (a : Int) => record12 h.m ho (by omega) a exS (by rw [exS_len]; omega))
  rw [← hS] at HREC
  change Hid (∀ W, Calls Try.prog 9 #[.string ⟨#[115]⟩, .int .i64 2352] W fun e w' => e = .returned (.string (str exS)) ∧ Below W.heap.size W w') at HREP
  rw [← hS] at HREP
  have o1 := ok_new2.mono (show 0 ≤ 10 by omega)
  have HO1 := Lib.hid o1
  have HO2 : Hid (Med.Ok ⟨2, 2, [⟨1, 1, exS, fun _ => false, fun _ => 0⟩, blank], []⟩ 10) := Lib.hid (by have := (ok_new2.record 0 exS).mono (show 1 ≤ 10 by omega); rwa [ex1] at this)
  have HO3 : Hid (Med.Ok ⟨2, 2, [⟨1, 2, exS, fun _ => false, fun _ => 0⟩, blank], []⟩ 10) := Lib.hid (by have := (((ok_new2.record 0 exS).record 0 exS)).mono (show 2 ≤ 10 by omega); rwa [ex1, ex2] at this)
  have HO4 : Hid (Med.Ok (exM 1 []) 10) := Lib.hid (by have := ((((ok_new2.record 0 exS).record 0 exS)).record 1 exS).mono (show 3 ≤ 10 by omega); rwa [ex1, ex2, ex3] at this)
  have HO5 : Hid (Med.Ok (exM 1 [⟨0, 17⟩]) 10) := Lib.hid (by have := (((((ok_new2.record 0 exS).record 0 exS)).record 1 exS).mono (show 3 ≤ 10 by omega)).scratch [⟨0, 17⟩]; rwa [ex1, ex2, ex3, ex4] at this)
  clear o1 hS
  go_enter Try.func8, Try.ntmps8
  go_wp2_with fail
  refine HNEW.out.mono ?_
  rintro e w1 hn
  obtain ⟨g, X1, R1, rfl, h1⟩ := hn.have_
  have H1 : Hid (Have w w1 g (medNew 2 2 2) X1 R1) := Lib.hid h1
  clear h1 hn
  go_wp2_with fail
  refine (HREP.out _).mono ?_
  rintro e w2 ⟨rfl, hb2⟩
  have H2 := Lib.hid (H1.out.below hb2)
  clear hb2
  go_wp2_with fail
  refine (HREC.out _ _ _ _ _ H2.out HO1.out _).mono ?_
  rintro e w3 hw
  rw [ex1] at hw
  obtain ⟨rfl, X3, R3, h3, _⟩ := hw.have_ H2.out
  have H3 := Lib.hid h3
  clear h3 hw
  go_wp2_with fail
  refine (HREC.out _ _ _ _ _ H3.out HO2.out _).mono ?_
  rintro e w4 hw
  rw [ex2] at hw
  obtain ⟨rfl, X4, R4, h4, _⟩ := hw.have_ H3.out
  have H4 := Lib.hid h4
  clear h4 hw
  go_wp2_with fail
  refine (HREC.out _ _ _ _ _ H4.out HO3.out _).mono ?_
  rintro e w5 hw
  rw [ex3] at hw
  obtain ⟨rfl, X5, R5, h5, _⟩ := hw.have_ H4.out
  have H5 := Lib.hid h5
  clear h5 hw
  go_wp2_with fail
  have hA := (Below.refl w5.heap.size w5).alloc (Nat.le_refl _) (.cells #[.int .i64 0, .int .i64 17] 36)
  have H6 := Lib.hid (H5.out.below hA)
  have hx := Bx.new w5 36 (scc ⟨0, 17⟩)
  have hcm := cameSc_one ⟨0, 17⟩ ⟨⟨by decide, by decide⟩, by decide, by decide⟩ hx
  refine (scratch12 H6.out.m HO4.out _ _ hcm (by simp)).mono ?_
  rintro e w7 hw
  rw [ex4] at hw
  obtain ⟨rfl, X7, R7, h7, _⟩ := hw.have_ H6.out
  have H7 := Lib.hid h7
  clear h7 hw hA hx hcm
  go_wp2_with fail
  refine (read12 H7.out.m HO5.out 0).mono ?_
  rw [ex_read]
  rintro e w8 ⟨v8, rfl, ho8, hb8⟩
  obtain ⟨a8, c8, rfl⟩ := ownD_form ho8
  have H8 := Lib.hid (H7.out.below hb8)
  have HO8 := Lib.hid ho8
  clear ho8 hb8
  have hT : str ([0, 0, 0, 0, 0] ++ exS.drop 5) = (⟨#[0, 0, 0, 0, 0]⟩ : ByteArray) ++ S.extract 5 S.size := by
    rw [HS.out]
    apply ByteArray.ext
    simp [str, ByteArray.size]
    rw [List.take_of_length_le (by simp)]
  simp only
  rw [hT]
  clear hT
  go_wp2_with fail
  have hA := (Below.refl w8.heap.size w8).alloc (Nat.le_refl _) (.cells #[.int .i64 0, .int .i64 1, .int .i64 2, .int .i64 3, .int .i64 4] 3)
  have H9 := Lib.hid (H8.out.below hA)
  have hr1 : RdI (w8.alloc (.cells #[.int .i64 0, .int .i64 1, .int .i64 2, .int .i64 3, .int .i64 4] 3)) (.slice a8 5 c8) [0, 1, 2, 3, 4] := D13.rdI_own (ownD_keep HO8.out hA) rfl (by simp) (by decide)
  have hr2 := rdI_five (Bx.new w8 3 (is [0, 1, 2, 3, 4]))
  refine (equal12 hr1 hr2).mono ?_
  rw [decide_eq_true rfl]
  rintro e w9 ⟨rfl, hb9⟩
  have H10 := Lib.hid (H9.out.below hb9)
  clear hA hr1 hr2 hb9
  go_wp2_with fail
  refine (clean12 H10.out.m HO5.out 1).mono ?_
  rw [ex_clean]
  rintro e w11 ⟨rfl, hb11⟩
  have H11 := Lib.hid (H10.out.below hb11)
  clear hb11
  go_wp2_with fail
  refine (state12 H11.out.m (by decide) 0).mono ?_
  rintro e w12 ⟨rfl, hb12⟩
  rw [ex_state]
  have H12 := Lib.hid (H11.out.below hb12)
  clear hb12
  go_wp2_with fail
  refine (HREC.out _ _ _ _ _ H12.out HO5.out _).mono ?_
  rintro e w13 hw
  have he := hw.1
  rw [ex5] at he
  obtain ⟨_, X13, R13, h13, _⟩ := hw.have_ H12.out
  subst he
  have H13 := Lib.hid h13.b
  clear h13 hw
  go_wp2_with fail
  go_ret
  exact ⟨rfl, H13.out⟩
end Go.Proofs.Ytpncjadhpnapnaa.D12
namespace Go.Proofs.Ytpncjadhpnapnaa.D12
open Go.RowKit Go.Maps C9
open D13 (RdI ixI is)
set_option linter.unusedVariables false

theorem lostL_nil (n : Nat) : lostL n [] = [] := lostN_none (fun f => by
  have : ersK [] f 28 = [] := by simp [ersK, gon]
  rw [ers, this]; decide) _
theorem lostP_nil (n i k : Nat) : lostP n [] i k = false := by unfold lostP; rw [lostL_nil]; simp
theorem gone_none {M : Med} {i : Nat} (h : ∀ k, k < 2352 → M.goneP i k = false) : M.gone i = [] := by
  rw [List.eq_nil_iff_forall_not_mem]
  intro z hz
  obtain ⟨k, h1, h2, _⟩ := (mem_gone _ _ _).1 hz
  rw [h k h1] at h2; cases h2
theorem out_plain {M : Med} {i : Nat} (h : ∀ k, k < 2352 → M.goneP i k = false) (hc : ∀ k, (M.sec i).ch k = 0) (hr : (M.sec i).raw.length = 2352) : M.out i = (M.sec i).raw := by
  unfold Med.out
  apply List.ext_getElem?
  intro k
  by_cases hk : k < 2352
  · rw [List.getElem?_map, List.getElem?_range hk, Option.map_some, h k hk, if_neg (by decide), hc, List.getElem?_eq_getElem (by omega)]
    simp [byteA, atD, show k < (M.sec i).raw.length by omega]
  · rw [List.getElem?_eq_none (by simpa using hk), List.getElem?_eq_none (by omega)]
/-- the medium of MediumWears -/
def wM (n c st : Nat) (raw : List UInt8) : Med := ⟨2, n, [blank, ⟨st, c, raw, fun _ => false, fun _ => 0⟩], []⟩
theorem wM_n (n c st : Nat) (raw : List UInt8) : (wM n c st raw).n = 2 := rfl
theorem blank_ok (N : Nat) : Sec.Ok blank N := ⟨by decide, Nat.zero_le _, by simp [blank], by simp [blank], by simp [blank], by simp [blank]⟩
def WOk (st : Nat) (raw : List UInt8) : Prop := (st = 0 ∧ raw = []) ∨ (st = 1 ∧ raw.length = 2352) ∨ (st = 3 ∧ raw = [])
theorem wM_ok {n c st : Nat} {raw : List UInt8} (h1 : 1 ≤ n) (h2 : n ≤ 20) (hc : c ≤ 100) (h : WOk st raw) : (wM n c st raw).Ok 100 := by
  refine ⟨Nat.le_refl 2, ⟨h1, by show n ≤ _; omega⟩, ⟨by rw [wM_n]; omega, by rw [wM_n]; omega⟩, fun i hi => ?_, by simp [wM], by simp [wM, fitA]⟩
  have hi2 : i < 2 := hi
  rcases i with _ | _ | i
  · exact blank_ok 100
  · show Sec.Ok ⟨st, c, raw, fun _ => false, fun _ => 0⟩ 100
    unfold WOk at h
    rcases h with ⟨rfl, rfl⟩ | ⟨rfl, h⟩ | ⟨rfl, rfl⟩
    · exact ⟨by simp, hc, by simp, by simp, by simp, by simp⟩
    · exact ⟨by simp, hc, fun _ => h, by simp only; omega, by simp, by simp⟩
    · exact ⟨by simp, hc, by simp, by simp, by simp, by simp⟩
  · omega
theorem wM_record {n c st : Nat} {raw raw2 : List UInt8} (hr : raw2.length = 2352) (hc : c + 1 ≤ n) : (wM n c st raw).record 1 raw2 = (0, wM n (c + 1) 1 raw2) :=
  (Med.record_rw (M := wM n c st raw) (i := 1) (by rw [wM_n]; omega) (.inl rfl) hr hc).trans rfl
theorem wM_fail {n c st : Nat} {raw raw2 : List UInt8} (hr : raw2.length = 2352) (hc : n < c + 1) : (wM n c st raw).record 1 raw2 = (16, wM n (c + 1) 3 []) :=
  (Med.record_worn (M := wM n c st raw) (i := 1) (by rw [wM_n]; omega) rfl hr hc).trans rfl
theorem wM_goneP (n c st : Nat) (raw : List UInt8) (k : Nat) : (wM n c st raw).goneP 1 k = false := by
  unfold Med.goneP
  rw [show (wM n c st raw).scr = [] from rfl, lostP_nil]
  rfl
theorem wM_read {n c : Nat} {raw : List UInt8} (hr : raw.length = 2352) : (wM n c 1 raw).readR 1 = (raw, [], 0) := by
  unfold Med.readR
  rw [if_pos ⟨by omega, by rw [wM_n]; omega⟩, if_neg (show ¬ ((wM n c 1 raw).sec (1 : Int).toNat).st = 0 from fun h => by cases h), if_pos (show ((wM n c 1 raw).sec (1 : Int).toNat).st = 1 from rfl)]
  rw [show (1 : Int).toNat = 1 from rfl, gone_none (fun k _ => wM_goneP n c 1 raw k), out_plain (fun k _ => wM_goneP n c 1 raw k) (fun _ => rfl) hr]
  rfl
theorem wM_read3 (n c : Nat) : (wM n c 3 []).readR 1 = ([], [], 9) := rfl
theorem wM_erase (n c : Nat) (raw : List UInt8) : (wM n c 1 raw).erase 1 = (0, wM n c 0 []) := rfl
theorem wM_erase3 (n c : Nat) : (wM n c 3 []).erase 1 = (16, wM n c 3 []) := rfl
theorem wM_state (n c : Nat) : (wM n c 3 []).stateR 1 = (3, 0) := rfl
theorem wM_state0 (n c st : Nat) (raw : List UInt8) : (wM n c st raw).stateR 0 = (0, 0) := rfl
theorem rawN_len (b : Int) : (rawR b false).length = 2352 := by rw [rawR_length]; rfl
theorem u8_wf {a : Int} (h : (Lit.int .u8 a).wf = true) : 0 ≤ a ∧ a ≤ 255 := by simpa [Lit.wf, IntKind.min, IntKind.max, IntKind.signed, IntKind.bits] using h
set_option maxRecDepth 100000 in
set_option maxHeartbeats 4000000 in
theorem wears_law (w : World) (a : Int) (ha : (Lit.int .u8 a).wf = true) (b : Int) (hb : (Lit.int .u8 b).wf = true) (er : Bool) :
    Calls Try.prog 4 #[.int .u8 a, .int .u8 b, .bool er] w fun e w' => e = .returned (.bool true) ∧ Below w.heap.size w w' := by
  obtain ⟨ha0, ha1⟩ := u8_wf ha
  obtain ⟨hb0, hb1⟩ := u8_wf hb
  clear ha hb
  obtain ⟨x, rfl⟩ : ∃ x : Nat, a = x := ⟨a.toNat, by omega⟩
  obtain ⟨y, rfl⟩ : ∃ y : Nat, b = y := ⟨b.toNat, by omega⟩
  have HAW := Lib.hid (awake12 w)
  have HNEW := Lib.hid (fun W (n : Nat) (h : 1 ≤ n ∧ n ≤ 20) => new12 2 2 (n : Nat) (by unfold newOk; omega) W)
  have HRAW := Lib.hid (fun (W : World) (k : Nat) (hk : k ≤ 100) => raw12 0 0 (k : Nat) false (.slice none 0 0) (.slice none 0 0) (.slice none 0 0) ⟨0, [], []⟩ (by unfold In64; omega) W)
  obtain ⟨n, hn⟩ : ∃ n : Nat, n = 1 + x % 20 := ⟨_, rfl⟩
  obtain ⟨K, hK⟩ : ∃ K : Nat, K = 1 + y % 4 := ⟨_, rfl⟩
  have hn1 : (1 : Int) + (x : Int) % 20 = (n : Int) := by omega
  have hK1 : (1 : Int) + (y : Int) % 4 = (K : Int) := by omega
  have hnb : 1 ≤ n ∧ n ≤ 20 := by omega
  have hKb : 1 ≤ K ∧ K ≤ 4 := by omega
  clear hn hK
  go_enter Try.func4, Try.ntmps4
  go_wp2_with fail
  refine HAW.out.mono ?_
  rintro e w1 ⟨rfl, hb1'⟩
  have HB1 := Lib.hid hb1'
  clear hb1'
  go_wp2_with fail
  refine (HNEW.out _ n hnb).mono ?_
  rintro e w2 hw
  obtain ⟨g, X2, R2, rfl, h2⟩ := hw.have_
  rw [show (2 : Int).toNat = 2 from rfl, Int.toNat_natCast] at h2
  have H2 : Hid (Have w1 w2 g (wM n 0 0 []) X2 R2) := Lib.hid h2
  have HNB := Lib.hid hnb
  have hnl : n ≤ 20 := hnb.2
  have hn0 : 1 ≤ n := hnb.1
  clear h2 hw hn1 hnb
  go_wp2_with fail
  go_loopw [40] (fun vk wr => ∃ i st raw X R, i ≤ n ∧ vk = .int .i64 (i : Nat) ∧ WOk st raw ∧ Have w1 wr g (wM n i st raw) X R) (fun vk _ => n - (RowKit.intOf vk).toNat)
  case atStart => exact ⟨0, 0, [], X2, R2, by omega, rfl, .inl ⟨rfl, rfl⟩, H2.out⟩
  case round =>
    obtain ⟨i, st, raw, X, R, hi, rfl, hok, hh⟩ := hrel
    have HH := Lib.hid hh
    have HOK := Lib.hid hok
    clear hh hok
    by_cases hlt : i < n
    · have hlt1 : ((i : Int) + 1 ≤ n) := by omega
      go_wp2_with fail
      refine (HRAW.out _ i (by omega)).mono ?_
      rintro e w3 ⟨rfl, hb3⟩
      obtain ⟨rr, hrr⟩ : ∃ rr, rr = rawR (i : Int) false := ⟨_, rfl⟩
      have hrl : rr.length = 2352 := by rw [hrr]; exact rawN_len _
      rw [← hrr]
      have H3 := Lib.hid (HH.out.below hb3)
      have HRL := Lib.hid hrl
      clear hb3 hrr hrl
      go_wp2_with fail
      refine (record12 H3.out.m (wM_ok hn0 hnl (by omega) HOK.out) (by omega) 1 rr (by rw [HRL.out]; omega)).mono ?_
      rintro e w4 hw
      rw [wM_record HRL.out (by omega)] at hw
      obtain ⟨rfl, X4, R4, h4, _⟩ := hw.have_ H3.out
      have H4 := Lib.hid h4
      clear h4 hw
      go_wp2_with fail
      refine (read12 H4.out.m (wM_ok hn0 hnl (by omega) (.inr (.inl ⟨rfl, HRL.out⟩))) 1).mono ?_
      rw [wM_read HRL.out]
      rintro e w5 ⟨v5, rfl, ho5, hb5⟩
      obtain ⟨a5, c5, rfl⟩ := ownD_form ho5
      have H5 := Lib.hid (H4.out.below hb5)
      clear ho5 hb5
      simp only [List.length_nil]
      by_cases her : er = true ∧ i < n - 1
      · obtain ⟨he1, he2⟩ := her
        have hq : decide ((i : Int) < (n : Int) - 1) = true := decide_eq_true (by omega)
        clear he2
        subst he1
        go_wp2_with fail
        refine (erase12 H5.out.m (wM_ok hn0 hnl (by omega) (.inr (.inl ⟨rfl, HRL.out⟩))) 1).mono ?_
        rintro e w6 hw
        rw [wM_erase] at hw
        obtain ⟨rfl, X6, R6, h6, _⟩ := hw.have_ H5.out
        have H6 := Lib.hid h6
        clear h6 hw
        go_wp2_with fail
        go_roundw
        case rel => exact ⟨i + 1, 0, [], X6, R6, by omega, by go_num, .inl ⟨rfl, rfl⟩, H6.out⟩
        case measure => simp [RowKit.intOf]; omega
      · have HE : Hid (er = false ∨ ¬ i < n - 1) := Lib.hid (by cases er <;> simp_all)
        clear her
        cases er with
        | false =>
          go_wp2_with fail
          go_roundw
          case rel => exact ⟨i + 1, 1, rr, X4, R4, by omega, by go_num, .inr (.inl ⟨rfl, HRL.out⟩), H5.out⟩
          case measure => simp [RowKit.intOf]; omega
        | true =>
          have hq : decide ((i : Int) < (n : Int) - 1) = false := decide_eq_false (by have := HE.out; simp at this; omega)
          go_wp2_with fail
          go_roundw
          case rel => exact ⟨i + 1, 1, rr, X4, R4, by omega, by go_num, .inr (.inl ⟨rfl, HRL.out⟩), H5.out⟩
          case measure => simp [RowKit.intOf]; omega
    · obtain rfl : i = n := by omega
      go_wp2_with fail
      obtain ⟨wo, rfl⟩ : ∃ wo : World, wo = wr := ⟨_, rfl⟩
      go_loopw [85] (fun vk wr => ∃ j st raw X R, j ≤ K ∧ vk = .int .i64 (j : Nat) ∧ WOk st raw ∧ Have w1 wr g (wM i (i + j) st raw) X R) (fun vk _ => K - (RowKit.intOf vk).toNat)
      case atStart => exact ⟨0, st, raw, X, R, by omega, rfl, HOK.out, HH.out⟩
      case round =>
        obtain ⟨j, st2, raw2, X4, R4, hj, rfl, hok, hh⟩ := hrel
        have H4 := Lib.hid hh
        have HOK4 := Lib.hid hok
        clear hh hok
        by_cases hlt : j < K
        · have hlt1 : ((j : Int) + 1 ≤ K) := by omega
          go_wp2_with fail
          refine (HRAW.out _ j (by omega)).mono ?_
          rintro e w5 ⟨rfl, hb5⟩
          obtain ⟨rr, hrr⟩ : ∃ rr, rr = rawR (j : Int) false := ⟨_, rfl⟩
          have hrl : rr.length = 2352 := by rw [hrr]; exact rawN_len _
          rw [← hrr]
          have H5 := Lib.hid (H4.out.below hb5)
          have HRL := Lib.hid hrl
          clear hb5 hrr hrl
          go_wp2_with fail
          refine (record12 H5.out.m (wM_ok hn0 hnl (by omega) HOK4.out) (by omega) 1 rr (by rw [HRL.out]; omega)).mono ?_
          rintro e w6 hw
          rw [wM_fail HRL.out (by omega)] at hw
          obtain ⟨rfl, X6, R6, h6, _⟩ := hw.have_ H5.out
          have H6 := Lib.hid h6
          have HOK6 := Lib.hid (wM_ok (n := i) (c := i + j + 1) (st := 3) (raw := []) hn0 hnl (by omega) (.inr (.inr ⟨rfl, rfl⟩)))
          clear h6 hw
          go_wp2_with fail
          refine (state12 H6.out.m HOK6.out.n.2 1).mono ?_
          rw [wM_state]
          rintro e w7 ⟨rfl, hb7⟩
          have H7 := Lib.hid (H6.out.below hb7)
          clear hb7
          go_wp2_with fail
          refine (read12 H7.out.m HOK6.out 1).mono ?_
          rw [wM_read3]
          rintro e w8 ⟨v8, rfl, ho8, hb8⟩
          have H8 := Lib.hid (H7.out.below hb8)
          clear ho8 hb8
          go_wp2_with fail
          refine (erase12 H8.out.m HOK6.out 1).mono ?_
          rintro e w9 hw
          rw [wM_erase3] at hw
          obtain ⟨rfl, X9, R9, h9, _⟩ := hw.have_ H8.out
          have H9 := Lib.hid h9
          clear h9 hw
          go_wp2_with fail
          go_roundw
          case rel => exact ⟨j + 1, 3, [], X9, R9, by omega, by go_num, .inr (.inr ⟨rfl, rfl⟩), H9.out⟩
          case measure => simp [RowKit.intOf]; omega
        · go_wp2_with fail
          refine (state12 H4.out.m (by rw [wM_n]; omega) 0).mono ?_
          rw [wM_state0]
          rintro e w7 ⟨rfl, hb7⟩
          have HF := Lib.hid (HB1.out.trans ((H4.out.below hb7).b.mono HB1.out.size))
          clear hb7
          go_wp2_with fail
          go_ret
          exact ⟨rfl, HF.out⟩
end Go.Proofs.Ytpncjadhpnapnaa.D12
