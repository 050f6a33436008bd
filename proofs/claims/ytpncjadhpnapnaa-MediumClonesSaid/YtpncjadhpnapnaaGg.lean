/- Chapter 12: awake walked. -/
import Derived.Test.YtpncjadhpnapnaaGe
namespace Go.Proofs.Ytpncjadhpnapnaa.D12
open Go.RowKit Go.Maps C9
open D13 (RdI ixI is)
set_option linter.unusedVariables false

theorem cameSc_one {W : World} (x : Sc) (hx : Wf x) {g : Nat} (hb : Bx W g 36 (scc x)) : CameSc W (.slice (some ⟨g, 0, none⟩) 1 1) [x] :=
  ⟨⟨some ⟨g, 0, none⟩, 1, g, 0, rfl, Nat.le_refl _, fun i hi => ⟨rfl, fun j u hu => by
    obtain rfl : i = 0 := by simp at hi; omega
    rw [Nat.zero_mul, Nat.zero_add]
    exact hb.cell hu⟩⟩, fun i hi => by
    obtain rfl : i = 0 := by simp at hi; omega
    exact hx, by simp⟩
theorem rdI_five {W : World} {g : Nat} (hb : Bx W g 3 (is [0, 1, 2, 3, 4])) : RdI W (.slice (some ⟨g, 0, none⟩) 5 5) [0, 1, 2, 3, 4] :=
  ⟨by decide, ⟨_, _, g, 0, rfl, Nat.le_refl _, fun i hi => ⟨rfl, hb.cell (by rw [Nat.zero_add]; exact D13.is_get hi)⟩⟩, fun i hi => by
    have : i = 0 ∨ i = 1 ∨ i = 2 ∨ i = 3 ∨ i = 4 := by simp at hi; omega
    rcases this with rfl | rfl | rfl | rfl | rfl <;> decide⟩
set_option maxRecDepth 100000 in
set_option maxHeartbeats 4000000 in
theorem awake12 (w : World) : Calls Try.prog 8 #[] w fun e w' => e = .returned (.bool true) ∧ Below w.heap.size w w' := by
  have HNEW := Lib.hid (new12 2 2 2 (by unfold newOk; omega) w)
  have HREP := Lib.hid (fun W => repeat12 115 2352 (by omega) W)
  obtain ⟨S, hS⟩ : ∃ S, S = str exS := ⟨_, rfl⟩
  have HS := Lib.hid hS
  have hsz : S.size = 2352 := by rw [hS, str_size, exS_len]
  have HREC := Lib.hid (fun (W : World) (g : Nat) (M : Med) (X R : Nat → Prop) (h : Have w W g M X R) (ho : M.Ok 10) (a : Int) => record12 h.m ho (by omega) a exS (by rw [exS_len]; omega))
  rw [← hS] at HREC
  change Hid (∀ W, Calls Try.prog 9 #[.string ⟨#[115]⟩, .int .i64 2352] W fun e w' => e = .returned (.string (str exS)) ∧ Below W.heap.size W w') at HREP
  rw [← hS] at HREP
  have o1 := ok_new2.mono (show 0 ≤ 10 by omega)
  have HO1 := Lib.hid o1
  have HO2 : Hid (Med.Ok ⟨2, 2, [⟨1, 1, exS, fun _ => false, fun _ => 0⟩, blank], []⟩ 10) := Lib.hid (by have := (ok_new2.record 0 exS).mono (show 1 ≤ 10 by omega); rwa [ex1] at this)
  have HO3 : Hid (Med.Ok ⟨2, 2, [⟨1, 2, exS, fun _ => false, fun _ => 0⟩, blank], []⟩ 10) := Lib.hid (by have := (((ok_new2.record 0 exS).record 0 exS)).mono (show 2 ≤ 10 by omega); rwa [ex1, ex2] at this)
  have HO4 : Hid (Med.Ok (exM 1 []) 10) := Lib.hid (by have := ((((ok_new2.record 0 exS).record 0 exS)).record 1 exS).mono (show 3 ≤ 10 by omega); rwa [ex1, ex2, ex3] at this)
  have HO5 : Hid (Med.Ok (exM 1 [⟨0, 17⟩]) 10) := Lib.hid (by have := (((((ok_new2.record 0 exS).record 0 exS)).record 1 exS).mono (show 3 ≤ 10 by omega)).scratch [⟨0, 17⟩]; rwa [ex1, ex2, ex3, ex4] at this)
  clear o1 hS
  go_enter Try.func8, Try.ntmps8
  go_wp2_with fail
  refine HNEW.out.mono ?_
  rintro e w1 hn
  obtain ⟨g, X1, R1, rfl, h1⟩ := hn.have_
  have H1 : Hid (Have w w1 g (medNew 2 2 2) X1 R1) := Lib.hid h1
  clear h1 hn
  go_wp2_with fail
  refine (HREP.out _).mono ?_
  rintro e w2 ⟨rfl, hb2⟩
  have H2 := Lib.hid (H1.out.below hb2)
  clear hb2
  go_wp2_with fail
  refine (HREC.out _ _ _ _ _ H2.out HO1.out _).mono ?_
  rintro e w3 hw
  rw [ex1] at hw
  obtain ⟨rfl, X3, R3, h3, _⟩ := hw.have_ H2.out
  have H3 := Lib.hid h3
  clear h3 hw
  go_wp2_with fail
  refine (HREC.out _ _ _ _ _ H3.out HO2.out _).mono ?_
  rintro e w4 hw
  rw [ex2] at hw
  obtain ⟨rfl, X4, R4, h4, _⟩ := hw.have_ H3.out
  have H4 := Lib.hid h4
  clear h4 hw
  go_wp2_with fail
  refine (HREC.out _ _ _ _ _ H4.out HO3.out _).mono ?_
  rintro e w5 hw
  rw [ex3] at hw
  obtain ⟨rfl, X5, R5, h5, _⟩ := hw.have_ H4.out
  have H5 := Lib.hid h5
  clear h5 hw
  go_wp2_with fail
  have hA := (Below.refl w5.heap.size w5).alloc (Nat.le_refl _) (.cells #[.int .i64 0, .int .i64 17] 36)
  have H6 := Lib.hid (H5.out.below hA)
  have hx := Bx.new w5 36 (scc ⟨0, 17⟩)
  have hcm := cameSc_one ⟨0, 17⟩ ⟨⟨by decide, by decide⟩, by decide, by decide⟩ hx
  refine (scratch12 H6.out.m HO4.out _ _ hcm (by simp)).mono ?_
  rintro e w7 hw
  rw [ex4] at hw
  obtain ⟨rfl, X7, R7, h7, _⟩ := hw.have_ H6.out
  have H7 := Lib.hid h7
  clear h7 hw hA hx hcm
  go_wp2_with fail
  refine (read12 H7.out.m HO5.out 0).mono ?_
  rw [ex_read]
  rintro e w8 ⟨v8, rfl, ho8, hb8⟩
  obtain ⟨a8, c8, rfl⟩ := ownD_form ho8
  have H8 := Lib.hid (H7.out.below hb8)
  have HO8 := Lib.hid ho8
  clear ho8 hb8
  have hT : str ([0, 0, 0, 0, 0] ++ exS.drop 5) = (⟨#[0, 0, 0, 0, 0]⟩ : ByteArray) ++ S.extract 5 S.size := by
    rw [HS.out]
    apply ByteArray.ext
    simp [str, ByteArray.size]
    rw [List.take_of_length_le (by simp)]
  simp only
  rw [hT]
  clear hT
  go_wp2_with fail
  have hA := (Below.refl w8.heap.size w8).alloc (Nat.le_refl _) (.cells #[.int .i64 0, .int .i64 1, .int .i64 2, .int .i64 3, .int .i64 4] 3)
  have H9 := Lib.hid (H8.out.below hA)
  have hr1 : RdI (w8.alloc (.cells #[.int .i64 0, .int .i64 1, .int .i64 2, .int .i64 3, .int .i64 4] 3)) (.slice a8 5 c8) [0, 1, 2, 3, 4] := D13.rdI_own (ownD_keep HO8.out hA) rfl (by simp) (by decide)
  have hr2 := rdI_five (Bx.new w8 3 (is [0, 1, 2, 3, 4]))
  refine (equal12 hr1 hr2).mono ?_
  rw [decide_eq_true rfl]
  rintro e w9 ⟨rfl, hb9⟩
  have H10 := Lib.hid (H9.out.below hb9)
  clear hA hr1 hr2 hb9
  go_wp2_with fail
  refine (clean12 H10.out.m HO5.out 1).mono ?_
  rw [ex_clean]
  rintro e w11 ⟨rfl, hb11⟩
  have H11 := Lib.hid (H10.out.below hb11)
  clear hb11
  go_wp2_with fail
  refine (state12 H11.out.m (by decide) 0).mono ?_
  rintro e w12 ⟨rfl, hb12⟩
  rw [ex_state]
  have H12 := Lib.hid (H11.out.below hb12)
  clear hb12
  go_wp2_with fail
  refine (HREC.out _ _ _ _ _ H12.out HO5.out _).mono ?_
  rintro e w13 hw
  have he := hw.1
  rw [ex5] at he
  obtain ⟨_, X13, R13, h13, _⟩ := hw.have_ H12.out
  subst he
  have H13 := Lib.hid h13.b
  clear h13 hw
  go_wp2_with fail
  go_ret
  exact ⟨rfl, H13.out⟩
end Go.Proofs.Ytpncjadhpnapnaa.D12
