/- Chapter 12: a sector that is not damaged is read as it was recorded; MediumWears. -/
import Derived.Test.YtpncjadhpnapnaaGg
namespace Go.Proofs.Ytpncjadhpnapnaa.D12
open Go.RowKit Go.Maps C9
open D13 (RdI ixI is)
set_option linter.unusedVariables false

theorem lostL_nil (n : Nat) : lostL n [] = [] := lostN_none (fun f => by
  have : ersK [] f 28 = [] := by simp [ersK, gon]
  rw [ers, this]; decide) _
theorem lostP_nil (n i k : Nat) : lostP n [] i k = false := by unfold lostP; rw [lostL_nil]; simp
theorem gone_none {M : Med} {i : Nat} (h : ∀ k, k < 2352 → M.goneP i k = false) : M.gone i = [] := by
  rw [List.eq_nil_iff_forall_not_mem]
  intro z hz
  obtain ⟨k, h1, h2, _⟩ := (mem_gone _ _ _).1 hz
  rw [h k h1] at h2; cases h2
theorem out_plain {M : Med} {i : Nat} (h : ∀ k, k < 2352 → M.goneP i k = false) (hc : ∀ k, (M.sec i).ch k = 0) (hr : (M.sec i).raw.length = 2352) : M.out i = (M.sec i).raw := by
  unfold Med.out
  apply List.ext_getElem?
  intro k
  by_cases hk : k < 2352
  · rw [List.getElem?_map, List.getElem?_range hk, Option.map_some, h k hk, if_neg (by decide), hc, List.getElem?_eq_getElem (by omega)]
    simp [byteA, atD, show k < (M.sec i).raw.length by omega]
  · rw [List.getElem?_eq_none (by simpa using hk), List.getElem?_eq_none (by omega)]
/-- the medium of MediumWears -/
def wM (n c st : Nat) (raw : List UInt8) : Med := ⟨2, n, [blank, ⟨st, c, raw, fun _ => false, fun _ => 0⟩], []⟩
theorem wM_n (n c st : Nat) (raw : List UInt8) : (wM n c st raw).n = 2 := rfl
theorem blank_ok (N : Nat) : Sec.Ok blank N := ⟨by decide, Nat.zero_le _, by simp [blank], by simp [blank], by simp [blank], by simp [blank]⟩
def WOk (st : Nat) (raw : List UInt8) : Prop := (st = 0 ∧ raw = []) ∨ (st = 1 ∧ raw.length = 2352) ∨ (st = 3 ∧ raw = [])
theorem wM_ok {n c st : Nat} {raw : List UInt8} (h1 : 1 ≤ n) (h2 : n ≤ 20) (hc : c ≤ 100) (h : WOk st raw) : (wM n c st raw).Ok 100 := by
  refine ⟨Nat.le_refl 2, ⟨h1, by show n ≤ _; omega⟩, ⟨by rw [wM_n]; omega, by rw [wM_n]; omega⟩, fun i hi => ?_, by simp [wM], by simp [wM, fitA]⟩
  have hi2 : i < 2 := hi
  rcases i with _ | _ | i
  · exact blank_ok 100
  · show Sec.Ok ⟨st, c, raw, fun _ => false, fun _ => 0⟩ 100
    unfold WOk at h
    rcases h with ⟨rfl, rfl⟩ | ⟨rfl, h⟩ | ⟨rfl, rfl⟩
    · exact ⟨by simp, hc, by simp, by simp, by simp, by simp⟩
    · exact ⟨by simp, hc, fun _ => h, by simp only; omega, by simp, by simp⟩
    · exact ⟨by simp, hc, by simp, by simp, by simp, by simp⟩
  · omega
theorem wM_record {n c st : Nat} {raw raw2 : List UInt8} (hr : raw2.length = 2352) (hc : c + 1 ≤ n) : (wM n c st raw).record 1 raw2 = (0, wM n (c + 1) 1 raw2) :=
  (Med.record_rw (M := wM n c st raw) (i := 1) (by rw [wM_n]; omega) (.inl rfl) hr hc).trans rfl
theorem wM_fail {n c st : Nat} {raw raw2 : List UInt8} (hr : raw2.length = 2352) (hc : n < c + 1) : (wM n c st raw).record 1 raw2 = (16, wM n (c + 1) 3 []) :=
  (Med.record_worn (M := wM n c st raw) (i := 1) (by rw [wM_n]; omega) rfl hr hc).trans rfl
theorem wM_goneP (n c st : Nat) (raw : List UInt8) (k : Nat) : (wM n c st raw).goneP 1 k = false := by
  unfold Med.goneP
  rw [show (wM n c st raw).scr = [] from rfl, lostP_nil]
  rfl
theorem wM_read {n c : Nat} {raw : List UInt8} (hr : raw.length = 2352) : (wM n c 1 raw).readR 1 = (raw, [], 0) := by
  unfold Med.readR
  rw [if_pos ⟨by omega, by rw [wM_n]; omega⟩, if_neg (show ¬ ((wM n c 1 raw).sec (1 : Int).toNat).st = 0 from fun h => by cases h), if_pos (show ((wM n c 1 raw).sec (1 : Int).toNat).st = 1 from rfl)]
  rw [show (1 : Int).toNat = 1 from rfl, gone_none (fun k _ => wM_goneP n c 1 raw k), out_plain (fun k _ => wM_goneP n c 1 raw k) (fun _ => rfl) hr]
  rfl
theorem wM_read3 (n c : Nat) : (wM n c 3 []).readR 1 = ([], [], 9) := rfl
theorem wM_erase (n c : Nat) (raw : List UInt8) : (wM n c 1 raw).erase 1 = (0, wM n c 0 []) := rfl
theorem wM_erase3 (n c : Nat) : (wM n c 3 []).erase 1 = (16, wM n c 3 []) := rfl
theorem wM_state (n c : Nat) : (wM n c 3 []).stateR 1 = (3, 0) := rfl
theorem wM_state0 (n c st : Nat) (raw : List UInt8) : (wM n c st raw).stateR 0 = (0, 0) := rfl
theorem rawN_len (b : Int) : (rawR b false).length = 2352 := by rw [rawR_length]; rfl
theorem u8_wf {a : Int} (h : (Lit.int .u8 a).wf = true) : 0 ≤ a ∧ a ≤ 255 := by simpa [Lit.wf, IntKind.min, IntKind.max, IntKind.signed, IntKind.bits] using h
set_option maxRecDepth 100000 in
set_option maxHeartbeats 4000000 in
theorem wears_law (w : World) (a : Int) (ha : (Lit.int .u8 a).wf = true) (b : Int) (hb : (Lit.int .u8 b).wf = true) (er : Bool) :
    Calls Try.prog 4 #[.int .u8 a, .int .u8 b, .bool er] w fun e w' => e = .returned (.bool true) ∧ Below w.heap.size w w' := by
  obtain ⟨ha0, ha1⟩ := u8_wf ha
  obtain ⟨hb0, hb1⟩ := u8_wf hb
  clear ha hb
  obtain ⟨x, rfl⟩ : ∃ x : Nat, a = x := ⟨a.toNat, by omega⟩
  obtain ⟨y, rfl⟩ : ∃ y : Nat, b = y := ⟨b.toNat, by omega⟩
  have HAW := Lib.hid (awake12 w)
  have HNEW := Lib.hid (fun W (n : Nat) (h : 1 ≤ n ∧ n ≤ 20) => new12 2 2 (n : Nat) (by unfold newOk; omega) W)
  have HRAW := Lib.hid (fun (W : World) (k : Nat) (hk : k ≤ 100) => raw12 0 0 (k : Nat) false (.slice none 0 0) (.slice none 0 0) (.slice none 0 0) ⟨0, [], []⟩ (by unfold In64; omega) W)
  obtain ⟨n, hn⟩ : ∃ n : Nat, n = 1 + x % 20 := ⟨_, rfl⟩
  obtain ⟨K, hK⟩ : ∃ K : Nat, K = 1 + y % 4 := ⟨_, rfl⟩
  have hn1 : (1 : Int) + (x : Int) % 20 = (n : Int) := by omega
  have hK1 : (1 : Int) + (y : Int) % 4 = (K : Int) := by omega
  have hnb : 1 ≤ n ∧ n ≤ 20 := by omega
  have hKb : 1 ≤ K ∧ K ≤ 4 := by omega
  clear hn hK
  go_enter Try.func4, Try.ntmps4
  go_wp2_with fail
  refine HAW.out.mono ?_
  rintro e w1 ⟨rfl, hb1'⟩
  have HB1 := Lib.hid hb1'
  clear hb1'
  go_wp2_with fail
  refine (HNEW.out _ n hnb).mono ?_
  rintro e w2 hw
  obtain ⟨g, X2, R2, rfl, h2⟩ := hw.have_
  rw [show (2 : Int).toNat = 2 from rfl, Int.toNat_natCast] at h2
  have H2 : Hid (Have w1 w2 g (wM n 0 0 []) X2 R2) := Lib.hid h2
  have HNB := Lib.hid hnb
  have hnl : n ≤ 20 := hnb.2
  have hn0 : 1 ≤ n := hnb.1
  clear h2 hw hn1 hnb
  go_wp2_with fail
  go_loopw [40] (fun vk wr => ∃ i st raw X R, i ≤ n ∧ vk = .int .i64 (i : Nat) ∧ WOk st raw ∧ Have w1 wr g (wM n i st raw) X R) (fun vk _ => n - (RowKit.intOf vk).toNat)
  case atStart => exact ⟨0, 0, [], X2, R2, by omega, rfl, .inl ⟨rfl, rfl⟩, H2.out⟩
  case round =>
    obtain ⟨i, st, raw, X, R, hi, rfl, hok, hh⟩ := hrel
    have HH := Lib.hid hh
    have HOK := Lib.hid hok
    clear hh hok
    by_cases hlt : i < n
    · have hlt1 : ((i : Int) + 1 ≤ n) := by omega
      go_wp2_with fail
      refine (HRAW.out _ i (by omega)).mono ?_
      rintro e w3 ⟨rfl, hb3⟩
      obtain ⟨rr, hrr⟩ : ∃ rr, rr = rawR (i : Int) false := ⟨_, rfl⟩
      have hrl : rr.length = 2352 := by rw [hrr]; exact rawN_len _
      rw [← hrr]
      have H3 := Lib.hid (HH.out.below hb3)
      have HRL := Lib.hid hrl
      clear hb3 hrr hrl
      go_wp2_with fail
      refine (record12 H3.out.m (wM_ok hn0 hnl (by omega) HOK.out) (by omega) 1 rr (by rw [HRL.out]; omega)).mono ?_
      rintro e w4 hw
      rw [wM_record HRL.out (by omega)] at hw
      obtain ⟨rfl, X4, R4, h4, _⟩ := hw.have_ H3.out
      have H4 := Lib.hid h4
      clear h4 hw
      go_wp2_with fail
      refine (read12 H4.out.m (wM_ok hn0 hnl (by omega) (.inr (.inl ⟨rfl, HRL.out⟩))) 1).mono ?_
      rw [wM_read HRL.out]
      rintro e w5 ⟨v5, rfl, ho5, hb5⟩
      obtain ⟨a5, c5, rfl⟩ := ownD_form ho5
      have H5 := Lib.hid (H4.out.below hb5)
      clear ho5 hb5
      simp only [List.length_nil]
      by_cases her : er = true ∧ i < n - 1
      · obtain ⟨he1, he2⟩ := her
        have hq : decide ((i : Int) < (n : Int) - 1) = true := decide_eq_true (by omega)
        clear he2
        subst he1
        go_wp2_with fail
        refine (erase12 H5.out.m (wM_ok hn0 hnl (by omega) (.inr (.inl ⟨rfl, HRL.out⟩))) 1).mono ?_
        rintro e w6 hw
        rw [wM_erase] at hw
        obtain ⟨rfl, X6, R6, h6, _⟩ := hw.have_ H5.out
        have H6 := Lib.hid h6
        clear h6 hw
        go_wp2_with fail
        go_roundw
        case rel => exact ⟨i + 1, 0, [], X6, R6, by omega, by go_num, .inl ⟨rfl, rfl⟩, H6.out⟩
        case measure => simp [RowKit.intOf]; omega
      · have HE : Hid (er = false ∨ ¬ i < n - 1) := Lib.hid (by cases er <;> simp_all)
        clear her
        cases er with
        | false =>
          go_wp2_with fail
          go_roundw
          case rel => exact ⟨i + 1, 1, rr, X4, R4, by omega, by go_num, .inr (.inl ⟨rfl, HRL.out⟩), H5.out⟩
          case measure => simp [RowKit.intOf]; omega
        | true =>
          have hq : decide ((i : Int) < (n : Int) - 1) = false := decide_eq_false (by have := HE.out; simp at this; omega)
          go_wp2_with fail
          go_roundw
          case rel => exact ⟨i + 1, 1, rr, X4, R4, by omega, by go_num, .inr (.inl ⟨rfl, HRL.out⟩), H5.out⟩
          case measure => simp [RowKit.intOf]; omega
    · obtain rfl : i = n := by omega
      go_wp2_with fail
      obtain ⟨wo, rfl⟩ : ∃ wo : World, wo = wr := ⟨_, rfl⟩
      go_loopw [85] (fun vk wr => ∃ j st raw X R, j ≤ K ∧ vk = .int .i64 (j : Nat) ∧ WOk st raw ∧ Have w1 wr g (wM i (i + j) st raw) X R) (fun vk _ => K - (RowKit.intOf vk).toNat)
      case atStart => exact ⟨0, st, raw, X, R, by omega, rfl, HOK.out, HH.out⟩
      case round =>
        obtain ⟨j, st2, raw2, X4, R4, hj, rfl, hok, hh⟩ := hrel
        have H4 := Lib.hid hh
        have HOK4 := Lib.hid hok
        clear hh hok
        by_cases hlt : j < K
        · have hlt1 : ((j : Int) + 1 ≤ K) := by omega
          go_wp2_with fail
          refine (HRAW.out _ j (by omega)).mono ?_
          rintro e w5 ⟨rfl, hb5⟩
          obtain ⟨rr, hrr⟩ : ∃ rr, rr = rawR (j : Int) false := ⟨_, rfl⟩
          have hrl : rr.length = 2352 := by rw [hrr]; exact rawN_len _
          rw [← hrr]
          have H5 := Lib.hid (H4.out.below hb5)
          have HRL := Lib.hid hrl
          clear hb5 hrr hrl
          go_wp2_with fail
          refine (record12 H5.out.m (wM_ok hn0 hnl (by omega) HOK4.out) (by omega) 1 rr (by rw [HRL.out]; omega)).mono ?_
          rintro e w6 hw
          rw [wM_fail HRL.out (by omega)] at hw
          obtain ⟨rfl, X6, R6, h6, _⟩ := hw.have_ H5.out
          have H6 := Lib.hid h6
          have HOK6 := Lib.hid (wM_ok (n := i) (c := i + j + 1) (st := 3) (raw := []) hn0 hnl (by omega) (.inr (.inr ⟨rfl, rfl⟩)))
          clear h6 hw
          go_wp2_with fail
          refine (state12 H6.out.m HOK6.out.n.2 1).mono ?_
          rw [wM_state]
          rintro e w7 ⟨rfl, hb7⟩
          have H7 := Lib.hid (H6.out.below hb7)
          clear hb7
          go_wp2_with fail
          refine (read12 H7.out.m HOK6.out 1).mono ?_
          rw [wM_read3]
          rintro e w8 ⟨v8, rfl, ho8, hb8⟩
          have H8 := Lib.hid (H7.out.below hb8)
          clear ho8 hb8
          go_wp2_with fail
          refine (erase12 H8.out.m HOK6.out 1).mono ?_
          rintro e w9 hw
          rw [wM_erase3] at hw
          obtain ⟨rfl, X9, R9, h9, _⟩ := hw.have_ H8.out
          have H9 := Lib.hid h9
          clear h9 hw
          go_wp2_with fail
          go_roundw
          case rel => exact ⟨j + 1, 3, [], X9, R9, by omega, by go_num, .inr (.inr ⟨rfl, rfl⟩), H9.out⟩
          case measure => simp [RowKit.intOf]; omega
        · go_wp2_with fail
          refine (state12 H4.out.m (by rw [wM_n]; omega) 0).mono ?_
          rw [wM_state0]
          rintro e w7 ⟨rfl, hb7⟩
          have HF := Lib.hid (HB1.out.trans ((H4.out.below hb7).b.mono HB1.out.size))
          clear hb7
          go_wp2_with fail
          go_ret
          exact ⟨rfl, HF.out⟩
end Go.Proofs.Ytpncjadhpnapnaa.D12
