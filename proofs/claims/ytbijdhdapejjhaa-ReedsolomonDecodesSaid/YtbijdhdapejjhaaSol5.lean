/- Walks of search, Fill, Decode, Few of the reference of chapter 4, and of the law ReedsolomonDecodes. -/
import Derived.Test.YtbijdhdapejjhaaSol4
import Derived.Test.YtbijdhdapejjhaaAw4
import Derived.Test.YtbijdhdapejjhaaOpenI
namespace Go.Proofs.Ytbijdhdapejjhaa
open Go.RowKit
set_option linter.unusedVariables false

def SearchOut (p : List UInt8) (n : Nat) (l : List Int) (fr : Nat) (k : Nat) (w : World) (e : Ending) (w' : World) : Prop :=
  ((∃ c, e = .returned (.tuple #[.string (str c), .bool true]) ∧ G.Found p c n l k fr) ∨ (e = .returned (.tuple #[.string (str []), .bool false]) ∧ ∀ c, ¬ G.Found p c n l k fr)) ∧ Below w.heap.size w w'

set_option maxRecDepth 100000 in
set_option maxHeartbeats 4000000 in
theorem search_any (p : List UInt8) (n : Nat) (h : G.shapedB p n = true) : ∀ (k : Nat) (ve : Value) (l : List Int) (fr : Nat) (w : World), RdI w ve l → G.posB p.length l = true → l.length + k ≤ n → fr ≤ p.length →
    Calls Try.prog 49 #[.string (str p), .int .i64 n, ve, .int .i64 fr, .int .i64 k] w (SearchOut p n l fr k w)
  | 0, ve, l, fr, w, hv, hp, hl, hfr => by
    obtain ⟨_, ⟨va, vc, b, off, rfl, hcap, hcell⟩, hrng⟩ := id hv
    clear hcell hrng
    have HP := Lib.hid hp; clear hp
    have HSh := Lib.hid h; clear h
    go_enter Try.func49, Try.ntmps49
    go_wp2_with fail
    refine (solve_any p n _ l _ HSh.out hv HP.out (by omega)).mono ?_
    rintro e w1 ⟨⟨c, rfl, hc⟩ | ⟨rfl, hc⟩, hb⟩
    · have HC := Lib.hid (G.Found.zero (fr := fr) |>.2 hc); clear hc
      go_wp2_with fail
      go_ret2
      exact ⟨.inl ⟨c, rfl, HC.out⟩, hb⟩
    · have HC : Hid (∀ c, ¬ G.Found p c n l 0 fr) := Lib.hid (fun c hf => hc c (G.Found.zero.1 hf)); clear hc
      go_wp2_with fail
      go_ret2
      exact ⟨.inr ⟨rfl, HC.out⟩, hb⟩
  | k + 1, ve, l, fr, w, hv, hp, hl, hfr => by
    obtain ⟨h1, h2, h3, h4, h5⟩ := (G.shapedB_iff p n).1 h
    have hs := str_size p
    obtain ⟨_, ⟨va, vc, b, off, rfl, hcap, hcell⟩, hrng⟩ := id hv
    clear hcell hrng
    have HP := Lib.hid hp; clear hp
    have IH := Lib.hid (search_any p n h k)
    have HSh := Lib.hid h; clear h
    obtain ⟨N, hN⟩ : ∃ N, N = p.length := ⟨_, rfl⟩
    rw [← hN] at hs h1 h2 h5 hfr
    have HN := Lib.hid hN; clear hN
    have hk0 : (((k : Int) + 1) == 0) = false := by rw [beq_eq_false_iff_ne]; omega
    have hk1 : (k : Int) + 1 - 1 = k := by omega
    go_enter Try.func49, Try.ntmps49
    go_wp2_with fail
    go_loopw [12, 13, 14] (fun vi _ _ wr => ∃ i : Nat, fr ≤ i ∧ i ≤ N ∧ vi = .int .i64 i ∧ Hid (∀ j, fr ≤ j → j < i → (j : Int) ∉ l → ∀ c, ¬ G.Found p c n (G.mg l j) k (j + 1)) ∧ Below w.heap.size w wr) (fun vi _ _ _ => N - (intOf vi).toNat)
    case atStart => exact ⟨fr, by omega, hfr, rfl, Lib.hid (fun j h8 h9 => by omega), Below.refl _ _⟩
    case round =>
      obtain ⟨i, hfi, hiN, rfl, HI, hb⟩ := hrel
      by_cases hlt : i < N
      · have hv' := hv.keep hb
        have hbs := hb.size
        go_wp2_with fail
        refine (rcontains_any _ l _ _ hv').mono ?_
        rintro e w' ⟨rfl, rfl⟩
        cases hct : G.cont l (i : Int) with
        | true =>
          have Hct : Hid ((i : Int) ∈ l) := Lib.hid ((G.cont_iff _ _).1 hct); clear hct
          go_wp2_with fail
          refine ⟨?_, ?measure⟩
          (repeat apply Exists.intro)
          refine ⟨?rel, rfl⟩
          case rel =>
            refine ⟨i + 1, by omega, by omega, by go_num, Lib.hid (fun j h8 h9 h10 => ?_), hb⟩
            by_cases e : j = i
            · exact absurd (by rw [e]; exact Hct.out) h10
            · exact HI.out j h8 (by omega) h10
          case measure => simp [intOf]; omega
        | false =>
          have hni : (i : Int) ∉ l := fun h8 => by rw [(G.cont_iff _ _).2 h8] at hct; cases hct
          clear hct
          have HMp : Hid (G.posB p.length (G.mg l i) = true) := Lib.hid (G.mg_pos HP.out hni (by omega) (by rw [← HN.out]; omega))
          have hml := G.mg_length l i
          have HNi := Lib.hid hni; clear hni
          go_wp2_with fail
          refine (merged_any _ l (i : Int) _ hv' (by omega) (by omega) (by omega)).mono ?_
          rintro e w2 ⟨v2, rfl, hv2, hb2⟩
          have hB2 := hb.trans (hb2.mono hbs)
          clear hv' hb hb2
          obtain ⟨_, ⟨a2, c2, _, _, rfl, _, _⟩, _⟩ := id hv2
          rw [hml] at hv2 ⊢
          have HMl := Lib.hid hml; clear hml
          have hc2 := IH.out _ (G.mg l i) (i + 1) w2 hv2 HMp.out (by rw [HMl.out]; omega) (by rw [← HN.out]; omega)
          have HC2 := Lib.hid hc2; clear hc2
          go_wp2_with fail
          refine (show Calls Try.prog 49 _ w2 _ from HC2.out).mono ?_
          rintro e w3 ⟨⟨c, rfl, hc⟩ | ⟨rfl, hc⟩, hb3⟩
          · have HCf : Hid (G.Found p c n l (k + 1) fr) := Lib.hid (G.Found.step hfi (by rw [← HN.out]; exact hlt) HNi.out hc)
            clear hc
            have hB3 := hB2.trans (hb3.mono hB2.size)
            go_wp2_with fail
            go_ret2
            exact ⟨.inl ⟨c, rfl, HCf.out⟩, hB3⟩
          · have HCn := Lib.hid hc; clear hc
            have hB3 := hB2.trans (hb3.mono hB2.size)
            go_wp2_with fail
            refine ⟨?_, ?measure⟩
            (repeat apply Exists.intro)
            refine ⟨?rel, rfl⟩
            case rel =>
              refine ⟨i + 1, by omega, by omega, by go_num, Lib.hid (fun j h8 h9 h10 => ?_), hB3⟩
              by_cases e : j = i
              · rw [e]; exact HCn.out
              · exact HI.out j h8 (by omega) h10
            case measure => simp [intOf]; omega
      · obtain rfl : i = N := by omega
        have HNo : Hid (∀ c, ¬ G.Found p c n l (k + 1) fr) := Lib.hid (fun c hf => by
          obtain ⟨j, g1, g2, g3, g4⟩ := hf.split
          exact HI.out j g1 (by rw [HN.out]; exact g2) g3 c g4)
        go_wp2_with fail
        go_ret2
        exact ⟨.inr ⟨rfl, HNo.out⟩, hb⟩

/-- the reference's Fill -/
theorem rfill_any (p : List UInt8) (n : Int) (ve : Value) (l : List Int) (w : World) (hp : p.length ≤ 9223372036854775807) (hv : RdI w ve l) :
    Calls Try.prog 25 #[.string (str p), .int .i64 n, ve] w fun e w' => e = .returned (.tuple #[.string (str (G.fill p n l).1), .int .i64 (G.fill p n l).2]) ∧ Below w.heap.size w w' := by
  have hs := str_size p
  have hll := hv.1
  obtain ⟨_, ⟨va, vc, b, off, rfl, hcap, hcell⟩, hrng⟩ := id hv
  clear hcell hrng
  cases h : G.shapedB p n with
  | false =>
    have HF : Hid (G.fill p n l = ([], 1)) := Lib.hid (by unfold G.fill; rw [if_pos h])
    have H := Lib.hid h; clear h
    go_enter Try.func25, Try.ntmps25
    go_wp2_with fail
    refine (fits_any p n _ hp).mono ?_
    rintro e w' ⟨rfl, rfl⟩
    rw [H.out]
    go_wp2_with fail
    go_ret2
    rw [HF.out]
    exact ⟨rfl, Below.refl _ _⟩
  | true =>
    obtain ⟨h1, h2, h3, h4, h5⟩ := (G.shapedB_iff p n).1 h
    obtain ⟨m, rfl⟩ : ∃ m : Nat, n = m := ⟨n.toNat, by omega⟩
    cases hq : G.posB p.length l with
    | false =>
      have HF : Hid (G.fill p m l = ([], 1)) := Lib.hid (by unfold G.fill; rw [if_neg (by simp [h]), if_pos hq])
      have H := Lib.hid h; clear h
      have HQ := Lib.hid hq; clear hq
      go_enter Try.func25, Try.ntmps25
      go_wp2_with fail
      refine (fits_any p m _ hp).mono ?_
      rintro e w' ⟨rfl, rfl⟩
      rw [H.out]
      go_wp2_with fail
      refine (positions_any (str p) p.length _ l _ hs hp hv).mono ?_
      rintro e w1 ⟨rfl, hb1⟩
      rw [HQ.out]
      go_wp2_with fail
      go_ret2
      rw [HF.out]
      exact ⟨rfl, hb1⟩
    | true =>
      by_cases hlm : m < l.length
      · have HF : Hid (G.fill p m l = ([], 11)) := Lib.hid (by unfold G.fill; rw [if_neg (by simp [h]), if_neg (by simp [hq]), if_pos (by omega)])
        have H := Lib.hid h; clear h
        have HQ := Lib.hid hq; clear hq
        have hd : decide ((m : Int) < l.length) = true := by rw [decide_eq_true_eq]; omega
        go_enter Try.func25, Try.ntmps25
        go_wp2_with fail
        refine (fits_any p m _ hp).mono ?_
        rintro e w' ⟨rfl, rfl⟩
        rw [H.out]
        go_wp2_with fail
        refine (positions_any (str p) p.length _ l _ hs hp hv).mono ?_
        rintro e w1 ⟨rfl, hb1⟩
        rw [HQ.out]
        go_wp2_with fail
        go_ret2
        rw [HF.out]
        exact ⟨rfl, hb1⟩
      · have HFn : Hid (∀ c, G.Near p c m l → G.fill p m l = (c, 0)) := Lib.hid (fun c hc => G.fill_near hq (by omega) hc)
        have HF0 : Hid ((∀ c, ¬ G.Near p c m l) → G.fill p m l = ([], 11)) := Lib.hid (fun hc => G.fill_none h hq hc)
        have H := Lib.hid h; clear h
        have HQ := Lib.hid hq; clear hq
        have hd : decide ((m : Int) < l.length) = false := by rw [decide_eq_false_iff_not]; omega
        go_enter Try.func25, Try.ntmps25
        go_wp2_with fail
        refine (fits_any p m _ hp).mono ?_
        rintro e w' ⟨rfl, rfl⟩
        rw [H.out]
        go_wp2_with fail
        refine (positions_any (str p) p.length _ l _ hs hp hv).mono ?_
        rintro e w1 ⟨rfl, hb1⟩
        rw [HQ.out]
        go_wp2_with fail
        refine (solve_any p m _ l _ H.out (hv.keep hb1) HQ.out (by omega)).mono ?_
        rintro e w2 ⟨⟨c, rfl, hc⟩ | ⟨rfl, hc⟩, hb2⟩
        · have HF := Lib.hid (HFn.out c hc); clear hc
          have hB2 := hb1.trans (hb2.mono hb1.size)
          go_wp2_with fail
          go_ret2
          rw [HF.out]
          exact ⟨rfl, hB2⟩
        · have HF := Lib.hid (HF0.out hc); clear hc
          have hB2 := hb1.trans (hb2.mono hb1.size)
          go_wp2_with fail
          go_ret2
          rw [HF.out]
          exact ⟨rfl, hB2⟩
end Go.Proofs.Ytbijdhdapejjhaa
