/- Walks of Few and of Decode of the reference of chapter 4. -/
import Derived.Test.YtbijdhdapejjhaaSol5
import Derived.Test.YtbijdhdapejjhaaDecW
namespace Go.Proofs.Ytbijdhdapejjhaa
open Go.RowKit
set_option linter.unusedVariables false

theorem allN_swap (a b : List UInt8) : ∀ k, G.allN a b k = G.allN b a k
  | 0 => rfl
  | k + 1 => by
    rw [G.allN, G.allN, allN_swap a b k]
    congr 1
    by_cases h : G.ix a k = G.ix b k
    · rw [if_pos h, if_pos h.symm]
    · rw [if_neg h, if_neg (fun e => h e.symm)]

def FewOut (m : Nat) (w : World) (e : Ending) (w' : World) : Prop := ∃ b, e = .returned (.bool b) ∧ (b = true → m ≤ 20) ∧ w = w'
set_option maxHeartbeats 2000000 in
theorem few_any (p : List UInt8) (n : Int) (va : Option Addr) (vc m : Nat) (w : World) (hp : p.length ≤ 9223372036854775807) (hl : m ≤ 9223372036854775807) :
    Calls Try.prog 23 #[.string (str p), .int .i64 n, .slice va m vc] w (FewOut m w) := by
  have hs := str_size p
  go_enter Try.func23, Try.ntmps23
  go_wp2_with fail
  all_goals go_ret
  all_goals refine ⟨_, rfl, ?_, rfl⟩
  all_goals intro h; first | exact absurd h (by decide) | (have h9 := of_decide_eq_true h; omega) | (simp at h; omega)

set_option maxRecDepth 100000 in
set_option maxHeartbeats 4000000 in
theorem rdecode_any (p : List UInt8) (n : Int) (ve : Value) (l : List Int) (w : World) (hp : p.length ≤ 9223372036854775807) (hv : RdI w ve l) :
    Calls Try.prog 26 #[.string (str p), .int .i64 n, ve] w fun e w' => e = .returned (.tuple #[.string (str (G.decode p n l).1), .int .i64 (G.decode p n l).2.1, .int .i64 (G.decode p n l).2.2]) ∧ Below w.heap.size w w' := by
  have hs := str_size p
  have hll := hv.1
  obtain ⟨_, ⟨va, vc, b, off, rfl, hcap, hcell⟩, hrng⟩ := id hv
  clear hcell hrng
  cases h : G.shapedB p n with
  | false =>
    have HF : Hid (G.decode p n l = ([], 0, 1)) := Lib.hid (by unfold G.decode; rw [if_pos h])
    have H := Lib.hid h; clear h
    go_enter Try.func26, Try.ntmps26
    go_wp2_with fail
    refine (fits_any p n _ hp).mono ?_
    rintro e w' ⟨rfl, rfl⟩
    rw [H.out]
    go_wp2_with fail
    go_ret3
    rw [HF.out]
    exact ⟨rfl, Below.refl _ _⟩
  | true =>
    obtain ⟨h1, h2, h3, h4, h5⟩ := (G.shapedB_iff p n).1 h
    obtain ⟨m, rfl⟩ : ∃ m : Nat, n = m := ⟨n.toNat, by omega⟩
    cases hq : G.posB p.length l with
    | false =>
      have HF : Hid (G.decode p m l = ([], 0, 1)) := Lib.hid (by unfold G.decode; rw [if_neg (by simp [h]), if_pos hq])
      have H := Lib.hid h; clear h
      have HQ := Lib.hid hq; clear hq
      go_enter Try.func26, Try.ntmps26
      go_wp2_with fail
      refine (fits_any p m _ hp).mono ?_
      rintro e w' ⟨rfl, rfl⟩
      rw [H.out]
      go_wp2_with fail
      refine (positions_any (str p) p.length _ l _ hs hp hv).mono ?_
      rintro e w1 ⟨rfl, hb1⟩
      rw [HQ.out]
      go_wp2_with fail
      go_ret3
      rw [HF.out]
      exact ⟨rfl, hb1⟩
    | true =>
      have HFn : Hid (∀ (c : List UInt8) (e : Nat), 2 * e + l.length ≤ m → G.Found p c m l e 0 → G.decode p m l = (c, (G.allN p c p.length : Int), 0)) := Lib.hid (fun c e he hc => G.decode_found hq he hc)
      have HF0 : Hid ((∀ e : Nat, 2 * e + l.length ≤ m → ∀ c, ¬ G.Found p c m l e 0) → G.decode p m l = ([], 0, 11)) := Lib.hid (fun hc => G.decode_none h hq hc)
      have H := Lib.hid h; clear h
      have HQ := Lib.hid hq; clear hq
      obtain ⟨D, hD⟩ : ∃ D, D = G.decode p m l := ⟨_, rfl⟩
      rw [← hD]
      have HD := Lib.hid hD; clear hD
      go_enter Try.func26, Try.ntmps26
      go_wp2_with fail
      refine (fits_any p m _ hp).mono ?_
      rintro e w' ⟨rfl, rfl⟩
      rw [H.out]
      go_wp2_with fail
      refine (positions_any (str p) p.length _ l _ hs hp hv).mono ?_
      rintro e w1 ⟨rfl, hb1⟩
      rw [HQ.out]
      go_wp2_with fail
      go_loopw [9, 10, 11] (fun vi _ _ wr => ∃ i : Nat, i ≤ 257 ∧ vi = .int .i64 i ∧ Hid (∀ j : Nat, j < i → ∀ c, ¬ G.Found p c m l j 0) ∧ Below w.heap.size w wr) (fun vi _ _ _ => 257 - (intOf vi).toNat)
      case atStart => exact ⟨0, by omega, rfl, Lib.hid (fun j h8 => by omega), hb1⟩
      case round =>
        clear hb1
        obtain ⟨i, hi, rfl, HI, hb⟩ := hrel
        by_cases hlt : 2 * i + l.length ≤ m
        · have hd : decide ((2 : Int) * (i : Int) + (l.length : Int) ≤ (m : Int)) = true := by rw [decide_eq_true_eq]; omega
          have hv' := hv.keep hb
          have hbs := hb.size
          have hc := search_any p m H.out i _ l 0 _ hv' HQ.out (by omega) (by omega)
          have HC := Lib.hid hc; clear hc
          go_wp2_with fail
          refine (show Calls Try.prog 49 _ _ _ from HC.out).mono ?_
          rintro e w3 ⟨⟨c, rfl, hf⟩ | ⟨rfl, hf⟩, hb3⟩
          · have hB3 := hb.trans (hb3.mono hbs)
            have hcl : c.length = p.length := by obtain ⟨E, _, _, _, g1, _, _⟩ := hf; exact g1
            have HE : Hid (D = (c, (G.allN c p p.length : Int), 0)) := Lib.hid (by rw [HD.out, HFn.out c i hlt hf, allN_swap p c])
            clear hf
            have hs3 := str_size c
            have hB3s := hB3.size
            go_wp2_with fail
            refine (differ_any c p _ hcl.symm (by omega)).mono ?_
            rintro e w4 ⟨rfl, hb4⟩
            have hB4 := hB3.trans (hb4.mono hB3s)
            go_wp2_with fail
            go_ret3
            rw [HE.out]
            exact ⟨rfl, hB4⟩
          · have hB3 := hb.trans (hb3.mono hbs)
            have HN := Lib.hid hf; clear hf
            go_wp2_with fail
            refine ⟨?rel, ?measure⟩
            case rel =>
              refine ⟨i + 1, by omega, by go_num, Lib.hid (fun j h8 => ?_), hB3⟩
              by_cases e : j = i
              · rw [e]; exact HN.out
              · exact HI.out j (by omega)
            case measure => simp [intOf]; omega
        · have hd : decide ((2 : Int) * (i : Int) + (l.length : Int) ≤ (m : Int)) = false := by rw [decide_eq_false_iff_not]; omega
          have HE : Hid (D = ([], 0, 11)) := Lib.hid (by rw [HD.out]; exact HF0.out (fun e he c => HI.out e (by omega) c))
          go_wp2_with fail
          go_ret3
          rw [HE.out]
          exact ⟨rfl, hb⟩
end Go.Proofs.Ytbijdhdapejjhaa
