/- The laws ReedsolomonLinear and ReedsolomonDistance: the walks. -/
import Derived.Test.YtbijdhdapejjhaaCodes
import Derived.Test.YtbijdhdapejjhaaFills
import Derived.Laws.Strings2
namespace Go.Proofs.Ytbijdhdapejjhaa
open Go.RowKit
set_option linter.unusedVariables false

/-- 's[:k]' of a string -/
theorem run_scut {P : Program} {t : TypeId} (ht : P.underlying t = some .string) (l m : List UInt8) (k : Nat) (hk : l.take k = m) (hl : k ≤ l.length) (i : Int) (hi : i = k) (w : World) :
    (Instr.slice t (.string (str l)) none (some (.int .i64 i)) none).run P w = .ok (.string (str m)) w := by
  subst hi hk
  have h1 : (str l).size = l.length := str_size l
  have h2 : (str l).extract 0 k = str (l.take k) := by
    unfold str
    rw [ByteArray.extract_mk]
    simp
  simp [Instr.slice, run_underlying ht, Instr.sliceBounds, run_sliceBound, h1, hl, h2]

set_option maxRecDepth 100000 in
set_option maxHeartbeats 2000000 in
theorem linear_walk (w : World) (a b : List UInt8) (n : Int) (hal : a.length ≤ 9223372036854775807) (hbl : b.length ≤ 9223372036854775807) (h1 : -9223372036854775808 ≤ n) (h2 : n ≤ 9223372036854775807) :
    Calls Try.prog 4 #[.string (str a), .string (str b), .int .i64 n] w fun e w' => e = .returned (.bool true) ∧ Below w.heap.size w w' := by
  have hs := str_size a
  have hs2 := str_size b
  by_cases hne : a.length = b.length
  case neg =>
    have hd : ((a.length : Int) == (b.length : Int)) = false := by rw [beq_eq_false_iff_ne]; omega
    have hd' : ((a.length : Int) != (b.length : Int)) = true := by unfold bne; rw [hd]; rfl
    go_enter Try.func4, Try.ntmps4
    go_wp2_with fail
    refine (awake_any _).mono ?_
    rintro e w1 ⟨rfl, hb1⟩
    go_wp2_with fail
    go_ret
    exact ⟨rfl, hb1⟩
  case pos =>
    obtain ⟨k, hk⟩ : ∃ k, k = a.length := ⟨_, rfl⟩
    rw [← hk] at hne hs hal
    rw [← hne] at hs2
    have HA := Lib.hid hk; clear hk
    have HB := Lib.hid hne; clear hne
    clear hbl
    by_cases hbig : 100 < k
    · have hd : decide ((100 : Int) < k) = true := by rw [decide_eq_true_eq]; omega
      have hkk : ((k : Int) != (k : Int)) = false := by simp
      go_enter Try.func4, Try.ntmps4
      go_wp2_with fail
      refine (awake_any _).mono ?_
      rintro e w1 ⟨rfl, hb1⟩
      go_wp2_with fail
      go_ret
      exact ⟨rfl, hb1⟩
    · have hd : decide ((100 : Int) < k) = false := by rw [decide_eq_false_iff_not]; omega
      have hxlen : (G.xorL a b).length = k := by rw [G.xorL_length (by rw [← HA.out, HB.out]), ← HA.out]
      have hxs := str_size (G.xorL a b)
      rw [hxlen] at hxs
      have HXl := Lib.hid hxlen; clear hxlen
      go_enter Try.func4, Try.ntmps4
      go_wp2_with fail
      refine (awake_any _).mono ?_
      rintro e w1 ⟨rfl, hb1⟩
      go_wp2_with fail
      refine (encode_any a n _ (by rw [← HA.out]; omega) h1 h2).mono ?_
      rintro e w2 ⟨rfl, hb2⟩
      have hB2 := hb1.trans (hb2.mono hb1.size)
      clear hb1 hb2
      go_wp2_with fail
      refine (encode_any b n _ (by rw [← HB.out]; omega) h1 h2).mono ?_
      rintro e w3 ⟨rfl, hb3⟩
      have hB3 := hB2.trans (hb3.mono hB2.size)
      clear hB2 hb3
      go_wp2_with fail
      refine (xor_any a b _ (by rw [← HA.out, HB.out]) (by rw [← HA.out]; omega)).mono ?_
      rintro e w4 ⟨rfl, hb4⟩
      have hB4 := hB3.trans (hb4.mono hB3.size)
      clear hB3 hb4
      go_wp2_with fail
      refine (encode_any (G.xorL a b) n _ (by rw [HXl.out]; omega) h1 h2).mono ?_
      rintro e w5 ⟨rfl, hb5⟩
      have hB5 := hB4.trans (hb5.mono hB4.size)
      clear hB4 hb5
      cases he : G.encB a n with
      | false =>
        rw [G.encR_bad he, G.encR_bad (show G.encB b n = false by rw [← he]; exact (G.encB_len n (by rw [← HA.out, HB.out])).symm), G.encR_bad (show G.encB (G.xorL a b) n = false by rw [← he]; exact (G.encB_len n (by rw [← HA.out, HXl.out])).symm)]
        have HE := Lib.hid he; clear he
        rw [show str [] = ByteArray.empty from rfl]
        go_wp2_with fail
        go_ret
        exact ⟨rfl, hB5⟩
      | true =>
        obtain ⟨g1, g2, g3, g4⟩ := (G.encB_iff a n).1 he
        rw [G.encR_ok he, G.encR_ok (show G.encB b n = true by rw [← he]; exact (G.encB_len n (by rw [← HA.out, HB.out])).symm), G.encR_ok (show G.encB (G.xorL a b) n = true by rw [← he]; exact (G.encB_len n (by rw [← HA.out, HXl.out])).symm)]
        obtain ⟨m, rfl⟩ : ∃ m : Nat, n = m := ⟨n.toNat, by omega⟩
        rw [Int.toNat_natCast]
        have hz : G.enc (G.xorL a b) m = G.xorL (G.enc a m) (G.enc b m) := G.enc_xorL a b m (by rw [← HA.out, HB.out])
        rw [hz]
        have HV : Hid (G.validB (G.enc a m) m = true) := Lib.hid (by have := G.enc_valid a m he; rwa [Int.toNat_natCast] at this)
        have HE := Lib.hid he; clear he
        clear hz g3
        have hlx : (G.enc a m).length = k + m := by rw [G.enc_length, ← HA.out]
        have hly : (G.enc b m).length = k + m := by rw [G.enc_length, ← HB.out]
        have hsx := str_size (G.enc a m)
        rw [hlx] at hsx
        have hcut := fun wx => run_scut (P := Try.prog) Try.underlying9 (G.enc a m) a k (by rw [HA.out]; exact G.enc_take a m) (by omega) k rfl wx
        obtain ⟨X, hX⟩ : ∃ X, X = G.enc a m := ⟨_, rfl⟩
        obtain ⟨Y, hY⟩ : ∃ Y, Y = G.enc b m := ⟨_, rfl⟩
        rw [← hX] at hlx hsx hcut HV ⊢
        rw [← hY] at hly ⊢
        have HXx := Lib.hid hX; clear hX
        have HYy := Lib.hid hY; clear hY
        have HLx := Lib.hid hlx; clear hlx
        have HLy := Lib.hid hly; clear hly
        go_wp2_with fail
        refine (xor_any X Y _ (by rw [HLx.out, HLy.out]) (by rw [HLx.out]; omega)).mono ?_
        rintro e w6 ⟨rfl, hb6⟩
        have hB6 := hB5.trans (hb6.mono hB5.size)
        clear hB5 hb6
        go_wp2_with fail
        refine (valid_any X m _ (by rw [HLx.out]; omega)).mono ?_
        rintro e w7 ⟨rfl, hb7⟩
        rw [HV.out]
        have hB7 := hB6.trans (hb7.mono hB6.size)
        clear hB6 hb7
        go_wp2_with fail
        go_ret
        exact ⟨rfl, hB7⟩

theorem linear_law (w : World) (a : ByteArray) (ha : a.size ≤ maxLen) (b : ByteArray) (hb : b.size ≤ maxLen) (n : Int) (wn : (Lit.int .i64 n).wf = true) :
    Calls Try.prog 4 #[.string a, .string b, .int .i64 n] w fun e w' => e = .returned (.bool true) ∧ Below w.heap.size w w' := by
  have h := bd_i64 wn
  rw [str_list a, str_list b]
  exact linear_walk w _ _ n (str_data a ha) (str_data b hb) h.1 h.2

theorem enc_inj {a b : List UInt8} (n : Nat) (hl : a.length = b.length) (h : G.enc a n = G.enc b n) : a = b := by
  rw [← G.enc_take a n, ← G.enc_take b n, h, hl]
theorem distance_fact (a b : List UInt8) (n : Nat) (hl : a.length = b.length) (hN : a.length + n ≤ 255) (hne : a ≠ b) : n < G.allN (G.enc a n) (G.enc b n) (a.length + n) := by
  have hl2 : (G.enc a n).length = (G.enc b n).length := by rw [G.enc_length, G.enc_length, hl]
  rw [G.allN_supp _ _ hl2, ← G.enc_xorL a b n hl]
  have hxl : (G.xorL a b).length = a.length := G.xorL_length hl
  have hle : (G.enc (G.xorL a b) n).length = a.length + n := by rw [G.enc_length, hxl]
  by_cases h : n < (G.supp (G.enc (G.xorL a b) n) (a.length + n)).length
  · exact h
  · exfalso
    have hz := G.few_zero (G.enc (G.xorL a b) n) n (by omega) (fun k hk => G.enc_syn _ n k hk) (by rw [hle]; omega)
    apply hne
    apply enc_inj n hl
    apply G.ext_ix hl2
    intro i _
    have := hz i
    rw [G.enc_xorL a b n hl, G.ix_xorL hl2] at this
    exact G.xor_eq_zero this

set_option maxRecDepth 100000 in
set_option maxHeartbeats 2000000 in
theorem distance_walk (w : World) (a b : List UInt8) (n : Int) (hal : a.length ≤ 9223372036854775807) (hbl : b.length ≤ 9223372036854775807) (h1 : -9223372036854775808 ≤ n) (h2 : n ≤ 9223372036854775807) :
    Calls Try.prog 6 #[.string (str a), .string (str b), .int .i64 n] w fun e w' => e = .returned (.bool true) ∧ Below w.heap.size w w' := by
  have hs := str_size a
  have hs2 := str_size b
  by_cases hne : a.length = b.length
  case neg =>
    have hd : ((a.length : Int) == (b.length : Int)) = false := by rw [beq_eq_false_iff_ne]; omega
    have hd' : ((a.length : Int) != (b.length : Int)) = true := by unfold bne; rw [hd]; rfl
    go_enter Try.func6, Try.ntmps6
    go_wp2_with fail
    refine (awake_any _).mono ?_
    rintro e w1 ⟨rfl, hb1⟩
    go_wp2_with fail
    go_ret
    exact ⟨rfl, hb1⟩
  case pos =>
    obtain ⟨k, hk⟩ : ∃ k, k = a.length := ⟨_, rfl⟩
    rw [← hk] at hne hs hal
    rw [← hne] at hs2
    have HA := Lib.hid hk; clear hk
    have HB := Lib.hid hne; clear hne
    clear hbl
    by_cases hbig : 100 < k
    · have hd : decide ((100 : Int) < k) = true := by rw [decide_eq_true_eq]; omega
      have hkk : ((k : Int) != (k : Int)) = false := by simp
      go_enter Try.func6, Try.ntmps6
      go_wp2_with fail
      refine (awake_any _).mono ?_
      rintro e w1 ⟨rfl, hb1⟩
      go_wp2_with fail
      go_ret
      exact ⟨rfl, hb1⟩
    · have hd : decide ((100 : Int) < k) = false := by rw [decide_eq_false_iff_not]; omega
      by_cases hab : a = b
      · subst hab
        go_enter Try.func6, Try.ntmps6
        go_wp2_with fail
        refine (awake_any _).mono ?_
        rintro e w1 ⟨rfl, hb1⟩
        go_wp2_with fail
        go_ret
        exact ⟨rfl, hb1⟩
      · have hsd : ((str a).toList == (str b).toList) = false := by rw [str_toList, str_toList]; simpa using hab
        have HAB := Lib.hid hab; clear hab
        go_enter Try.func6, Try.ntmps6
        go_wp2_with fail
        refine (awake_any _).mono ?_
        rintro e w1 ⟨rfl, hb1⟩
        go_wp2_with fail
        refine (encode_any a n _ (by rw [← HA.out]; omega) h1 h2).mono ?_
        rintro e w2 ⟨rfl, hb2⟩
        have hB2 := hb1.trans (hb2.mono hb1.size)
        clear hb1 hb2
        go_wp2_with fail
        refine (encode_any b n _ (by rw [← HB.out]; omega) h1 h2).mono ?_
        rintro e w3 ⟨rfl, hb3⟩
        have hB3 := hB2.trans (hb3.mono hB2.size)
        clear hB2 hb3
        cases he : G.encB a n with
        | false =>
          rw [G.encR_bad he, G.encR_bad (show G.encB b n = false by rw [← he]; exact (G.encB_len n (by rw [← HA.out, HB.out])).symm)]
          have HE := Lib.hid he; clear he
          go_wp2_with fail
          go_ret
          exact ⟨rfl, hB3⟩
        | true =>
          obtain ⟨g1, g2, g3, g4⟩ := (G.encB_iff a n).1 he
          rw [G.encR_ok he, G.encR_ok (show G.encB b n = true by rw [← he]; exact (G.encB_len n (by rw [← HA.out, HB.out])).symm)]
          obtain ⟨m, rfl⟩ : ∃ m : Nat, n = m := ⟨n.toNat, by omega⟩
          rw [Int.toNat_natCast]
          have hlx : (G.enc a m).length = k + m := by rw [G.enc_length, ← HA.out]
          have hly : (G.enc b m).length = k + m := by rw [G.enc_length, ← HB.out]
          have hsx := str_size (G.enc a m)
          have hsy := str_size (G.enc b m)
          have hdist := distance_fact a b m (by rw [← HA.out, HB.out]) (by omega) HAB.out
          rw [← HA.out] at hdist
          have HE := Lib.hid he; clear he
          clear g3
          rw [hlx] at hsx
          rw [hly] at hsy
          have hle := G.allN_le (G.enc a m) (G.enc b m) (k + m)
          obtain ⟨X, hX⟩ : ∃ X, X = G.enc a m := ⟨_, rfl⟩
          obtain ⟨Y, hY⟩ : ∃ Y, Y = G.enc b m := ⟨_, rfl⟩
          rw [← hX] at hlx hsx hdist hle ⊢
          rw [← hY] at hly hsy hdist hle ⊢
          have HXx := Lib.hid hX; clear hX
          have HYy := Lib.hid hY; clear hY
          obtain ⟨D, hD⟩ : ∃ D, D = G.allN X Y (k + m) := ⟨_, rfl⟩
          rw [← hD] at hdist hle
          have HD := Lib.hid hD; clear hD
          have HLx := Lib.hid hlx; clear hlx
          have HLy := Lib.hid hly; clear hly
          go_wp2_with fail
          refine (differ_any X Y _ (by rw [HLx.out, HLy.out]) (by rw [HLx.out]; omega)).mono ?_
          rintro e w6 ⟨rfl, hb6⟩
          have hB6 := hB3.trans (hb6.mono hB3.size)
          clear hB3 hb6
          rw [HLx.out, ← HD.out]
          go_wp2_with fail
          go_ret
          exact ⟨rfl, hB6⟩

theorem distance_law (w : World) (a : ByteArray) (ha : a.size ≤ maxLen) (b : ByteArray) (hb : b.size ≤ maxLen) (n : Int) (wn : (Lit.int .i64 n).wf = true) :
    Calls Try.prog 6 #[.string a, .string b, .int .i64 n] w fun e w' => e = .returned (.bool true) ∧ Below w.heap.size w w' := by
  have h := bd_i64 wn
  rw [str_list a, str_list b]
  exact distance_walk w _ _ n (str_data a ha) (str_data b hb) h.1 h.2
end Go.Proofs.Ytbijdhdapejjhaa
