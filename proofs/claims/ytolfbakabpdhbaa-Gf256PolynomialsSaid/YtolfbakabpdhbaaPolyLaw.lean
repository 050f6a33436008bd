/- The walks of the laws on polynomials. -/
import Derived.Test.YtolfbakabpdhbaaGen
import Derived.Test.YtolfbakabpdhbaaGp
import Derived.Test.YtolfbakabpdhbaaOpen
namespace Go.Proofs.Ytolfbakabpdhbaa
open Go.RowKit
set_option linter.unusedVariables false

def remE (q : List UInt8) : Int := if trimL q = [] then 1 else 0
def remL (p q : List UInt8) : List UInt8 := if trimL q = [] then [] else G.rem p (trimL q)
def genE (n : Int) : Int := if n < 0 ∨ 32 < n then 2 else 0
def genL (n : Int) : List UInt8 := if n < 0 ∨ 32 < n then [] else G.gen n.toNat
theorem trimL_le (q : List UInt8) : (trimL q).length ≤ q.length := by
  unfold trimL; exact (List.dropWhile_suffix _).length_le

theorem remainder_any (vp vq : Value) (p q : List UInt8) (w : World) (hp : Rd w vp p) (hq : Rd w vq q) (hps : p.length ≤ 1073741824) (hqs : q.length ≤ 1073741824) :
    Calls Try.prog 23 #[vp, vq] w fun e w' => ∃ v, e = .returned (.tuple #[v, .int .i64 (remE q)]) ∧ Rd w' v (remL p q) ∧ Below w.heap.size w w' := by
  have hl := trimL_le q
  by_cases h : trimL q = []
  · refine (remainder_nil vp vq p q w hp hq h).mono fun e w' ⟨h1, h2⟩ => ⟨.slice none 0 0, ?_, ?_, h2⟩
    · rw [h1, remE, if_pos h]
    · rw [remL, if_pos h]; exact Rd.nil _
  · refine (remainder_ok vp vq p q _ w hp hq rfl h hps (by omega)).mono fun e w' ⟨v, h1, h2, h3⟩ => ⟨v, ?_, ?_, h3⟩
    · rw [h1, remE, if_neg h]
    · rw [remL, if_neg h]; exact Rd.ofOwn h2 (by rw [G.rem_length]; omega)
theorem rremainder_any (vp vq : Value) (p q : List UInt8) (w : World) (hp : Rd w vp p) (hq : Rd w vq q) (hps : p.length ≤ 1073741824) (hqs : q.length ≤ 1073741824) :
    Calls Try.prog 24 #[vp, vq] w fun e w' => ∃ v, e = .returned (.tuple #[v, .int .i64 (remE q)]) ∧ Rd w' v (remL p q) ∧ Below w.heap.size w w' := by
  have hl := trimL_le q
  by_cases h : trimL q = []
  · refine (rremainder_nil vp vq p q w hp hq h).mono fun e w' ⟨h1, h2⟩ => ⟨.slice none 0 0, ?_, ?_, h2⟩
    · rw [h1, remE, if_pos h]
    · rw [remL, if_pos h]; exact Rd.nil _
  · refine (rremainder_ok vp vq p q _ w hp hq rfl h hps (by omega)).mono fun e w' ⟨v, h1, h2, h3⟩ => ⟨v, ?_, ?_, h3⟩
    · rw [h1, remE, if_neg h]
    · rw [remL, if_neg h]; exact Rd.ofOwn h2 (by rw [G.rem_length]; omega)
theorem generator_any (n : Int) (w : World) :
    Calls Try.prog 20 #[.int .i64 n] w fun e w' => ∃ v, e = .returned (.tuple #[v, .int .i64 (genE n)]) ∧ Rd w' v (genL n) ∧ Below w.heap.size w w' := by
  by_cases h : n < 0 ∨ 32 < n
  · refine (generator_bad n w h).mono fun e w' ⟨h1, h2⟩ => ⟨.slice none 0 0, ?_, ?_, ?_⟩
    · rw [h1, genE, if_pos h]
    · rw [genL, if_pos h]; exact Rd.nil _
    · rw [← h2]; exact Below.refl _ _
  · refine (generator_at n n.toNat w (by omega) (by omega)).mono fun e w' ⟨v, h1, h2, h3⟩ => ⟨v, ?_, ?_, h3⟩
    · rw [h1, genE, if_neg h]
    · rw [genL, if_neg h]
      have e := G.gen_length n.toNat
      rw [← e] at h2
      exact Rd.ofOwn h2 (by omega)
theorem rgenerator_any (n : Int) (w : World) :
    Calls Try.prog 25 #[.int .i64 n] w fun e w' => ∃ v, e = .returned (.tuple #[v, .int .i64 (genE n)]) ∧ Rd w' v (genL n) ∧ Below w.heap.size w w' := by
  by_cases h : n < 0 ∨ 32 < n
  · refine (rgenerator_bad n w h).mono fun e w' ⟨h1, h2⟩ => ⟨.slice none 0 0, ?_, ?_, ?_⟩
    · rw [h1, genE, if_pos h]
    · rw [genL, if_pos h]; exact Rd.nil _
    · rw [← h2]; exact Below.refl _ _
  · obtain ⟨m, rfl⟩ : ∃ m : Nat, n = m := ⟨n.toNat, by omega⟩
    refine (rgenerator_ok m w (by omega)).mono fun e w' ⟨v, h1, h2, h3⟩ => ⟨v, ?_, ?_, h3⟩
    · rw [h1, genE, if_neg h]
    · rw [genL, if_neg h, Int.toNat_natCast]
      have e := G.gen_length m
      rw [← e] at h2
      exact Rd.ofOwn h2 (by omega)

theorem beq_refl_list (l : List UInt8) : (l == l) = true := by simp
theorem prod_le (p q : List UInt8) : (G.prod p q).length ≤ p.length + q.length := by
  by_cases hp : p = []
  · subst hp; simp [G.prod_nil_left]
  · by_cases hq : q = []
    · subst hq; simp [G.prod_nil_right]
    · rw [G.prod_length p q hp hq]; omega

set_option maxRecDepth 100000 in
set_option maxHeartbeats 2000000 in
theorem polynomials_law (w : World) (vp : Value) (p : List UInt8) (wp : Came w vp p) (vq : Value) (q : List UInt8) (wq : Came w vq q) (x : Int) (wx : (Lit.int .u8 x).wf = true) (n : Int) (wn : (Lit.int .i64 n).wf = true) :
    Calls Try.prog 8 #[vp, vq, .int .u8 x, .int .i64 n] w fun e w' => e = .returned (.bool true) ∧ Below w.heap.size w w' := by
  obtain ⟨x, rfl⟩ := byte_u8 wx
  obtain ⟨h1, h2⟩ := bd_i64 wn
  obtain ⟨hp1, hp2, ap, cp, rfl⟩ := wp
  obtain ⟨hq1, hq2, aq, cq, rfl⟩ := wq
  by_cases hlp : 40 < p.length
  · go_enter Try.func8, Try.ntmps8
    go_wp2_with fail
    refine (awake_any _).mono ?_
    rintro e w1 ⟨rfl, hb1⟩
    go_wp2_with fail
    go_ret
    exact ⟨rfl, hb1⟩
  by_cases hlq : 40 < q.length
  · have hd : decide ((40 : Int) < (p.length : Int)) = false := by rw [decide_eq_false_iff_not]; omega
    go_enter Try.func8, Try.ntmps8
    go_wp2_with fail
    refine (awake_any _).mono ?_
    rintro e w1 ⟨rfl, hb1⟩
    go_wp2_with fail
    go_ret
    exact ⟨rfl, hb1⟩
  have hp := hp1 (by omega)
  have hq := hq1 (by omega)
  clear hp1 hq1
  have hd1 : decide ((40 : Int) < (p.length : Int)) = false := by rw [decide_eq_false_iff_not]; omega
  have hd2 : decide ((40 : Int) < (q.length : Int)) = false := by rw [decide_eq_false_iff_not]; omega
  go_enter Try.func8, Try.ntmps8
  go_wp2_with fail
  refine (awake_any _).mono ?_
  rintro e w1 ⟨rfl, hb1⟩
  have hp := hp.keep hb1
  have hq := hq.keep hb1
  go_wp2_with fail
  refine (remainder_any _ _ p q _ hp hq (by omega) (by omega)).mono ?_
  rintro e w2 ⟨va, rfl, ha, hb2⟩
  have hp := hp.keep hb2
  have hq := hq.keep hb2
  have hB := hb1.trans (hb2.mono hb1.size)
  go_wp2_with fail
  refine (rremainder_any _ _ p q _ hp hq (by omega) (by omega)).mono ?_
  rintro e w3 ⟨vb, rfl, hb, hb3⟩
  have hp := hp.keep hb3
  have hq := hq.keep hb3
  have ha := ha.keep hb3
  have hB := hB.trans (hb3.mono hB.size)
  go_wp2_with fail
  refine (generator_any n _).mono ?_
  rintro e w4 ⟨vc, rfl, hc, hb4⟩
  have hp := hp.keep hb4
  have hq := hq.keep hb4
  have ha := ha.keep hb4
  have hb := hb.keep hb4
  have hB := hB.trans (hb4.mono hB.size)
  go_wp2_with fail
  refine (rgenerator_any n _).mono ?_
  rintro e w5 ⟨vd, rfl, hd, hb5⟩
  have hp := hp.keep hb5
  have hq := hq.keep hb5
  have ha := ha.keep hb5
  have hb := hb.keep hb5
  have hc := hc.keep hb5
  have hB := hB.trans (hb5.mono hB.size)
  go_wp2_with fail
  refine (eval_any _ p x _ hp).mono ?_
  rintro e w6 ⟨rfl, hb6⟩
  have hp := hp.keep hb6
  have hq := hq.keep hb6
  have ha := ha.keep hb6
  have hb := hb.keep hb6
  have hc := hc.keep hb6
  have hd := hd.keep hb6
  have hB := hB.trans (hb6.mono hB.size)
  go_wp2_with fail
  refine (reval_any _ p x _ hp).mono ?_
  rintro e w7 ⟨rfl, hb7⟩
  have hp := hp.keep hb7
  have hq := hq.keep hb7
  have ha := ha.keep hb7
  have hb := hb.keep hb7
  have hc := hc.keep hb7
  have hd := hd.keep hb7
  have hB := hB.trans (hb7.mono hB.size)
  have hpl := prod_le p q
  go_wp2_with fail
  refine (product_any _ _ p q _ hp hq).mono ?_
  rintro e w8 ⟨vs, rfl, hs, hb8⟩
  have hs := Rd.ofOwn hs (by omega)
  have hp := hp.keep hb8
  have hq := hq.keep hb8
  have ha := ha.keep hb8
  have hb := hb.keep hb8
  have hc := hc.keep hb8
  have hd := hd.keep hb8
  have hB := hB.trans (hb8.mono hB.size)
  go_wp2_with fail
  refine (rproduct_any _ _ p q _ hp hq).mono ?_
  rintro e w9 ⟨vt, rfl, ht, hb9⟩
  have ht := Rd.ofOwn ht (by omega)
  have hs := hs.keep hb9
  have ha := ha.keep hb9
  have hb := hb.keep hb9
  have hc := hc.keep hb9
  have hd := hd.keep hb9
  have hB := hB.trans (hb9.mono hB.size)
  go_wp2_with fail
  refine (bytes_any _ _ _ _ _ hs ht).mono ?_
  rintro e w10 ⟨rfl, rfl⟩
  rw [beq_refl_list]
  go_wp2_with fail
  refine (bytes_any _ _ _ _ _ ha hb).mono ?_
  rintro e w10 ⟨rfl, rfl⟩
  rw [beq_refl_list]
  go_wp2_with fail
  refine (bytes_any _ _ _ _ _ hc hd).mono ?_
  rintro e w10 ⟨rfl, rfl⟩
  rw [beq_refl_list]
  go_wp2_with fail
  go_ret
  exact ⟨rfl, hB⟩
end Go.Proofs.Ytolfbakabpdhbaa
