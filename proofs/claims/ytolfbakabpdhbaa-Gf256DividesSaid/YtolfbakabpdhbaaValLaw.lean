/- The walks of the laws on values, roots and division. -/
import Derived.Test.YtolfbakabpdhbaaPolyLaw
namespace Go.Proofs.Ytolfbakabpdhbaa
open Go.RowKit
set_option linter.unusedVariables false

theorem eval_trim (q : List UInt8) (x : UInt8) : G.eval (trimL q) x = G.eval q x := by
  induction q with
  | nil => rfl
  | cons c q ih =>
    unfold trimL at ih ⊢
    rw [List.dropWhile_cons]
    split
    · rename_i h
      have h' : c = 0 := by simpa using h
      rw [ih, G.eval_cons, h', G.zero_mul, G.zero_xor]
    · rfl

theorem remE_nil {q : List UInt8} (h : trimL q = []) : remE q = 1 := by rw [remE, if_pos h]
theorem remE_ne {q : List UInt8} (h : trimL q ≠ []) : remE q = 0 := by rw [remE, if_neg h]
theorem byte_beq (a b : UInt8) : ((a.toNat : Int) == (b.toNat : Int)) = decide (a = b) := by
  by_cases h : a = b
  · subst h; simp
  · simp only [h, decide_false, beq_eq_false_iff_ne]
    intro e
    exact h (G.ext (by omega))
theorem byte_bne (a b : UInt8) : ((a.toNat : Int) != (b.toNat : Int)) = decide (a ≠ b) := by
  have := byte_beq a b
  simp [bne, this]
theorem byte_beq0 (a : UInt8) : ((a.toNat : Int) == 0) = decide (a = 0) := byte_beq a 0
theorem byte_bne0 (a : UInt8) : ((a.toNat : Int) != 0) = decide (a ≠ 0) := byte_bne a 0

theorem values_big (w : World) (p : List UInt8) (q : List UInt8) (x : Int) (ap aq : Option Addr) (cp cq : Nat) (h : 40 < p.length ∨ p.length ≤ 40 ∧ 40 < q.length) (hp : p.length ≤ 9223372036854775807) (hq : q.length ≤ 9223372036854775807) :
    Calls Try.prog 9 #[.slice ap p.length cp, .slice aq q.length cq, .int .u8 x] w fun e w' => e = .returned (.bool true) ∧ Below w.heap.size w w' := by
  rcases h with h | ⟨h1, h2⟩
  · go_enter Try.func9, Try.ntmps9
    go_wp2_with fail
    refine (awake_any _).mono ?_
    rintro e w1 ⟨rfl, hb1⟩
    go_wp2_with fail
    go_ret
    exact ⟨rfl, hb1⟩
  · have hd : decide ((40 : Int) < (p.length : Int)) = false := by rw [decide_eq_false_iff_not]; omega
    go_enter Try.func9, Try.ntmps9
    go_wp2_with fail
    refine (awake_any _).mono ?_
    rintro e w1 ⟨rfl, hb1⟩
    go_wp2_with fail
    go_ret
    exact ⟨rfl, hb1⟩

set_option maxRecDepth 100000 in
set_option maxHeartbeats 2000000 in
theorem values_law (w : World) (vp : Value) (p : List UInt8) (wp : Came w vp p) (vq : Value) (q : List UInt8) (wq : Came w vq q) (x : Int) (wx : (Lit.int .u8 x).wf = true) :
    Calls Try.prog 9 #[vp, vq, .int .u8 x] w fun e w' => e = .returned (.bool true) ∧ Below w.heap.size w w' := by
  obtain ⟨x, rfl⟩ := byte_u8 wx
  obtain ⟨hp1, hp2, ap, cp, rfl⟩ := wp
  obtain ⟨hq1, hq2, aq, cq, rfl⟩ := wq
  by_cases hlp : 40 < p.length
  · exact values_big w p q _ ap aq cp cq (.inl hlp) hp2 hq2
  by_cases hlq : 40 < q.length
  · exact values_big w p q _ ap aq cp cq (.inr ⟨by omega, hlq⟩) hp2 hq2
  have hp := hp1 (by omega)
  have hq := hq1 (by omega)
  clear hp1 hq1
  have hd1 : decide ((40 : Int) < (p.length : Int)) = false := by rw [decide_eq_false_iff_not]; omega
  have hd2 : decide ((40 : Int) < (q.length : Int)) = false := by rw [decide_eq_false_iff_not]; omega
  have hpl := prod_le p q
  have HE := Lib.hid (G.eval_prod p q x)
  go_enter Try.func9, Try.ntmps9
  go_wp2_with fail
  refine (awake_any _).mono ?_
  rintro e w1 ⟨rfl, hb1⟩
  have hB := hb1
  have hp := hp.keep hb1
  have hq := hq.keep hb1
  go_wp2_with fail
  refine (product_any _ _ p q _ hp hq).mono ?_
  rintro e w2 ⟨vs, rfl, hs, hb2⟩
  have hs := Rd.ofOwn hs (by omega)
  have hp := hp.keep hb2
  have hq := hq.keep hb2
  have hB := hB.trans (hb2.mono hB.size)
  go_wp2_with fail
  refine (eval_any _ (G.prod p q) x _ hs).mono ?_
  rintro e w3 ⟨rfl, hb3⟩
  have hp := hp.keep hb3
  have hq := hq.keep hb3
  have hB := hB.trans (hb3.mono hB.size)
  rw [HE.out]
  go_wp2_with fail
  refine (eval_any _ p x _ hp).mono ?_
  rintro e w4 ⟨rfl, hb4⟩
  have hp := hp.keep hb4
  have hq := hq.keep hb4
  have hB := hB.trans (hb4.mono hB.size)
  go_wp2_with fail
  refine (eval_any _ q x _ hq).mono ?_
  rintro e w5 ⟨rfl, hb5⟩
  have hp := hp.keep hb5
  have hq := hq.keep hb5
  have hB := hB.trans (hb5.mono hB.size)
  go_wp2_with fail
  refine (gmul_at _ _ (G.eval p x) (G.eval q x) _ rfl rfl).mono ?_
  rintro e w6 ⟨rfl, rfl⟩
  go_wp2_with fail
  refine (remainder_any _ _ p q _ hp hq (by omega) (by omega)).mono ?_
  rintro e w7 ⟨va, rfl, ha, hb7⟩
  have hp := hp.keep hb7
  have hq := hq.keep hb7
  have hB := hB.trans (hb7.mono hB.size)
  by_cases ht : trimL q = []
  · rw [remE_nil ht]
    rw [remL, if_pos ht] at ha
    obtain ⟨a', c', rfl⟩ := ha.form
    simp only [List.length_nil]
    have Ht := Lib.hid ht; clear ht
    go_wp2_with fail
    go_ret
    exact ⟨rfl, hB⟩
  · rw [remE_ne ht]
    rw [remL, if_neg ht] at ha
    have Ht := Lib.hid ht; clear ht
    by_cases hx : G.eval q x = 0
    · have hx1 : (((G.eval q x).toNat : Int) != 0) = false := by rw [byte_bne0, hx]; rfl
      have HX : Hid (G.eval (G.rem p (trimL q)) x = G.eval p x) := Lib.hid (G.eval_rem p (trimL q) x Ht.out (trimL_head q Ht.out) (by rw [eval_trim, hx]))
      clear hx
      go_wp2_with fail
      refine (eval_any _ q x _ hq).mono ?_
      rintro e w8 ⟨rfl, hb8⟩
      have hp := hp.keep hb8
      have ha := ha.keep hb8
      have hB := hB.trans (hb8.mono hB.size)
      go_wp2_with fail
      refine (eval_any _ (G.rem p (trimL q)) x _ ha).mono ?_
      rintro e w9 ⟨rfl, hb9⟩
      have hp := hp.keep hb9
      have hB := hB.trans (hb9.mono hB.size)
      rw [HX.out]
      go_wp2_with fail
      refine (eval_any _ p x _ hp).mono ?_
      rintro e w10 ⟨rfl, hb10⟩
      have hB := hB.trans (hb10.mono hB.size)
      go_wp2_with fail
      go_ret
      exact ⟨rfl, hB⟩
    · have hx1 : (((G.eval q x).toNat : Int) != 0) = true := by rw [byte_bne0]; simp [hx]
      have HX := Lib.hid hx; clear hx
      go_wp2_with fail
      refine (eval_any _ q x _ hq).mono ?_
      rintro e w8 ⟨rfl, hb8⟩
      have hB := hB.trans (hb8.mono hB.size)
      go_wp2_with fail
      go_ret
      exact ⟨rfl, hB⟩

theorem eval_at (vp : Value) (y : Int) (p : List UInt8) (x : UInt8) (w : World) (hp : Rd w vp p) (hy : y = x.toNat) :
    Calls Try.prog 21 #[vp, .int .u8 y] w fun e w' => e = .returned (B (G.eval p x)) ∧ Below w.heap.size w w' := by
  subst hy; exact eval_any vp p x w hp

/-- the roots of the generator, by the logarithm -/
theorem root_iff (n a : Nat) (ha : a < 256) (hn : n < 33) : G.eval (G.gen n) (UInt8.ofNat a) = 0 ↔ a ≠ 0 ∧ Gf.log a < n := by
  rw [G.eval_gen]
  constructor
  · rintro ⟨i, hi, h⟩
    have h' : a = Gf.exp i := by
      have := congrArg UInt8.toNat h
      rwa [G.toNat_of ha, G.toNat_exp] at this
    subst h'
    refine ⟨Gf.exp_ne_zero i, ?_⟩
    rw [Gf.log_exp (by omega)]
    exact hi
  · rintro ⟨h0, hl⟩
    refine ⟨Gf.log a, hl, G.ext ?_⟩
    rw [G.toNat_of ha, G.toNat_exp, (Gf.exp_log ha h0).2]

set_option maxRecDepth 100000 in
set_option maxHeartbeats 2000000 in
theorem roots_law (w : World) (p : Int) (wp : (Lit.int .u8 p).wf = true) (x : Int) (wx : (Lit.int .u8 x).wf = true) :
    Calls Try.prog 6 #[.int .u8 p, .int .u8 x] w fun e w' => e = .returned (.bool true) ∧ Below w.heap.size w w' := by
  obtain ⟨p, rfl, hp⟩ := nat_u8 wp
  obtain ⟨a, rfl, ha⟩ := nat_u8 wx
  obtain ⟨n, hn⟩ : ∃ n : Nat, n = p % 33 := ⟨_, rfl⟩
  have hn33 : n < 33 := by omega
  have HN : Hid ((p : Int) % 33 = n) := Lib.hid (by omega)
  clear hn
  obtain ⟨c, hc⟩ : ∃ c, c = UInt8.ofNat a := ⟨_, rfl⟩
  have HC : Hid ((a : Int) = c.toNat) := Lib.hid (by rw [hc, G.toNat_of ha])
  have HR : Hid (G.eval (G.gen n) c = 0 ↔ a ≠ 0 ∧ Gf.log a < n) := Lib.hid (by rw [hc]; exact root_iff n a ha hn33)
  clear hc
  go_enter Try.func6, Try.ntmps6
  go_wp2_with fail
  refine (awake_any _).mono ?_
  rintro e w1 ⟨rfl, hb1⟩
  have hB := hb1
  go_wp2_with fail
  rw [HN.out]
  refine (generator_at _ n _ rfl (by omega)).mono ?_
  rintro e w2 ⟨vg, rfl, hg, hb2⟩
  have hB := hB.trans (hb2.mono hB.size)
  have hgl := G.gen_length n
  rw [← hgl] at hg
  have hg := Rd.ofOwn hg (by omega)
  obtain ⟨hg0, ag, cg, bg, og, rfl, hgc, hgcell⟩ := id hg
  rw [hgl] at hgcell hg0
  rw [hgl] at hgc
  obtain ⟨hga, hgv⟩ := hgcell 0 (by omega)
  clear hgcell
  rw [G.gen_head] at hgv
  have hix := run_idx (P := Try.prog) Try.underlying33 Try.sizeU8 (n := n + 1) (cap := cg) (k := 0) hga (by omega) 0 rfl w2
  have Hga := Lib.hid hga; clear hga
  simp only [Nat.add_zero] at hgv hix
  have hln : ((((n + 1 : Nat) : Int)) != (n : Int) + 1) = false := by rw [bne_eq_false_iff_eq]; omega
  rw [hgl] at hg ⊢
  go_wp2_with fail
  refine (log_any a _ ha).mono ?_
  rintro e w3 ⟨rfl, hb3⟩
  have hg := hg.keep hb3
  have hB := hB.trans (hb3.mono hB.size)
  clear hgv hix hln
  by_cases h0 : a = 0
  · have hne : G.eval (G.gen n) c ≠ 0 := fun h => (HR.out.1 h).1 h0
    have he : (((G.eval (G.gen n) c).toNat : Int) == 0) = false := by rw [byte_beq0]; simp [hne]
    clear hne
    rw [h0, logV_zero]
    rw [h0] at HC
    have H0 := Lib.hid h0; clear h0
    go_wp2_with fail
    refine (eval_at _ _ (G.gen n) c _ hg (by first | exact HC.out | (rw [H0.out]; exact HC.out))).mono ?_
    rintro e w4 ⟨rfl, hb4⟩
    have hB := hB.trans (hb4.mono hB.size)
    go_wp2_with fail
    go_ret
    exact ⟨rfl, hB⟩
  · rw [logV_ne h0]
    have H0 := Lib.hid h0; clear h0
    by_cases hk : Gf.log a < n
    · have hne : G.eval (G.gen n) c = 0 := HR.out.2 ⟨H0.out, hk⟩
      have he : (((G.eval (G.gen n) c).toNat : Int) == 0) = true := by rw [byte_beq0]; simp [hne]
      clear hne
      go_wp2_with fail
      refine (eval_at _ _ (G.gen n) c _ hg HC.out).mono ?_
      rintro e w4 ⟨rfl, hb4⟩
      have hB := hB.trans (hb4.mono hB.size)
      go_wp2_with fail
      go_ret
      exact ⟨rfl, hB⟩
    · have hne : G.eval (G.gen n) c ≠ 0 := fun h => hk (HR.out.1 h).2
      have he : (((G.eval (G.gen n) c).toNat : Int) == 0) = false := by rw [byte_beq0]; simp [hne]
      clear hne
      go_wp2_with fail
      refine (eval_at _ _ (G.gen n) c _ hg HC.out).mono ?_
      rintro e w4 ⟨rfl, hb4⟩
      have hB := hB.trans (hb4.mono hB.size)
      go_wp2_with fail
      go_ret
      exact ⟨rfl, hB⟩

set_option maxRecDepth 100000 in
set_option maxHeartbeats 1000000 in
theorem divides_a (w : World) (p q r : List UInt8) (ap aq ar : Option Addr) (cp cq cr : Nat) (hp : p.length ≤ 9223372036854775807) (hq : q.length ≤ 9223372036854775807) (hr : r.length ≤ 9223372036854775807) (h : 40 < p.length) :
    Calls Try.prog 7 #[.slice ap p.length cp, .slice aq q.length cq, .slice ar r.length cr] w fun e w' => e = .returned (.bool true) ∧ Below w.heap.size w w' := by
  go_enter Try.func7, Try.ntmps7
  go_wp2_with fail
  refine (awake_any _).mono ?_
  rintro e w1 ⟨rfl, hb1⟩
  go_wp2_with fail
  go_ret
  exact ⟨rfl, hb1⟩

set_option maxRecDepth 100000 in
set_option maxHeartbeats 1000000 in
theorem divides_b (w : World) (p q r : List UInt8) (ap aq ar : Option Addr) (cp cq cr : Nat) (hp : p.length ≤ 9223372036854775807) (hq : q.length ≤ 9223372036854775807) (hr : r.length ≤ 9223372036854775807) (h1 : p.length ≤ 40) (h : 40 < q.length) :
    Calls Try.prog 7 #[.slice ap p.length cp, .slice aq q.length cq, .slice ar r.length cr] w fun e w' => e = .returned (.bool true) ∧ Below w.heap.size w w' := by
  have hd1 : decide ((40 : Int) < (p.length : Int)) = false := by rw [decide_eq_false_iff_not]; omega
  go_enter Try.func7, Try.ntmps7
  go_wp2_with fail
  refine (awake_any _).mono ?_
  rintro e w1 ⟨rfl, hb1⟩
  go_wp2_with fail
  go_ret
  exact ⟨rfl, hb1⟩

set_option maxRecDepth 100000 in
set_option maxHeartbeats 1000000 in
theorem divides_c (w : World) (p q r : List UInt8) (ap aq ar : Option Addr) (cp cq cr : Nat) (hp : p.length ≤ 9223372036854775807) (hq : q.length ≤ 9223372036854775807) (hr : r.length ≤ 9223372036854775807) (h1 : p.length ≤ 40) (h : q = []) :
    Calls Try.prog 7 #[.slice ap p.length cp, .slice aq q.length cq, .slice ar r.length cr] w fun e w' => e = .returned (.bool true) ∧ Below w.heap.size w w' := by
  subst h
  simp only [List.length_nil]
  have hd1 : decide ((40 : Int) < (p.length : Int)) = false := by rw [decide_eq_false_iff_not]; omega
  go_enter Try.func7, Try.ntmps7
  go_wp2_with fail
  refine (awake_any _).mono ?_
  rintro e w1 ⟨rfl, hb1⟩
  go_wp2_with fail
  go_ret
  exact ⟨rfl, hb1⟩

set_option maxRecDepth 100000 in
set_option maxHeartbeats 1000000 in
theorem divides_d (w : World) (p q r : List UInt8) (ap aq ar : Option Addr) (cp cq cr : Nat) (hp : p.length ≤ 9223372036854775807) (hq : q.length ≤ 9223372036854775807) (hr : r.length ≤ 9223372036854775807) (h1 : p.length ≤ 40) (h2 : q.length ≤ 40) (h3 : 0 < q.length) (hQ : Rd w (.slice aq q.length cq) q) (h : G.ix q 0 = 0) :
    Calls Try.prog 7 #[.slice ap p.length cp, .slice aq q.length cq, .slice ar r.length cr] w fun e w' => e = .returned (.bool true) ∧ Below w.heap.size w w' := by
  have hd1 : decide ((40 : Int) < (p.length : Int)) = false := by rw [decide_eq_false_iff_not]; omega
  have hd2 : decide ((40 : Int) < (q.length : Int)) = false := by rw [decide_eq_false_iff_not]; omega
  have hd3 : ((q.length : Int) == 0) = false := by rw [beq_eq_false_iff_ne]; omega
  have hz : (((G.ix q 0).toNat : Int) == 0) = true := by rw [h]; rfl
  have Hz := Lib.hid h; clear h
  go_enter Try.func7, Try.ntmps7
  go_wp2_with fail
  refine (awake_any _).mono ?_
  rintro e w1 ⟨rfl, hb1⟩
  have hQ := hQ.keep hb1
  obtain ⟨_, a', c', bq, oq, e', _, hcell⟩ := hQ
  simp only [Value.slice.injEq] at e'
  obtain ⟨rfl, _, rfl⟩ := e'
  obtain ⟨hqa, hqv⟩ := hcell 0 (by omega)
  clear hcell
  have hix := run_idx (P := Try.prog) Try.underlying33 Try.sizeU8 (n := q.length) (cap := cq) (k := 0) hqa (by omega) 0 rfl w1
  have Hqa := Lib.hid hqa; clear hqa
  simp only [Nat.add_zero] at hqv hix
  go_wp2_with fail
  go_ret
  exact ⟨rfl, hb1⟩

set_option maxRecDepth 100000 in
set_option maxHeartbeats 1000000 in
theorem divides_e (w : World) (p q r : List UInt8) (ap aq ar : Option Addr) (cp cq cr : Nat) (hp : p.length ≤ 9223372036854775807) (hq : q.length ≤ 9223372036854775807) (hr : r.length ≤ 9223372036854775807) (h1 : p.length ≤ 40) (h2 : q.length ≤ 40) (h3 : 0 < q.length) (hQ : Rd w (.slice aq q.length cq) q) (h : G.ix q 0 ≠ 0) (h4 : q.length - 1 < r.length) :
    Calls Try.prog 7 #[.slice ap p.length cp, .slice aq q.length cq, .slice ar r.length cr] w fun e w' => e = .returned (.bool true) ∧ Below w.heap.size w w' := by
  have hd1 : decide ((40 : Int) < (p.length : Int)) = false := by rw [decide_eq_false_iff_not]; omega
  have hd2 : decide ((40 : Int) < (q.length : Int)) = false := by rw [decide_eq_false_iff_not]; omega
  have hd3 : ((q.length : Int) == 0) = false := by rw [beq_eq_false_iff_ne]; omega
  have hz : (((G.ix q 0).toNat : Int) == 0) = false := by rw [byte_beq0]; simp [h]
  have h5 : (q.length : Int) - 1 < (r.length : Int) := by omega
  have Hz := Lib.hid h; clear h
  go_enter Try.func7, Try.ntmps7
  go_wp2_with fail
  refine (awake_any _).mono ?_
  rintro e w1 ⟨rfl, hb1⟩
  have hQ := hQ.keep hb1
  obtain ⟨_, a', c', bq, oq, e', _, hcell⟩ := hQ
  simp only [Value.slice.injEq] at e'
  obtain ⟨rfl, _, rfl⟩ := e'
  obtain ⟨hqa, hqv⟩ := hcell 0 (by omega)
  clear hcell
  have hix := run_idx (P := Try.prog) Try.underlying33 Try.sizeU8 (n := q.length) (cap := cq) (k := 0) hqa (by omega) 0 rfl w1
  have Hqa := Lib.hid hqa; clear hqa
  simp only [Nat.add_zero] at hqv hix
  go_wp2_with fail
  go_ret
  exact ⟨rfl, hb1⟩

theorem gadd_at (x y : Int) (a b : UInt8) (w : World) (hx : x = a.toNat) (hy : y = b.toNat) :
    Calls Try.prog 15 #[.int .u8 x, .int .u8 y] w fun e w' => e = .returned (B (a ^^^ b)) ∧ w = w' :=
  (add_at x y a.toNat b.toNat w hx hy (G.lt a) (G.lt b)).mono fun e w' ⟨h1, h2⟩ => ⟨by rw [h1, B, UInt8.toNat_xor], h2⟩
theorem trimL_self (q : List UInt8) (h : G.ix q 0 ≠ 0) : trimL q = q := by
  cases q with
  | nil => rfl
  | cons c q => simp [trimL, G.ix] at h ⊢; simp [h]

set_option maxRecDepth 100000 in
set_option maxHeartbeats 4000000 in
theorem divides_main (w : World) (p q r : List UInt8) (ap aq ar : Option Addr) (cp cq cr : Nat) (h1 : p.length ≤ 40) (h2 : q.length ≤ 40) (h3 : 0 < q.length) (h4 : r.length ≤ q.length - 1) (h0 : G.ix q 0 ≠ 0)
    (hp : Rd w (.slice ap p.length cp) p) (hq : Rd w (.slice aq q.length cq) q) (hr : Rd w (.slice ar r.length cr) r) :
    Calls Try.prog 7 #[.slice ap p.length cp, .slice aq q.length cq, .slice ar r.length cr] w fun e w' => e = .returned (.bool true) ∧ Below w.heap.size w w' := by
  have hd1 : decide ((40 : Int) < (p.length : Int)) = false := by rw [decide_eq_false_iff_not]; omega
  have hd2 : decide ((40 : Int) < (q.length : Int)) = false := by rw [decide_eq_false_iff_not]; omega
  have hd3 : ((q.length : Int) == 0) = false := by rw [beq_eq_false_iff_ne]; omega
  have hd4 : decide ((q.length : Int) - 1 < (r.length : Int)) = false := by rw [decide_eq_false_iff_not]; omega
  have hz : (((G.ix q 0).toNat : Int) == 0) = false := by rw [byte_beq0]; simp [h0]
  have Hz := Lib.hid h0; clear h0
  have Ht : Hid (trimL q = q) := Lib.hid (trimL_self q Hz.out)
  have Hne : Hid (q ≠ []) := Lib.hid (by intro e; rw [e] at h3; simp at h3)
  have hpl := prod_le p q
  have Rr := hr
  have Rq := hq
  go_enter Try.func7, Try.ntmps7
  go_wp2_with fail
  refine (awake_any _).mono ?_
  rintro e w1 ⟨rfl, hb1⟩
  have hB := hb1
  have hp := hp.keep hb1
  have hq := hq.keep hb1
  have hr := hr.keep hb1
  obtain ⟨_, a', c', bq, oq, e', _, hcell⟩ := id hq
  simp only [Value.slice.injEq] at e'
  obtain ⟨rfl, _, rfl⟩ := e'
  obtain ⟨hqa, hqv⟩ := hcell 0 (by omega)
  clear hcell
  have hix := run_idx (P := Try.prog) Try.underlying33 Try.sizeU8 (n := q.length) (cap := cq) (k := 0) hqa (by omega) 0 rfl w1
  have Hqa := Lib.hid hqa; clear hqa
  simp only [Nat.add_zero] at hqv hix
  go_wp2_with fail
  refine (product_any _ _ p q _ hp hq).mono ?_
  rintro e w2 ⟨vs, rfl, hs, hb2⟩
  have hp := hp.keep hb2
  have hq := hq.keep hb2
  have hr := hr.keep hb2
  have hs := own_mono hs hB.size
  have hB := hB.trans (hb2.mono hB.size)
  obtain ⟨asl, cs, g, rfl, hsg⟩ := own_form hs
  clear hix hqv hz
  have Hrem : Hid (G.rem (G.prod p q) q = List.replicate (q.length - 1) 0) := Lib.hid (G.rem_prod p q Hz.out Hne.out)
  by_cases hsr : (G.prod p q).length < r.length
  · have hP : G.prod p q = [] := by
      by_cases e : p = []
      · rw [e, G.prod_nil_left]
      · have := G.prod_length p q e Hne.out
        have := List.length_pos_iff.2 e
        omega
    have hd5 : decide (((G.prod p q).length : Int) < (r.length : Int)) = true := by rw [decide_eq_true_eq]; omega
    obtain ⟨d, hd⟩ : ∃ d : Nat, d = r.length - (G.prod p q).length := ⟨_, rfl⟩
    have hdb : d ≤ 40 := by omega
    have HD : Hid ((r.length : Int) - ((G.prod p q).length : Int) = d) := Lib.hid (by omega)
    have hdl : d + (G.prod p q).length ≤ 80 := by omega
    have hdl2 : r.length ≤ d + (G.prod p q).length := by omega
    have hHP := Lib.hid hP; clear hP
    have hHd := Lib.hid hd; clear hd
    have hrs := Rd.ofOwn hs (by omega)
    have hBs := hB.size
    clear hr hq hb2 hp hs
    go_wp2_with (first | (refine wpList_mkB (base := w.heap.size) rfl _ _ rfl Try.underlying33 Try.infoU8 d rfl rfl HD.out HD.out (by omega) hBs ?_; intro w3 hown3 hgr3; have hb3 : Below w.heap.size w w3 := hB.grown hgr3 hBs (by simp); have hs3' := hrs.keepW (fun k hk => hgr3.block k hk (by simp))) | (refine wpList_appB rfl _ _ rfl Try.underlying33 Try.infoU8 hown3 rfl hs3' rfl (by omega) hb3.size ?_; intro v4 w4 hown4 hgr4 _; have hB3 : Below w.heap.size w w4 := hb3.grown hgr4 hb3.size (by simp [Value.ownBlock]; exact hBs); obtain ⟨asl, cs, g, rfl, hsg4⟩ := own_form hown4; clear hgr4 hgr3 hown3 hs3'))
    have hsg : 0 < (G.pad d (G.prod p q)).length → asl = some ⟨g, 0, none⟩ ∧ w.heap.size ≤ g := by rw [G.pad_length]; exact hsg4
    have hs3 : w4.ownsRow w.heap.size 5 1 (.slice asl (G.pad d (G.prod p q)).length cs) (G.pad d (G.prod p q)).length (bs (G.pad d (G.prod p q))) := by rw [G.pad_length]; exact hown4
    have Hrem3 : Hid (G.rem (G.pad d (G.prod p q)) q = List.replicate (q.length - 1) 0) := Lib.hid (by rw [hHP.out]; unfold G.pad; rw [List.append_nil, G.rem_zeros])
    rw [← G.pad_length d (G.prod p q)]
    obtain ⟨S, hS⟩ : ∃ S, S = G.pad d (G.prod p q) := ⟨_, rfl⟩
    rw [← hS] at hs3 Hrem3 hsg ⊢
    have hrS : r.length ≤ S.length := by rw [hS, G.pad_length]; omega
    have hSb : S.length ≤ 200 := by rw [hS, G.pad_length]; omega
    clear hS
    have HG := Lib.hid hsg; clear hsg
    go_loopw [60] (fun vk wr => ∃ k : Nat, k ≤ r.length ∧ vk = .int .i64 k ∧ wr.ownsRow w.heap.size 5 1 (.slice asl S.length cs) S.length (bs (G.addEnd S r k)) ∧ Below w.heap.size w wr) (fun vk _ => r.length - (intOf vk).toNat)
    case atStart => exact ⟨0, by omega, rfl, hs3, hB3⟩
    case round =>
      clear hs3 hB3
      obtain ⟨k, hk, rfl, hown, hb⟩ := hrel
      by_cases hlt : k < r.length
      · obtain ⟨_, a'', c'', br, orr, e'', _, hrc⟩ := Rr.keep hb
        simp only [Value.slice.injEq] at e''
        obtain ⟨rfl, _, rfl⟩ := e''
        obtain ⟨hra, hrv⟩ := hrc k hlt
        clear hrc
        have hixr := run_idx (P := Try.prog) Try.underlying33 Try.sizeU8 (n := r.length) (cap := cr) hra hlt _ rfl wr
        have Hra := Lib.hid hra; clear hra
        obtain ⟨hga, hgb⟩ := HG.out (by omega)
        obtain ⟨t, ht⟩ : ∃ t, t = S.length - r.length + k := ⟨_, rfl⟩
        have htl : t < S.length := by omega
        have hixs := run_idx (P := Try.prog) Try.underlying33 Try.sizeU8 (n := S.length) (cap := cs) (k := t) hga htl ((S.length : Int) - (r.length : Int) + (k : Int)) (by omega) wr
        have hcs := ownB_cell hown hga t htl
        have hfs := ownB_frozen hown hga t
        simp only [Nat.zero_add] at hixs
        have Hst : Hid (∀ c, (wr.setCell ⟨g, t, none⟩ (B c)).ownsRow w.heap.size 5 1 (.slice asl S.length cs) S.length (bs ((G.addEnd S r k).set t c))) := Lib.hid (fun c => ownB_store hown hga t c)
        have Hga := Lib.hid hga; clear hga
        have HT := Lib.hid ht; clear ht
        go_wp2_with (go_at_call 15; refine (gadd_at _ _ (G.ix (G.addEnd S r k) t) (G.ix r k) _ rfl rfl).mono ?_; rintro e w' ⟨rfl, rfl⟩)
        go_roundw
        case rel =>
          rw [← UInt8.toNat_xor]
          refine ⟨k + 1, by omega, by go_num, ?_, hb.setCell hgb _⟩
          rw [G.addEnd, ← HT.out]
          exact Hst.out _
        case measure => simp [intOf]; omega
      · obtain rfl : k = r.length := by omega
        have hrd : Rd wr (.slice asl S.length cs) (G.addEnd S r r.length) := by
          have := G.addEnd_length S r r.length
          rw [← this] at hown ⊢
          exact Rd.ofOwn hown (by omega)
        have Hfin : Hid (G.rem (G.addEnd S r r.length) q = G.pad (q.length - 1 - r.length) r) := Lib.hid (G.rem_addEnd S r q hrS h4 Hrem3.out)
        have hlen := G.addEnd_length S r r.length
        have Hlen := Lib.hid hlen; clear hlen
        have hqq := Rq.keep hb
        go_wp2_with fail
        refine (remainder_ok _ _ (G.addEnd S r r.length) q q _ hrd hqq Ht.out Hne.out (by rw [Hlen.out]; omega) (by omega)).mono ?_
        rintro e w6 ⟨vx, rfl, hx, hb6⟩
        have hbB := hb.trans (hb6.mono hb.size)
        have hx := Rd.ofOwn hx (by rw [Hfin.out, G.pad_length]; omega)
        rw [Hfin.out] at hx
        have hr6 := Rr.keep hbB
        obtain ⟨m, hm⟩ : ∃ m : Nat, m = q.length - 1 - r.length := ⟨_, rfl⟩
        have hmb : m ≤ 40 := by omega
        have HM : Hid ((q.length : Int) - 1 - (r.length : Int) = m) := Lib.hid (by omega)
        rw [← hm] at hx
        have Hm' := Lib.hid hm; clear hm
        have hbs := hbB.size
        go_wp2_with (first | (refine wpList_mkB (base := w.heap.size) rfl _ _ rfl Try.underlying33 Try.infoU8 m rfl rfl HM.out HM.out (by omega) hbs ?_; intro w7 hown7 hgr7; have hb7 : Below w.heap.size w w7 := hbB.grown hgr7 hbs (by simp); have hr7 := Rr.keep hb7; have hx7 := hx.keepW (fun k hk => hgr7.block k hk (by simp))) | (refine wpList_appB rfl _ _ rfl Try.underlying33 Try.infoU8 hown7 rfl hr7 rfl (by omega) hb7.size ?_; intro v8 w8 hown8 hgr8 _; have hb8 : Below w.heap.size w w8 := hb7.grown hgr8 hb7.size (by simp [Value.ownBlock]; exact hbs); have hx8 : Rd w8 vx (G.pad m r) := hx.keepW (fun k hk => (hgr8.block k (Nat.lt_of_lt_of_le hk hgr7.size) (by simp [Value.ownBlock]; omega)).trans (hgr7.block k hk (by simp))); have hw8 : Rd w8 v8 (G.pad m r) := Rd.ofOwn' hown8 (by omega); have hcx := run_str (P := Try.prog) Try.underlying33 Try.underlying5 Try.underlying9 hx8; have hcw := run_str (P := Try.prog) Try.underlying33 Try.underlying5 Try.underlying9 hw8))
        go_ret
        exact ⟨rfl, hb8⟩
  · have hd5 : decide (((G.prod p q).length : Int) < (r.length : Int)) = false := by rw [decide_eq_false_iff_not]; omega
    have hs3 := hs
    have hB3 := hB
    have Hrem3 := Hrem
    clear hs hr hq hB hb2 hp
    go_wp2_with fail
    obtain ⟨S, hS⟩ : ∃ S, S = G.prod p q := ⟨_, rfl⟩
    rw [← hS] at hs3 Hrem3 hsg ⊢
    have hrS : r.length ≤ S.length := by rw [hS]; omega
    have hSb : S.length ≤ 200 := by rw [hS]; omega
    clear hS
    have HG := Lib.hid hsg; clear hsg
    go_loopw [60] (fun vk wr => ∃ k : Nat, k ≤ r.length ∧ vk = .int .i64 k ∧ wr.ownsRow w.heap.size 5 1 (.slice asl S.length cs) S.length (bs (G.addEnd S r k)) ∧ Below w.heap.size w wr) (fun vk _ => r.length - (intOf vk).toNat)
    case atStart => exact ⟨0, by omega, rfl, hs3, hB3⟩
    case round =>
      clear hs3 hB3
      obtain ⟨k, hk, rfl, hown, hb⟩ := hrel
      by_cases hlt : k < r.length
      · obtain ⟨_, a'', c'', br, orr, e'', _, hrc⟩ := Rr.keep hb
        simp only [Value.slice.injEq] at e''
        obtain ⟨rfl, _, rfl⟩ := e''
        obtain ⟨hra, hrv⟩ := hrc k hlt
        clear hrc
        have hixr := run_idx (P := Try.prog) Try.underlying33 Try.sizeU8 (n := r.length) (cap := cr) hra hlt _ rfl wr
        have Hra := Lib.hid hra; clear hra
        obtain ⟨hga, hgb⟩ := HG.out (by omega)
        obtain ⟨t, ht⟩ : ∃ t, t = S.length - r.length + k := ⟨_, rfl⟩
        have htl : t < S.length := by omega
        have hixs := run_idx (P := Try.prog) Try.underlying33 Try.sizeU8 (n := S.length) (cap := cs) (k := t) hga htl ((S.length : Int) - (r.length : Int) + (k : Int)) (by omega) wr
        have hcs := ownB_cell hown hga t htl
        have hfs := ownB_frozen hown hga t
        simp only [Nat.zero_add] at hixs
        have Hst : Hid (∀ c, (wr.setCell ⟨g, t, none⟩ (B c)).ownsRow w.heap.size 5 1 (.slice asl S.length cs) S.length (bs ((G.addEnd S r k).set t c))) := Lib.hid (fun c => ownB_store hown hga t c)
        have Hga := Lib.hid hga; clear hga
        have HT := Lib.hid ht; clear ht
        go_wp2_with (go_at_call 15; refine (gadd_at _ _ (G.ix (G.addEnd S r k) t) (G.ix r k) _ rfl rfl).mono ?_; rintro e w' ⟨rfl, rfl⟩)
        go_roundw
        case rel =>
          rw [← UInt8.toNat_xor]
          refine ⟨k + 1, by omega, by go_num, ?_, hb.setCell hgb _⟩
          rw [G.addEnd, ← HT.out]
          exact Hst.out _
        case measure => simp [intOf]; omega
      · obtain rfl : k = r.length := by omega
        have hrd : Rd wr (.slice asl S.length cs) (G.addEnd S r r.length) := by
          have := G.addEnd_length S r r.length
          rw [← this] at hown ⊢
          exact Rd.ofOwn hown (by omega)
        have Hfin : Hid (G.rem (G.addEnd S r r.length) q = G.pad (q.length - 1 - r.length) r) := Lib.hid (G.rem_addEnd S r q hrS h4 Hrem3.out)
        have hlen := G.addEnd_length S r r.length
        have Hlen := Lib.hid hlen; clear hlen
        have hqq := Rq.keep hb
        go_wp2_with fail
        refine (remainder_ok _ _ (G.addEnd S r r.length) q q _ hrd hqq Ht.out Hne.out (by rw [Hlen.out]; omega) (by omega)).mono ?_
        rintro e w6 ⟨vx, rfl, hx, hb6⟩
        have hbB := hb.trans (hb6.mono hb.size)
        have hx := Rd.ofOwn hx (by rw [Hfin.out, G.pad_length]; omega)
        rw [Hfin.out] at hx
        have hr6 := Rr.keep hbB
        obtain ⟨m, hm⟩ : ∃ m : Nat, m = q.length - 1 - r.length := ⟨_, rfl⟩
        have hmb : m ≤ 40 := by omega
        have HM : Hid ((q.length : Int) - 1 - (r.length : Int) = m) := Lib.hid (by omega)
        rw [← hm] at hx
        have Hm' := Lib.hid hm; clear hm
        have hbs := hbB.size
        go_wp2_with (first | (refine wpList_mkB (base := w.heap.size) rfl _ _ rfl Try.underlying33 Try.infoU8 m rfl rfl HM.out HM.out (by omega) hbs ?_; intro w7 hown7 hgr7; have hb7 : Below w.heap.size w w7 := hbB.grown hgr7 hbs (by simp); have hr7 := Rr.keep hb7; have hx7 := hx.keepW (fun k hk => hgr7.block k hk (by simp))) | (refine wpList_appB rfl _ _ rfl Try.underlying33 Try.infoU8 hown7 rfl hr7 rfl (by omega) hb7.size ?_; intro v8 w8 hown8 hgr8 _; have hb8 : Below w.heap.size w w8 := hb7.grown hgr8 hb7.size (by simp [Value.ownBlock]; exact hbs); have hx8 : Rd w8 vx (G.pad m r) := hx.keepW (fun k hk => (hgr8.block k (Nat.lt_of_lt_of_le hk hgr7.size) (by simp [Value.ownBlock]; omega)).trans (hgr7.block k hk (by simp))); have hw8 : Rd w8 v8 (G.pad m r) := Rd.ofOwn' hown8 (by omega); have hcx := run_str (P := Try.prog) Try.underlying33 Try.underlying5 Try.underlying9 hx8; have hcw := run_str (P := Try.prog) Try.underlying33 Try.underlying5 Try.underlying9 hw8))
        go_ret
        exact ⟨rfl, hb8⟩

theorem divides_law (w : World) (vp : Value) (p : List UInt8) (wp : Came w vp p) (vq : Value) (q : List UInt8) (wq : Came w vq q) (vr : Value) (r : List UInt8) (wr : Came w vr r) :
    Calls Try.prog 7 #[vp, vq, vr] w fun e w' => e = .returned (.bool true) ∧ Below w.heap.size w w' := by
  obtain ⟨hp1, hp2, ap, cp, rfl⟩ := wp
  obtain ⟨hq1, hq2, aq, cq, rfl⟩ := wq
  obtain ⟨hr1, hr2, ar, cr, rfl⟩ := wr
  by_cases h1 : 40 < p.length
  · exact divides_a w p q r _ _ _ _ _ _ hp2 hq2 hr2 h1
  by_cases h2 : 40 < q.length
  · exact divides_b w p q r _ _ _ _ _ _ hp2 hq2 hr2 (by omega) h2
  by_cases h3 : q = []
  · exact divides_c w p q r _ _ _ _ _ _ hp2 hq2 hr2 (by omega) h3
  have h3' : 0 < q.length := List.length_pos_iff.2 h3
  by_cases h4 : G.ix q 0 = 0
  · exact divides_d w p q r _ _ _ _ _ _ hp2 hq2 hr2 (by omega) (by omega) h3' (hq1 (by omega)) h4
  by_cases h5 : q.length - 1 < r.length
  · exact divides_e w p q r _ _ _ _ _ _ hp2 hq2 hr2 (by omega) (by omega) h3' (hq1 (by omega)) h4 h5
  · exact divides_main w p q r _ _ _ _ _ _ (by omega) (by omega) h3' (by omega) h4 (hp1 (by omega)) (hq1 (by omega)) (hr1 (by omega))
end Go.Proofs.Ytolfbakabpdhbaa
