/- Polynomial functions, division and Euclid's steps. No program is named here. -/
import Derived.Test.YtkebnmmcogkldaaPol
namespace Go.Proofs.Ytkebnmmcogkldaa.G
set_option linter.unusedVariables false

theorem mas (a b c : UInt8) : mul (mul a b) c = mul a (mul b c) := (mul_assoc a b c).symm
theorem mlc (a b c : UInt8) : mul a (mul b c) = mul b (mul a c) := by rw [mul_assoc, mul_comm a b, mas]
theorem xlc (a b c : UInt8) : a ^^^ (b ^^^ c) = b ^^^ (a ^^^ c) := by rw [← xor_assoc, xor_comm a b, xor_assoc]

/-- the coefficients from 'd' on are 0 -/
def Dg (p : List UInt8) (d : Nat) : Prop := ∀ i, d ≤ i → ix p i = 0
theorem Dg.mono {p : List UInt8} {d e : Nat} (h : Dg p d) (hd : d ≤ e) : Dg p e := fun i hi => h i (by omega)
theorem Dg.len (p : List UInt8) : Dg p p.length := fun i hi => ix_of_le hi
theorem Dg.plus {p q : List UInt8} {d : Nat} (h : Dg p d) (h' : Dg q d) : Dg (plus p q) d := fun i hi => by rw [ixp_plus, h i hi, h' i hi, xor_self]
theorem Dg.addRows {p q : List UInt8} {d e : Nat} (hp : Dg p d) (hq : Dg q e) (t : Nat) (ht : d + e ≤ t + 1) : ∀ k, ix (addRows p q k) t = 0
  | 0 => by rw [G.addRows, ix_zeros]
  | k + 1 => by
    rw [G.addRows, ix_addRow]
    have ih := Dg.addRows hp hq t ht k
    split
    · next h =>
      rw [ih, zero_xor]
      by_cases hk : d ≤ k
      · rw [hp k hk, zero_mul]
      · rw [hq (t - k) (by omega), mul_zero]
    · exact ih
theorem Dg.prod {p q : List UInt8} {d e : Nat} (hp : Dg p d) (hq : Dg q e) {f : Nat} (hf : d + e ≤ f + 1) : Dg (prod p q) f := fun i hi => by
  unfold G.prod
  split
  · simp [ix]
  · exact Dg.addRows hp hq i (by omega) _

/-- a function that is a polynomial with at most 'd' coefficients -/
def Poly (d : Nat) (f : UInt8 → UInt8) : Prop := ∃ p : List UInt8, p.length ≤ d ∧ ∀ z, f z = val p z
theorem Dg.poly {p : List UInt8} {d : Nat} (h : Dg p d) : Poly d (val p) :=
  ⟨p.take d, by rw [List.length_take]; omega, fun z => val_of_coef _ _ (fun i => by
    by_cases hi : i < d
    · unfold ix; simp [hi]
    · rw [h i (by omega), ix_of_le (by rw [List.length_take]; omega)]) z⟩
theorem Poly.mono {d e : Nat} {f : UInt8 → UInt8} (h : Poly d f) (hd : d ≤ e) : Poly e f := by
  obtain ⟨p, hp, h⟩ := h
  exact ⟨p, by omega, h⟩
theorem Poly.congr {d : Nat} {f g : UInt8 → UInt8} (h : Poly d f) (hg : ∀ z, g z = f z) : Poly d g := by
  obtain ⟨p, hp, h⟩ := h
  exact ⟨p, hp, fun z => by rw [hg, h]⟩
theorem Poly.xor {d : Nat} {f g : UInt8 → UInt8} (h : Poly d f) (h' : Poly d g) : Poly d (fun z => f z ^^^ g z) := by
  obtain ⟨p, hp, h⟩ := h
  obtain ⟨q, hq, h'⟩ := h'
  exact ⟨G.plus p q, by rw [plus_len]; omega, fun z => by simp only [val_plus, h, h']⟩
theorem Poly.mul {d e k : Nat} {f g : UInt8 → UInt8} (h : Poly d f) (h' : Poly e g) (hk : d + e ≤ k + 1) : Poly k (fun z => G.mul (f z) (g z)) := by
  obtain ⟨p, hp, h⟩ := h
  obtain ⟨q, hq, h'⟩ := h'
  refine ⟨G.prod p q, ?_, fun z => by simp only [val_prod, h, h']⟩
  unfold G.prod
  split
  · simp
  · rw [addRows_length]; omega
theorem Poly.const (a : UInt8) : Poly 1 (fun _ => a) := ⟨[a], by simp, fun z => (val_one a z).symm⟩
theorem Poly.zero : Poly 0 (fun _ => 0) := ⟨[], by simp, fun z => rfl⟩
theorem Poly.smul {d : Nat} {f : UInt8 → UInt8} (h : Poly d f) (a : UInt8) : Poly d (fun z => G.mul a (f z)) := by
  obtain ⟨p, hp, h⟩ := h
  exact ⟨scale a p, by rw [scale_length]; exact hp, fun z => by simp only [val_scale, h]⟩
theorem Poly.lin (a : UInt8) : Poly 2 (fun z => 1 ^^^ G.mul a z) := ⟨[1, a], by simp, fun z => by simp only [val_cons, val_nil, zero_mul, zero_xor]; exact xor_comm _ _⟩
theorem Poly.sum {d : Nat} {f : Nat → UInt8 → UInt8} (h : ∀ j, Poly d (f j)) : ∀ n, Poly d (fun z => sumN (fun j => f j z) n)
  | 0 => (Poly.zero.mono (Nat.zero_le _)).congr fun z => rfl
  | n + 1 => ((Poly.sum h n).xor (h n)).congr fun z => rfl
/-- a polynomial with at most 'n' coefficients that is a multiple of the 'n'th power -/
theorem Poly.low {n m : Nat} {f g : UInt8 → UInt8} (hf : Poly n f) (hg : Poly m g) (hn : n + m ≤ 256) (h : ∀ z, f z = G.mul (pw z n) (g z)) (z : UInt8) : f z = 0 := by
  obtain ⟨p, hp, hfp⟩ := hf
  obtain ⟨q, hq, hgq⟩ := hg
  have hc := coef_eq p (List.replicate n 0 ++ q) (by omega) (by simp; omega) (fun x => by
    rw [← hfp, h, val_append, val_zeros, zero_xor, List.length_replicate, hgq, mul_comm])
  rw [hfp]
  have : ∀ i, ix p i = ix [] i := fun i => by
    rw [show ix [] i = 0 by simp [ix]]
    by_cases hi : i < n
    · rw [hc, ix_append_left (by simpa using hi), ix_zeros]
    · exact ix_of_le (by omega)
  rw [val_of_coef p [] this]
  rfl
theorem Poly.zero_but {d : Nat} {f : UInt8 → UInt8} (hf : Poly d f) (hd : d ≤ 255) (z : UInt8) (h : ∀ x, x ≠ z → f x = 0) (x : UInt8) : f x = 0 := by
  obtain ⟨p, hp, hfp⟩ := hf
  rw [hfp]
  exact G.zero_but p z (by omega) (fun y hy => by rw [← hfp]; exact h y hy) x
theorem Poly.factor {d : Nat} {f : UInt8 → UInt8} (hf : Poly (d + 1) f) {r : UInt8} (h : f r = 0) : ∃ g, Poly d g ∧ ∀ x, f x = G.mul (x ^^^ r) (g x) := by
  obtain ⟨p, hp, hfp⟩ := hf
  exact ⟨val (quo r p), ⟨quo r p, by rw [quo_length]; omega, fun z => rfl⟩, fun x => by rw [hfp, val_factor (by rw [← hfp]; exact h)]⟩

/-- a division's steps: the dividend is kept; the quotient's degree -/
theorem divLoop_spec (q : List UInt8) (n : Nat) (iv x : UInt8) (hq : Dg q (n + 1)) : ∀ (k : Nat) (S1 S2 : List UInt8), k ≤ S1.length → n + k ≤ S2.length → (∀ i, i < k → ix S1 i = 0) →
    val (divLoop q n iv k (S1, S2)).2 x ^^^ mul (val (divLoop q n iv k (S1, S2)).1 x) (val q x) = val S2 x ^^^ mul (val S1 x) (val q x)
  | 0, S1, S2, _, _, _ => rfl
  | k + 1, S1, S2, h1, h2, h3 => by
    rw [divLoop]
    have e0 : divStep q n iv (n + k) (S1, S2) = (S1.set k (mul (ix S2 (n + k)) iv), addRow k (mul (ix S2 (n + k)) iv) q (n + 1) S2) := by
      unfold divStep; simp only [Nat.add_sub_cancel_left]
    rw [e0]
    obtain ⟨f, hf⟩ : ∃ f, f = mul (ix S2 (n + k)) iv := ⟨_, rfl⟩
    rw [← hf]
    rw [divLoop_spec q n iv x hq k _ _ (by rw [List.length_set]; omega) (by rw [addRow_length]; omega) (fun i hi => by
      have : ix (S1.set k f) i = ix S1 i := by unfold ix; rw [List.getD_eq_getElem?_getD, List.getElem?_set_ne (by omega), ← List.getD_eq_getElem?_getD]
      rw [this]; exact h3 i (by omega))]
    have e1 : S1.set k f = bump S1 k f := by unfold bump; rw [h3 k (by omega), zero_xor]
    have e2 : val (addRow k f q (n + 1) S2) x = val S2 x ^^^ mul (mul f (pw x k)) (val q x) := by
      have hz : val (addRow k f q (n + 1) S2) x = val (addRow k f (q ++ List.replicate (n + 1) 0) (n + 1) S2) x := by
        apply val_of_coef
        intro i
        rw [ix_addRow, ix_addRow]
        have : ∀ t, ix (q ++ List.replicate (n + 1) 0) t = ix q t := fun t => by
          by_cases ht : t < q.length
          · exact ix_append_left ht
          · rw [ix_append_right (by omega), ix_zeros, ix_of_le (by omega)]
        rw [this]
      rw [hz, val_addRow _ _ _ _ _ _ (by simp) (by omega)]
      congr 2
      apply val_of_coef
      intro i
      by_cases hi : i < n + 1
      · have : ix ((q ++ List.replicate (n + 1) 0).take (n + 1)) i = ix (q ++ List.replicate (n + 1) 0) i := by unfold ix; rw [List.getD_eq_getElem?_getD, List.getD_eq_getElem?_getD, List.getElem?_take, if_pos hi]
        rw [this]
        by_cases ht : i < q.length
        · exact ix_append_left ht
        · rw [ix_append_right (by omega), ix_zeros, ix_of_le (by omega)]
      · rw [hq i (by omega), ix_of_le (by rw [List.length_take]; omega)]
    rw [e1, e2, val_bump _ _ _ _ (by omega), xor_mul, xor_assoc]
    congr 1
    rw [← xor_assoc, xor_comm (mul (mul f (pw x k)) (val q x)), xor_assoc, xor_self, xor_zero]
theorem divLoop_quot (q : List UInt8) (n : Nat) (iv : UInt8) : ∀ (k : Nat) (s : List UInt8 × List UInt8) (i : Nat), k ≤ i → ix (divLoop q n iv k s).1 i = ix s.1 i
  | 0, s, i, _ => rfl
  | k + 1, s, i, h => by
    rw [divLoop, divLoop_quot q n iv k _ i (by omega), divStep]
    simp only [Nat.add_sub_cancel_left]
    unfold ix
    rw [List.getD_eq_getElem?_getD, List.getElem?_set_ne (by omega), ← List.getD_eq_getElem?_getD]
theorem divide_spec (p q : List UInt8) (n m : Nat) (hn : deg q = (n : Int)) (hm : deg p = (m : Int)) (hnm : n ≤ m) (x : UInt8) :
    val p x = mul (val (divide p q).1 x) (val q x) ^^^ val (divide p q).2 x := by
  have hb := deg_bounds p
  have hs := divLoop_spec q n (inv (ix q n)) x (fun i hi => ix_of_deg (by omega)) (m + 1 - n) (List.replicate (p.length - n) 0) p (by simp; omega) (by omega) (fun i _ => ix_zeros _ _)
  have e : divide p q = divLoop q n (inv (ix q n)) (m + 1 - n) (List.replicate (p.length - n) 0, p) := by
    rw [divide_eq hn, hm, show ((m : Int) + 1 - n).toNat = m + 1 - n by omega, show (max ((p.length : Int) - n) 1).toNat = p.length - n by omega]
  rw [← e, val_zeros, zero_mul, xor_zero] at hs
  rw [← hs, xor_comm]
theorem divide_quot (p q : List UInt8) (n m : Nat) (hn : deg q = (n : Int)) (hm : deg p = (m : Int)) (hnm : n ≤ m) : Dg (divide p q).1 (m - n + 1) := fun i hi => by
  rw [divide_eq hn, hm, divLoop_quot _ _ _ _ _ _ (by omega), ix_zeros]

/-- what Euclid's steps keep: 'w' is the polynomial that is divided first into the 'n'th power -/
structure Euc (n : Nat) (w : UInt8 → UInt8) (a b u v : List UInt8) (d : Nat) : Prop where
  dega : deg a = (d : Int)
  dn : d ≤ n
  degb : deg b < (d : Int)
  pu : Dg u (n - d + 1)
  pv : Dg v (n - d + 1)
  cong : ∃ Ua Ub : UInt8 → UInt8, Poly (n - d + 1) Ua ∧ Poly (n - d + 1) Ub ∧ (∀ z, mul (val u z) (w z) = val a z ^^^ mul (pw z n) (Ua z)) ∧ (∀ z, mul (val v z) (w z) = val b z ^^^ mul (pw z n) (Ub z))
  det : ∀ z, mul (val u z) (val b z) ^^^ mul (val v z) (val a z) = pw z n
theorem Euc.step {n d e : Nat} {w : UInt8 → UInt8} {a b u v : List UInt8} (h : Euc n w a b u v d) (hb : deg b = (e : Int)) : Euc n w b (divide a b).2 v (plus u (prod (divide a b).1 v)) e := by
  have hed : e < d := by have := h.degb; omega
  have hdn := h.dn
  have hdiv := divide_spec a b e d hb h.dega (by omega)
  have hq := divide_quot a b e d hb h.dega (by omega)
  obtain ⟨Ua, Ub, pa, pb, ca, cb⟩ := h.cong
  refine ⟨hb, by omega, ?_, h.pv.mono (by omega), (h.pu.mono (by omega)).plus (hq.prod h.pv (by omega)), ⟨Ub, fun z => Ua z ^^^ mul (val (divide a b).1 z) (Ub z), pb.mono (by omega), (pa.mono (by omega)).xor (hq.poly.mul pb (by omega)), cb, fun z => ?_⟩, fun z => ?_⟩
  · have := divide_deg a b (by omega); rwa [hb] at this
  · rw [val_plus, val_prod, xor_mul, ca, ← mul_assoc, cb, hdiv z]
    simp only [mul_xor, xor_mul, mas, mul_comm, mlc, xor_assoc, xor_comm, xlc, xor_cancel]
  · have hd := h.det z
    rw [hdiv z] at hd
    rw [val_plus, val_prod, ← hd]
    generalize val (divide a b).1 z = Q
    generalize val (divide a b).2 z = R
    generalize val b z = Bz
    generalize val v z = V
    generalize val u z = U
    simp only [mul_xor, mul_comm, mlc, xor_assoc, xor_comm]
theorem Euc.loop {n : Nat} {w : UInt8 → UInt8} (t : Int) (ht : 0 < t) : ∀ (f : Nat) (a b u v : List UInt8) (d : Nat), Euc n w a b u v d → t ≤ 2 * (d : Int) → deg b + 1 ≤ (f : Int) →
    ∃ a' u' d', Euc n w a' (euc t f a b u v).1 u' (euc t f a b u v).2 d' ∧ t ≤ 2 * (d' : Int) ∧ 2 * deg (euc t f a b u v).1 < t
  | 0, a, b, u, v, d, h, h1, h2 => ⟨a, u, d, h, h1, by rw [euc]; simp only; have := deg_bounds b; omega⟩
  | f + 1, a, b, u, v, d, h, h1, h2 => by
    rw [euc]
    by_cases hc : t ≤ 2 * deg b
    · rw [if_pos hc]
      obtain ⟨e, he⟩ : ∃ e : Nat, deg b = (e : Int) := ⟨(deg b).toNat, by omega⟩
      have hs := h.step he
      exact Euc.loop t ht f b (divide a b).2 v (plus u (prod (divide a b).1 v)) e hs (by omega) (by have := hs.degb; omega)
    · rw [if_neg hc]
      exact ⟨a, u, d, h, h1, by simp only; omega⟩
theorem deg_pow (n : Nat) : deg (List.replicate n 0 ++ [1]) = n := by
  have e : (List.replicate n (0 : UInt8) ++ [1]).length = n + 1 := by simp
  unfold deg
  rw [e, degN, if_neg]
  rw [ix_append_right (by simp)]
  simp [ix]
theorem Euc.start {n : Nat} {w : List UInt8} (hw : w.length ≤ n) : Euc n (val w) (List.replicate n 0 ++ [1]) w [0] [1] n := by
  have hd : Dg [0] (n - n + 1) := fun i hi => ix_of_le (by simp; omega)
  have hd1 : Dg [1] (n - n + 1) := fun i hi => ix_of_le (by simp; omega)
  have hv : ∀ z, val (List.replicate n 0 ++ [1]) z = pw z n := fun z => by rw [val_append, val_zeros, zero_xor, List.length_replicate, val_one, one_mul]
  refine ⟨deg_pow n, Nat.le_refl _, by have := deg_bounds w; omega, hd, hd1, ⟨fun _ => 1, fun _ => 0, (Poly.const 1).mono (by omega), (Poly.const 0).mono (by omega), fun z => ?_, fun z => ?_⟩, fun z => ?_⟩
  · rw [val_one, zero_mul, hv, mul_one, xor_self]
  · rw [val_one, one_mul, mul_zero, xor_zero]
  · rw [val_one, val_one, zero_mul, one_mul, hv, zero_xor]
end Go.Proofs.Ytkebnmmcogkldaa.G
