/- Parts: XEuc XCor -/
import Derived.Test.YtflmjdjkfognjaaGreatTe01
namespace Go.Proofs.YtflmjdjkfognjaaGreat.G
set_option linter.unusedVariables false
theorem mas (a b c : UInt8) : mul (mul a b) c = mul a (mul b c) := (mul_assoc a b c).symm
theorem mlc (a b c : UInt8) : mul a (mul b c) = mul b (mul a c) := by rw [mul_assoc, mul_comm a b, mas]
theorem xlc (a b c : UInt8) : a ^^^ (b ^^^ c) = b ^^^ (a ^^^ c) := by rw [← xor_assoc, xor_comm a b, xor_assoc]
def Dg (p : List UInt8) (d : Nat) : Prop := ∀ i, d ≤ i → ix p i = 0
theorem Dg.mono {p : List UInt8} {d e : Nat} (h : Dg p d) (hd : d ≤ e) : Dg p e := fun i hi => h i (by omega)
theorem Dg.len (p : List UInt8) : Dg p p.length := fun i hi => ix_of_le hi
theorem Dg.plus {p q : List UInt8} {d : Nat} (h : Dg p d) (h' : Dg q d) : Dg (plus p q) d := fun i hi => by rw [ixp_plus, h i hi, h' i hi, xor_self]
theorem Dg.addRows {p q : List UInt8} {d e : Nat} (hp : Dg p d) (hq : Dg q e) (t : Nat) (ht : d + e ≤ t + 1) : ∀ k, ix (addRows p q k) t = 0
  | 0 => by rw [G.addRows, ix_zeros]
  | k + 1 => by
    rw [G.addRows, ix_addRow]
    have ih := Dg.addRows hp hq t ht k
    split
    · next h =>
      rw [ih, zero_xor]
      by_cases hk : d ≤ k
      · rw [hp k hk, zero_mul]
      · rw [hq (t - k) (by omega), mul_zero]
    · exact ih
theorem Dg.prod {p q : List UInt8} {d e : Nat} (hp : Dg p d) (hq : Dg q e) {f : Nat} (hf : d + e ≤ f + 1) : Dg (prod p q) f := fun i hi => by
  unfold G.prod
  split
  · simp [ix]
  · exact Dg.addRows hp hq i (by omega) _
def Poly (d : Nat) (f : UInt8 → UInt8) : Prop := ∃ p : List UInt8, p.length ≤ d ∧ ∀ z, f z = val p z
theorem Dg.poly {p : List UInt8} {d : Nat} (h : Dg p d) : Poly d (val p) :=
  ⟨p.take d, by rw [List.length_take]; omega, fun z => val_of_coef _ _ (fun i => by
    by_cases hi : i < d
    · unfold ix; simp [hi]
    · rw [h i (by omega), ix_of_le (by rw [List.length_take]; omega)]) z⟩
theorem Poly.mono {d e : Nat} {f : UInt8 → UInt8} (h : Poly d f) (hd : d ≤ e) : Poly e f := by
  obtain ⟨p, hp, h⟩ := h
  exact ⟨p, by omega, h⟩
theorem Poly.congr {d : Nat} {f g : UInt8 → UInt8} (h : Poly d f) (hg : ∀ z, g z = f z) : Poly d g := by
  obtain ⟨p, hp, h⟩ := h
  exact ⟨p, hp, fun z => by rw [hg, h]⟩
theorem Poly.xor {d : Nat} {f g : UInt8 → UInt8} (h : Poly d f) (h' : Poly d g) : Poly d (fun z => f z ^^^ g z) := by
  obtain ⟨p, hp, h⟩ := h
  obtain ⟨q, hq, h'⟩ := h'
  exact ⟨G.plus p q, by rw [plus_len]; omega, fun z => by simp only [val_plus, h, h']⟩
theorem Poly.mul {d e k : Nat} {f g : UInt8 → UInt8} (h : Poly d f) (h' : Poly e g) (hk : d + e ≤ k + 1) : Poly k (fun z => G.mul (f z) (g z)) := by
  obtain ⟨p, hp, h⟩ := h
  obtain ⟨q, hq, h'⟩ := h'
  refine ⟨G.prod p q, ?_, fun z => by simp only [val_prod, h, h']⟩
  unfold G.prod
  split
  · simp
  · rw [addRows_length]; omega
theorem Poly.const (a : UInt8) : Poly 1 (fun _ => a) := ⟨[a], by simp, fun z => (val_one a z).symm⟩
theorem Poly.zero : Poly 0 (fun _ => 0) := ⟨[], by simp, fun z => rfl⟩
theorem Poly.smul {d : Nat} {f : UInt8 → UInt8} (h : Poly d f) (a : UInt8) : Poly d (fun z => G.mul a (f z)) := by
  obtain ⟨p, hp, h⟩ := h
  exact ⟨scale a p, by rw [scale_length]; exact hp, fun z => by simp only [val_scale, h]⟩
theorem Poly.lin (a : UInt8) : Poly 2 (fun z => 1 ^^^ G.mul a z) := ⟨[1, a], by simp, fun z => by simp only [val_cons, val_nil, zero_mul, zero_xor]; exact xor_comm _ _⟩
theorem Poly.sum {d : Nat} {f : Nat → UInt8 → UInt8} (h : ∀ j, Poly d (f j)) : ∀ n, Poly d (fun z => sumN (fun j => f j z) n)
  | 0 => (Poly.zero.mono (Nat.zero_le _)).congr fun z => rfl
  | n + 1 => ((Poly.sum h n).xor (h n)).congr fun z => rfl
theorem Poly.low {n m : Nat} {f g : UInt8 → UInt8} (hf : Poly n f) (hg : Poly m g) (hn : n + m ≤ 256) (h : ∀ z, f z = G.mul (pw z n) (g z)) (z : UInt8) : f z = 0 := by
  obtain ⟨p, hp, hfp⟩ := hf
  obtain ⟨q, hq, hgq⟩ := hg
  have hc := coef_eq p (List.replicate n 0 ++ q) (by omega) (by simp; omega) (fun x => by
    rw [← hfp, h, val_append, val_zeros, zero_xor, List.length_replicate, hgq, mul_comm])
  rw [hfp]
  have : ∀ i, ix p i = ix [] i := fun i => by
    rw [show ix [] i = 0 by simp [ix]]
    by_cases hi : i < n
    · rw [hc, ix_append_left (by simpa using hi), ix_zeros]
    · exact ix_of_le (by omega)
  rw [val_of_coef p [] this]
  rfl
theorem Poly.zero_but {d : Nat} {f : UInt8 → UInt8} (hf : Poly d f) (hd : d ≤ 255) (z : UInt8) (h : ∀ x, x ≠ z → f x = 0) (x : UInt8) : f x = 0 := by
  obtain ⟨p, hp, hfp⟩ := hf
  rw [hfp]
  exact G.zero_but p z (by omega) (fun y hy => by rw [← hfp]; exact h y hy) x
theorem Poly.factor {d : Nat} {f : UInt8 → UInt8} (hf : Poly (d + 1) f) {r : UInt8} (h : f r = 0) : ∃ g, Poly d g ∧ ∀ x, f x = G.mul (x ^^^ r) (g x) := by
  obtain ⟨p, hp, hfp⟩ := hf
  exact ⟨val (quo r p), ⟨quo r p, by rw [quo_length]; omega, fun z => rfl⟩, fun x => by rw [hfp, val_factor (by rw [← hfp]; exact h)]⟩
theorem divLoop_spec (q : List UInt8) (n : Nat) (iv x : UInt8) (hq : Dg q (n + 1)) : ∀ (k : Nat) (S1 S2 : List UInt8), k ≤ S1.length → n + k ≤ S2.length → (∀ i, i < k → ix S1 i = 0) →
    val (divLoop q n iv k (S1, S2)).2 x ^^^ mul (val (divLoop q n iv k (S1, S2)).1 x) (val q x) = val S2 x ^^^ mul (val S1 x) (val q x)
  | 0, S1, S2, _, _, _ => rfl
  | k + 1, S1, S2, h1, h2, h3 => by
    rw [divLoop]
    have e0 : divStep q n iv (n + k) (S1, S2) = (S1.set k (mul (ix S2 (n + k)) iv), addRow k (mul (ix S2 (n + k)) iv) q (n + 1) S2) := by
      unfold divStep; simp only [Nat.add_sub_cancel_left]
    rw [e0]
    obtain ⟨f, hf⟩ : ∃ f, f = mul (ix S2 (n + k)) iv := ⟨_, rfl⟩
    rw [← hf]
    rw [divLoop_spec q n iv x hq k _ _ (by rw [List.length_set]; omega) (by rw [addRow_length]; omega) (fun i hi => by
      have : ix (S1.set k f) i = ix S1 i := by unfold ix; rw [List.getD_eq_getElem?_getD, List.getElem?_set_ne (by omega), ← List.getD_eq_getElem?_getD]
      rw [this]; exact h3 i (by omega))]
    have e1 : S1.set k f = bump S1 k f := by unfold bump; rw [h3 k (by omega), zero_xor]
    have e2 : val (addRow k f q (n + 1) S2) x = val S2 x ^^^ mul (mul f (pw x k)) (val q x) := by
      have hz : val (addRow k f q (n + 1) S2) x = val (addRow k f (q ++ List.replicate (n + 1) 0) (n + 1) S2) x := by
        apply val_of_coef
        intro i
        rw [ix_addRow, ix_addRow]
        have : ∀ t, ix (q ++ List.replicate (n + 1) 0) t = ix q t := fun t => by
          by_cases ht : t < q.length
          · exact ix_append_left ht
          · rw [ix_append_right (by omega), ix_zeros, ix_of_le (by omega)]
        rw [this]
      rw [hz, val_addRow _ _ _ _ _ _ (by simp) (by omega)]
      congr 2
      apply val_of_coef
      intro i
      by_cases hi : i < n + 1
      · have : ix ((q ++ List.replicate (n + 1) 0).take (n + 1)) i = ix (q ++ List.replicate (n + 1) 0) i := by unfold ix; rw [List.getD_eq_getElem?_getD, List.getD_eq_getElem?_getD, List.getElem?_take, if_pos hi]
        rw [this]
        by_cases ht : i < q.length
        · exact ix_append_left ht
        · rw [ix_append_right (by omega), ix_zeros, ix_of_le (by omega)]
      · rw [hq i (by omega), ix_of_le (by rw [List.length_take]; omega)]
    rw [e1, e2, val_bump _ _ _ _ (by omega), xor_mul, xor_assoc]
    congr 1
    rw [← xor_assoc, xor_comm (mul (mul f (pw x k)) (val q x)), xor_assoc, xor_self, xor_zero]
theorem divLoop_quot (q : List UInt8) (n : Nat) (iv : UInt8) : ∀ (k : Nat) (s : List UInt8 × List UInt8) (i : Nat), k ≤ i → ix (divLoop q n iv k s).1 i = ix s.1 i
  | 0, s, i, _ => rfl
  | k + 1, s, i, h => by
    rw [divLoop, divLoop_quot q n iv k _ i (by omega), divStep]
    simp only [Nat.add_sub_cancel_left]
    unfold ix
    rw [List.getD_eq_getElem?_getD, List.getElem?_set_ne (by omega), ← List.getD_eq_getElem?_getD]
theorem divide_spec (p q : List UInt8) (n m : Nat) (hn : deg q = (n : Int)) (hm : deg p = (m : Int)) (hnm : n ≤ m) (x : UInt8) :
    val p x = mul (val (divide p q).1 x) (val q x) ^^^ val (divide p q).2 x := by
  have hb := deg_bounds p
  have hs := divLoop_spec q n (inv (ix q n)) x (fun i hi => ix_of_deg (by omega)) (m + 1 - n) (List.replicate (p.length - n) 0) p (by simp; omega) (by omega) (fun i _ => ix_zeros _ _)
  have e : divide p q = divLoop q n (inv (ix q n)) (m + 1 - n) (List.replicate (p.length - n) 0, p) := by
    rw [divide_eq hn, hm, show ((m : Int) + 1 - n).toNat = m + 1 - n by omega, show (max ((p.length : Int) - n) 1).toNat = p.length - n by omega]
  rw [← e, val_zeros, zero_mul, xor_zero] at hs
  rw [← hs, xor_comm]
theorem divide_quot (p q : List UInt8) (n m : Nat) (hn : deg q = (n : Int)) (hm : deg p = (m : Int)) (hnm : n ≤ m) : Dg (divide p q).1 (m - n + 1) := fun i hi => by
  rw [divide_eq hn, hm, divLoop_quot _ _ _ _ _ _ (by omega), ix_zeros]
structure Euc (n : Nat) (w : UInt8 → UInt8) (a b u v : List UInt8) (d : Nat) : Prop where
  dega : deg a = (d : Int)
  dn : d ≤ n
  degb : deg b < (d : Int)
  pu : Dg u (n - d + 1)
  pv : Dg v (n - d + 1)
  cong : ∃ Ua Ub : UInt8 → UInt8, Poly (n - d + 1) Ua ∧ Poly (n - d + 1) Ub ∧ (∀ z, mul (val u z) (w z) = val a z ^^^ mul (pw z n) (Ua z)) ∧ (∀ z, mul (val v z) (w z) = val b z ^^^ mul (pw z n) (Ub z))
  det : ∀ z, mul (val u z) (val b z) ^^^ mul (val v z) (val a z) = pw z n
theorem Euc.step {n d e : Nat} {w : UInt8 → UInt8} {a b u v : List UInt8} (h : Euc n w a b u v d) (hb : deg b = (e : Int)) : Euc n w b (divide a b).2 v (plus u (prod (divide a b).1 v)) e := by
  have hed : e < d := by have := h.degb; omega
  have hdn := h.dn
  have hdiv := divide_spec a b e d hb h.dega (by omega)
  have hq := divide_quot a b e d hb h.dega (by omega)
  obtain ⟨Ua, Ub, pa, pb, ca, cb⟩ := h.cong
  refine ⟨hb, by omega, ?_, h.pv.mono (by omega), (h.pu.mono (by omega)).plus (hq.prod h.pv (by omega)), ⟨Ub, fun z => Ua z ^^^ mul (val (divide a b).1 z) (Ub z), pb.mono (by omega), (pa.mono (by omega)).xor (hq.poly.mul pb (by omega)), cb, fun z => ?_⟩, fun z => ?_⟩
  · have := divide_deg a b (by omega); rwa [hb] at this
  · rw [val_plus, val_prod, xor_mul, ca, ← mul_assoc, cb, hdiv z]
    simp only [mul_xor, xor_mul, mas, mul_comm, mlc, xor_assoc, xor_comm, xlc, xor_cancel]
  · have hd := h.det z
    rw [hdiv z] at hd
    rw [val_plus, val_prod, ← hd]
    generalize val (divide a b).1 z = Q
    generalize val (divide a b).2 z = R
    generalize val b z = Bz
    generalize val v z = V
    generalize val u z = U
    simp only [mul_xor, mul_comm, mlc, xor_assoc, xor_comm]
theorem Euc.loop {n : Nat} {w : UInt8 → UInt8} (t : Int) (ht : 0 < t) : ∀ (f : Nat) (a b u v : List UInt8) (d : Nat), Euc n w a b u v d → t ≤ 2 * (d : Int) → deg b + 1 ≤ (f : Int) →
    ∃ a' u' d', Euc n w a' (euc t f a b u v).1 u' (euc t f a b u v).2 d' ∧ t ≤ 2 * (d' : Int) ∧ 2 * deg (euc t f a b u v).1 < t
  | 0, a, b, u, v, d, h, h1, h2 => ⟨a, u, d, h, h1, by rw [euc]; simp only; have := deg_bounds b; omega⟩
  | f + 1, a, b, u, v, d, h, h1, h2 => by
    rw [euc]
    by_cases hc : t ≤ 2 * deg b
    · rw [if_pos hc]
      obtain ⟨e, he⟩ : ∃ e : Nat, deg b = (e : Int) := ⟨(deg b).toNat, by omega⟩
      have hs := h.step he
      exact Euc.loop t ht f b (divide a b).2 v (plus u (prod (divide a b).1 v)) e hs (by omega) (by have := hs.degb; omega)
    · rw [if_neg hc]
      exact ⟨a, u, d, h, h1, by simp only; omega⟩
theorem deg_pow (n : Nat) : deg (List.replicate n 0 ++ [1]) = n := by
  have e : (List.replicate n (0 : UInt8) ++ [1]).length = n + 1 := by simp
  unfold deg
  rw [e, degN, if_neg]
  rw [ix_append_right (by simp)]
  simp [ix]
theorem Euc.start {n : Nat} {w : List UInt8} (hw : w.length ≤ n) : Euc n (val w) (List.replicate n 0 ++ [1]) w [0] [1] n := by
  have hd : Dg [0] (n - n + 1) := fun i hi => ix_of_le (by simp; omega)
  have hd1 : Dg [1] (n - n + 1) := fun i hi => ix_of_le (by simp; omega)
  have hv : ∀ z, val (List.replicate n 0 ++ [1]) z = pw z n := fun z => by rw [val_append, val_zeros, zero_xor, List.length_replicate, val_one, one_mul]
  refine ⟨deg_pow n, Nat.le_refl _, by have := deg_bounds w; omega, hd, hd1, ⟨fun _ => 1, fun _ => 0, (Poly.const 1).mono (by omega), (Poly.const 0).mono (by omega), fun z => ?_, fun z => ?_⟩, fun z => ?_⟩
  · rw [val_one, zero_mul, hv, mul_one, xor_self]
  · rw [val_one, one_mul, mul_zero, xor_zero]
  · rw [val_one, val_one, zero_mul, one_mul, hv, zero_xor]
end Go.Proofs.YtflmjdjkfognjaaGreat.G
namespace Go.Proofs.YtflmjdjkfognjaaGreat.G
set_option linter.unusedVariables false
theorem sumN_swap (f : Nat → Nat → UInt8) (m : Nat) : ∀ n, sumN (fun k => sumN (fun j => f j k) m) n = sumN (fun j => sumN (fun k => f j k) n) m
  | 0 => by rw [sumN, sumN_congr (f := fun j => sumN (fun k => f j k) 0) m (g := fun _ => 0) (fun i _ => rfl), sumN_zero]
  | n + 1 => by rw [sumN, sumN_swap f m n, ← sumN_xor]; rfl
theorem pw_mul (a b : UInt8) : ∀ k, pw (mul a b) k = mul (pw a k) (pw b k)
  | 0 => by rw [pw, pw, pw, mul_one]
  | k + 1 => by rw [pw, pw, pw, pw_mul a b k]; simp only [mas, mul_comm, mlc]
theorem geo (y : UInt8) : ∀ n, mul (1 ^^^ y) (sumN (fun k => pw y k) n) = 1 ^^^ pw y n
  | 0 => by rw [sumN, mul_zero, pw, xor_self]
  | n + 1 => by rw [sumN, mul_xor, geo y n, xor_mul, one_mul, pw, mul_comm y, xor_assoc, ← xor_assoc (pw y n), xor_self, zero_xor]
def vg (N : Nat) : List Nat → UInt8 → UInt8
  | [], _ => 1
  | j :: L, z => mul (1 ^^^ mul (loc N j) z) (vg N L z)
theorem vg_poly (N : Nat) : ∀ L, Poly (L.length + 1) (vg N L)
  | [] => (Poly.const 1).congr fun z => rfl
  | j :: L => ((Poly.lin (loc N j)).mul (vg_poly N L) (by simp; omega)).congr fun z => rfl
theorem vg_append (N : Nat) (z : UInt8) (M : List Nat) : ∀ L, vg N (L ++ M) z = mul (vg N L z) (vg N M z)
  | [] => by rw [List.nil_append, vg, one_mul]
  | j :: L => by rw [List.cons_append, vg, vg, vg_append N z M L, mas]
theorem vg_erase (N : Nat) (z : UInt8) (i : Nat) : ∀ L, i ∈ L → vg N L z = mul (1 ^^^ mul (loc N i) z) (vg N (L.erase i) z)
  | [], h => by simp at h
  | j :: L, h => by
    by_cases e : j = i
    · subst e; rw [List.erase_cons_head, vg]
    · rw [List.erase_cons_tail (by simpa using e), vg, vg, vg_erase N z i L (by simpa [Ne.symm e] using h), mlc]
theorem vg_zero (N : Nat) (z : UInt8) : ∀ L, vg N L z = 0 ↔ ∃ j ∈ L, mul (loc N j) z = 1
  | [] => by simp [vg]
  | j :: L => by
    rw [vg]
    constructor
    · intro h
      rcases mul_eq_zero h with h | h
      · exact ⟨j, by simp, (xor_eq_zero h).symm⟩
      · obtain ⟨i, hi, e⟩ := (vg_zero N z L).1 h
        exact ⟨i, by simp [hi], e⟩
    · rintro ⟨i, hi, e⟩
      rcases List.mem_cons.1 hi with rfl | hi
      · rw [e, xor_self, zero_mul]
      · rw [(vg_zero N z L).2 ⟨i, hi, e⟩, mul_zero]
def zi (N i : Nat) : UInt8 := inv (loc N i)
theorem zi_ne (N i : Nat) : zi N i ≠ 0 := inv_ne (loc_ne N i)
theorem loc_zi (N i : Nat) : mul (loc N i) (zi N i) = 1 := mul_inv (loc_ne N i)
theorem loc_zi_iff {N i j : Nat} (hN : N ≤ 255) (hi : i < N) (hj : j < N) : mul (loc N j) (zi N i) = 1 ↔ j = i := by
  constructor
  · intro h
    apply loc_inj hN hj hi
    have h2 := loc_zi N i
    have : mul (zi N i) (loc N j) = mul (zi N i) (loc N i) := by rw [mul_comm, h, mul_comm, h2]
    exact mul_cancel (zi_ne N i) this
  · rintro rfl; exact loc_zi N j
theorem vg_zi {N i : Nat} (hN : N ≤ 255) (hi : i < N) {L : List Nat} (hL : ∀ j ∈ L, j < N) : vg N L (zi N i) = 0 ↔ i ∈ L := by
  rw [vg_zero]
  constructor
  · rintro ⟨j, hj, e⟩
    rw [loc_zi_iff hN hi (hL j hj)] at e
    exact e ▸ hj
  · intro h
    exact ⟨i, h, loc_zi N i⟩
def om (e : List UInt8) (L : List Nat) (z : UInt8) : UInt8 := sumN (fun j => mul (ix e j) (vg e.length (L.erase j) z)) e.length
def tau (e : List UInt8) (L : List Nat) (n : Nat) (z : UInt8) : UInt8 := sumN (fun j => mul (mul (ix e j) (pw (loc e.length j) n)) (vg e.length (L.erase j) z)) e.length
theorem term_poly (e : List UInt8) (L : List Nat) (hL : ∀ j, ix e j ≠ 0 → j ∈ L) (a : Nat → UInt8) (j : Nat) : Poly L.length (fun z => mul (mul (ix e j) (a j)) (vg e.length (L.erase j) z)) := by
  by_cases h : ix e j = 0
  · exact (Poly.zero.mono (Nat.zero_le _)).congr fun z => by rw [h, zero_mul, zero_mul]
  · have hj := hL j h
    have hlen := List.length_erase_of_mem hj
    have hpos : 0 < L.length := List.length_pos_of_mem hj
    exact ((vg_poly e.length (L.erase j)).smul _).mono (by omega)
theorem tau_poly (e : List UInt8) (L : List Nat) (n : Nat) (hL : ∀ j, ix e j ≠ 0 → j ∈ L) : Poly L.length (tau e L n) :=
  (Poly.sum (fun j => term_poly e L hL (fun j => pw (loc e.length j) n) j) e.length).congr fun z => rfl
theorem om_poly (e : List UInt8) (L : List Nat) (hL : ∀ j, ix e j ≠ 0 → j ∈ L) : Poly L.length (om e L) :=
  (Poly.sum (fun j => term_poly e L hL (fun j => 1) j) e.length).congr fun z => by
    unfold om; exact sumN_congr _ fun j _ => by rw [mul_one]
theorem val_synd (e : List UInt8) (n : Nat) (z : UInt8) : val (synd e n) z = sumN (fun j => mul (ix e j) (sumN (fun k => pw (mul (loc e.length j) z) k) n)) e.length := by
  rw [val_sum z (synd e n) n (by rw [synd_length]; exact Nat.le_refl _)]
  rw [sumN_congr n (g := fun k => sumN (fun j => mul (ix e j) (pw (mul (loc e.length j) z) k)) e.length) (fun k hk => by
    rw [ix_synd _ _ _ hk, syn_sum, mul_comm, ← sumN_mul]
    exact sumN_congr _ fun j _ => by rw [pw_mul]; simp only [mul_comm, mlc])]
  rw [sumN_swap (fun j k => mul (ix e j) (pw (mul (loc e.length j) z) k))]
  exact sumN_congr _ fun j _ => by rw [sumN_mul]
theorem key (e : List UInt8) (L : List Nat) (n : Nat) (hL : ∀ j, ix e j ≠ 0 → j ∈ L) (z : UInt8) :
    mul (val (synd e n) z) (vg e.length L z) = om e L z ^^^ mul (pw z n) (tau e L n z) := by
  unfold om tau
  rw [val_synd, mul_comm, ← sumN_mul, ← sumN_mul, ← sumN_xor]
  refine sumN_congr _ fun j _ => ?_
  by_cases h : ix e j = 0
  · rw [h]; simp only [zero_mul, mul_zero, xor_zero]
  · rw [vg_erase e.length z j L (hL j h)]
    have hg := geo (mul (loc e.length j) z) n
    rw [pw_mul] at hg
    generalize sumN (fun k => pw (mul (loc e.length j) z) k) n = S at hg ⊢
    generalize vg e.length (L.erase j) z = V
    have e1 : mul (mul (1 ^^^ mul (loc e.length j) z) V) (mul (ix e j) S) = mul (mul V (ix e j)) (mul (1 ^^^ mul (loc e.length j) z) S) := by
      generalize (1 ^^^ mul (loc e.length j) z) = T
      simp only [mul_comm, mlc]
    rw [e1, hg]
    generalize pw (loc e.length j) n = P
    generalize pw z n = Q
    simp only [mul_xor, one_mul, mul_comm, mlc]
theorem om_zi (e : List UInt8) (L : List Nat) (hN : e.length ≤ 255) (hL : ∀ j, ix e j ≠ 0 → j ∈ L) (hn : L.Nodup) (hb : ∀ j ∈ L, j < e.length) (i : Nat) (hi : i ∈ L) :
    om e L (zi e.length i) = mul (ix e i) (vg e.length (L.erase i) (zi e.length i)) := by
  unfold om
  rw [sumN_one (hb i hi) (fun j hj hne => ?_)]
  by_cases h : ix e j = 0
  · rw [h, zero_mul]
  · have : i ∈ L.erase j := (hn.mem_erase_iff).2 ⟨fun h => hne h.symm, hi⟩
    rw [(vg_zi hN (hb i hi) (fun k hk => hb k (List.mem_of_mem_erase hk))).2 this, mul_zero]
theorem vg_erase_ne {N : Nat} {L : List Nat} (hN : N ≤ 255) (hn : L.Nodup) (hb : ∀ j ∈ L, j < N) {i : Nat} (hi : i ∈ L) : vg N (L.erase i) (zi N i) ≠ 0 := fun h => by
  have := (vg_zi hN (hb i hi) (fun k hk => hb k (List.mem_of_mem_erase hk))).1 h
  exact ((hn.mem_erase_iff).1 this).1 rfl
theorem inv_mul2 {a b : UInt8} (ha : a ≠ 0) (hb : b ≠ 0) : inv (mul a b) = mul (inv a) (inv b) := by
  apply mul_cancel (mul_ne ha hb)
  rw [mul_inv (mul_ne ha hb)]
  have h1 := mul_inv ha
  have h2 := mul_inv hb
  have e : mul (mul a b) (mul (inv a) (inv b)) = mul (mul a (inv a)) (mul b (inv b)) := by simp only [mul_comm, mlc]
  rw [e, h1, h2, mul_one]
theorem hp_eq : ∀ j, hp j = inv (exp j)
  | 0 => by rw [hp, exp_zero]; decide +kernel
  | j + 1 => by rw [hp, hp_eq j, exp_add, exp_one, inv_mul2 (exp_ne j) (by decide)]
theorem deriv_dg {p q : List UInt8} {a : UInt8} (hp : Dg p 256) (hq : q.length ≤ 255) (h : ∀ x, val p x = mul (1 ^^^ mul a x) (val q x)) (x : UInt8) :
    val (deriv p) x = mul a (val q x) ^^^ mul (1 ^^^ mul a x) (val (deriv q) x) := by
  have hi : ∀ i, ix (p.take 256) i = ix p i := fun i => by
    by_cases hi : i < 256
    · unfold ix; rw [List.getD_eq_getElem?_getD, List.getD_eq_getElem?_getD, List.getElem?_take, if_pos hi]
    · rw [hp i (by omega), ix_of_le (by rw [List.length_take]; omega)]
  rw [← deriv_factor (p.take 256) q a (by rw [List.length_take]; omega) hq (fun x => by rw [val_of_coef _ _ hi, h]) x]
  exact val_of_coef _ _ (fun i => by rw [ixp_deriv, ixp_deriv, hi]) x
theorem repair_ok (p c e : List UInt8) (L : List Nat) (psi w : List UInt8) (m : UInt8 → UInt8) (d : Nat) (hpc : p.length = c.length) (hpe : p.length = e.length) (he : ∀ i, ix e i = ix p i ^^^ ix c i) (hN : e.length ≤ 255)
    (hL : ∀ j, ix e j ≠ 0 → j ∈ L) (hn : L.Nodup) (hb : ∀ j ∈ L, j < e.length) (hm : Poly d m) (hm0 : ∀ z, z ≠ 0 → m z ≠ 0) (hpsi : ∀ z, val psi z = mul (m z) (vg e.length L z))
    (hw : ∀ z, val w z = mul (m z) (om e L z)) (hd : Dg psi 256) (hdl : d + L.length ≤ 255) : repair p psi w = c := by
  apply ext_ix (by rw [repair_length, hpc])
  intro i hi
  rw [repair_length] at hi
  rw [ix_repair p psi w i hi]
  suffices hf : fixB psi w (p.length - 1 - i) = ix e i by rw [hf, he, xor_cancel]
  have hi' : i < e.length := by omega
  have hz : hp (p.length - 1 - i) = zi e.length i := by rw [hp_eq, hpe]; rfl
  unfold fixB
  rw [hz]
  have hmz := hm0 _ (zi_ne e.length i)
  by_cases hiL : i ∈ L
  · rw [if_pos (by rw [hpsi, (vg_zi hN hi' hb).2 hiL, mul_zero])]
    have hlen := List.length_erase_of_mem hiL
    have hpos : 0 < L.length := List.length_pos_of_mem hiL
    obtain ⟨q, hq, hqv⟩ := hm.mul (vg_poly e.length (L.erase i)) (k := 255) (by omega)
    have hdv := deriv_dg (p := psi) (q := q) (a := loc e.length i) hd hq (fun x => by rw [hpsi, ← hqv, vg_erase e.length x i L hiL]; simp only [mul_comm, mlc]) (zi e.length i)
    rw [loc_zi, xor_self, zero_mul, xor_zero, ← hqv] at hdv
    dsimp only at hdv
    have hV := vg_erase_ne hN hn hb hiL
    rw [hdv, hw, om_zi e L hN hL hn hb i hiL]
    have hexp : exp (p.length - 1 - i) = loc e.length i := by rw [hpe]; rfl
    rw [hexp]
    have hQ := mul_ne hmz hV
    have hX := loc_ne e.length i
    generalize loc e.length i = X at *
    generalize hVV : vg e.length (L.erase i) (zi e.length i) = V at *
    generalize m (zi e.length i) = M at *
    rw [inv_mul2 hX hQ]
    have e1 : mul X (mul (mul M (mul (ix e i) V)) (mul (inv X) (inv (mul M V)))) = mul (ix e i) (mul (mul X (inv X)) (mul (mul M V) (inv (mul M V)))) := by
      generalize inv (mul M V) = W
      generalize inv X = Y
      simp only [mul_comm, mlc]
    rw [e1, mul_inv hX, mul_inv hQ, mul_one, mul_one]
  · rw [if_neg (by rw [hpsi]; exact mul_ne hmz (fun h => hiL ((vg_zi hN hi' hb).1 h)))]
    by_cases h0 : ix e i = 0
    · exact h0.symm
    · exact absurd (hL i h0) hiL
theorem xi_key (e : List UInt8) (n : Nat) (Gm : List UInt8) (s : Nat) (hs : Gm.length ≤ s + 1) (hn : 1 ≤ n) : ∃ A : UInt8 → UInt8, Poly s A ∧ ∀ z, mul (val (synd e n) z) (val Gm z) = val ((prod (synd e n) Gm).take n) z ^^^ mul (pw z n) (A z) := by
  refine ⟨val ((prod (synd e n) Gm).drop n), ⟨_, ?_, fun z => rfl⟩, fun z => ?_⟩
  · rw [List.length_drop]
    unfold prod
    split
    · simp
    · rw [addRows_length, synd_length]; omega
  · rw [← val_prod]
    have h := val_append ((prod (synd e n) Gm).take n) ((prod (synd e n) Gm).drop n) z
    rw [List.take_append_drop] at h
    rw [h]
    congr 1
    by_cases hl : n ≤ (prod (synd e n) Gm).length
    · rw [List.length_take, Nat.min_eq_left hl, mul_comm]
    · rw [List.drop_of_length_le (by omega), val_nil, zero_mul, mul_zero]
theorem fill_correct (p c e : List UInt8) (n : Nat) (L : List Nat) (Gm : List UInt8) (hpc : p.length = c.length) (hpe : p.length = e.length) (he : ∀ i, ix e i = ix p i ^^^ ix c i) (hN : e.length ≤ 255) (hn1 : 1 ≤ n) (hn2 : n ≤ 16)
    (hL : ∀ j, ix e j ≠ 0 → j ∈ L) (hn : L.Nodup) (hb : ∀ j ∈ L, j < e.length) (hs : L.length ≤ n) (hG : ∀ z, val Gm z = vg e.length L z) (hGl : Gm.length = L.length + 1) (hsy : synd p n = synd e n) :
    repair p Gm ((prod (synd p n) Gm).take n) = c := by
  rw [hsy]
  obtain ⟨A, hA, hk⟩ := xi_key e n Gm L.length (by omega) hn1
  have hk2 := key e L n hL
  have hxi : Poly n (val ((prod (synd e n) Gm).take n)) := ⟨_, by rw [List.length_take]; omega, fun z => rfl⟩
  have hw : ∀ z, val ((prod (synd e n) Gm).take n) z = om e L z := fun z => by
    have hlow := (hxi.xor ((om_poly e L hL).mono hs)).low ((hA.xor (tau_poly e L n hL))) (by omega) (fun z => by
      have h1 := hk z
      rw [hG, hk2 z] at h1
      -- om + z^n tau = xi + z^n A
      have : val ((prod (synd e n) Gm).take n) z = om e L z ^^^ mul (pw z n) (tau e L n z) ^^^ mul (pw z n) (A z) := by
        rw [h1, xor_assoc, xor_self, xor_zero]
      rw [this]
      simp only [mul_xor, xor_comm, xlc, xor_cancel]) z
    exact xor_eq_zero hlow
  exact repair_ok p c e L Gm _ (fun _ => 1) 1 hpc hpe he hN hL hn hb (Poly.const 1) (fun z _ => by decide) (fun z => by rw [hG, one_mul]) (fun z => by rw [hw, one_mul]) (fun i hi => ix_of_le (by omega)) (by omega)
theorem common (N : Nat) (w : UInt8 → UInt8) (dw : Nat) (hw : Poly dw w) (b : UInt8 → UInt8) (db : Nat) (hb : Poly db b) (hN : N ≤ 255) : ∀ (R : List Nat) (v : UInt8 → UInt8) (dv : Nat), R.Nodup → (∀ j ∈ R, j < N) → (∀ j ∈ R, w (zi N j) ≠ 0) →
    Poly dv v → R.length + db + dw + dv ≤ 255 → (∀ z, mul (vg N R z) (b z) = mul (v z) (w z)) → ∃ m, Poly dv m ∧ (∀ z, v z = mul (vg N R z) (m z)) ∧ ∀ z, b z = mul (m z) (w z)
  | [], v, dv, _, _, _, hv, _, h => ⟨v, hv, fun z => by rw [vg, one_mul], fun z => by rw [← h z, vg, one_mul]⟩
  | i :: R, v, dv, hnd, hR, hwz, hv, hd, h => by
    have hiR : i ∉ R := (List.nodup_cons.1 hnd).1
    have h0 : v (zi N i) = 0 := by
      have := h (zi N i)
      rw [vg, loc_zi, xor_self, zero_mul, zero_mul] at this
      rcases mul_eq_zero this.symm with h1 | h1
      · exact h1
      · exact absurd h1 (hwz i (by simp))
    have hdv : ∃ k, dv ≤ k + 1 ∧ k ≤ dv := ⟨dv - 1, by omega, by omega⟩
    obtain ⟨k, hk1, hk2⟩ := hdv
    obtain ⟨g, hg, hgv⟩ := (hv.mono hk1).factor h0
    have hlin : ∀ x, x ^^^ zi N i = mul (zi N i) (1 ^^^ mul (loc N i) x) := fun x => by
      rw [mul_xor, mul_one, mul_assoc, mul_comm (zi N i) (loc N i), loc_zi, one_mul, xor_comm]
    have hv' : ∀ x, v x = mul (1 ^^^ mul (loc N i) x) (mul (zi N i) (g x)) := fun x => by
      rw [hgv, hlin]; simp only [mul_comm, mlc]
    have hP1 := (vg_poly N R).mul hb (k := 255) (by simp at hd; omega)
    have hP2 := (hg.smul (zi N i)).mul hw (k := 255) (by simp at hd; omega)
    have hz := (hP1.xor hP2).zero_but (by omega) (zi N i) (fun x hx => by
      have hx' := h x
      rw [vg, hv', mas, mas] at hx'
      have hne : (1 ^^^ mul (loc N i) x) ≠ 0 := fun e => hx (by
        have e1 := xor_eq_zero e
        have e2 := loc_zi N i
        exact mul_cancel (loc_ne N i) (by rw [← e1, e2]))
      have := mul_cancel hne hx'
      simp only [this, xor_self])
    obtain ⟨m, hm, h1, h2⟩ := common N w dw hw b db hb hN R (fun x => mul (zi N i) (g x)) dv (List.nodup_cons.1 hnd).2 (fun j hj => hR j (by simp [hj])) (fun j hj => hwz j (by simp [hj])) ((hg.smul _).mono hk2) (by simp at hd; omega) (fun z => xor_eq_zero (hz z))
    exact ⟨m, hm, fun z => by rw [hv', h1, vg, mas], h2⟩
theorem euclid_correct (p c e : List UInt8) (n : Nat) (E M : List Nat) (Gm : List UInt8) (hpc : p.length = c.length) (hpe : p.length = e.length) (he : ∀ i, ix e i = ix p i ^^^ ix c i) (hN : e.length ≤ 255) (hn1 : 1 ≤ n) (hn2 : n ≤ 16)
    (hL : ∀ j, ix e j ≠ 0 → j ∈ E ++ M) (hn : (E ++ M).Nodup) (hb : ∀ j ∈ E ++ M, j < e.length) (hE : ∀ j ∈ E, ix e j ≠ 0) (hs : 2 * E.length + M.length ≤ n) (hG : ∀ z, val Gm z = vg e.length M z) (hGl : Gm.length = M.length + 1) (hsy : synd p n = synd e n) :
    repair p (prod (euc ((n : Int) + M.length) n (List.replicate n 0 ++ [1]) ((prod (synd p n) Gm).take n) [0] [1]).2 Gm) (euc ((n : Int) + M.length) n (List.replicate n 0 ++ [1]) ((prod (synd p n) Gm).take n) [0] [1]).1 = c := by
  rw [hsy]
  obtain ⟨A, hA, hk⟩ := xi_key e n Gm M.length (by omega) hn1
  have hk2 := key e (E ++ M) n hL
  obtain ⟨xi, hxi⟩ : ∃ xi, xi = (prod (synd e n) Gm).take n := ⟨_, rfl⟩
  rw [← hxi] at hk ⊢
  have hxl : xi.length ≤ n := by rw [hxi, List.length_take]; omega
  have hxd := deg_bounds xi
  obtain ⟨a, u, d, hEuc, ht1, ht2⟩ := Euc.loop ((n : Int) + M.length) (by omega) n _ _ _ _ n (Euc.start hxl) (by omega) (by omega)
  obtain ⟨b, hbb⟩ : ∃ b, b = (euc ((n : Int) + M.length) n (List.replicate n 0 ++ [1]) xi [0] [1]).1 := ⟨_, rfl⟩
  obtain ⟨v, hvv⟩ : ∃ v, v = (euc ((n : Int) + M.length) n (List.replicate n 0 ++ [1]) xi [0] [1]).2 := ⟨_, rfl⟩
  rw [← hbb, ← hvv] at hEuc
  rw [← hbb] at ht2
  rw [← hbb, ← hvv]
  have hdn := hEuc.dn
  obtain ⟨Ua, Ub, pa, pb, ca, cb⟩ := hEuc.cong
  have hdb := deg_bounds b
  obtain ⟨db, hdb2⟩ : ∃ db : Nat, (db : Int) = deg b + 1 := ⟨(deg b + 1).toNat, by omega⟩
  have hDb : Dg b db := fun i hi => ix_of_deg (by omega)
  have hlen : (E ++ M).length = E.length + M.length := List.length_append
  -- lambda xi = omega + z^n T
  have hT : ∀ z, mul (vg e.length E z) (val xi z) = om e (E ++ M) z ^^^ mul (pw z n) (tau e (E ++ M) n z ^^^ mul (vg e.length E z) (A z)) := fun z => by
    have h1 := hk z
    have h2 := hk2 z
    rw [vg_append] at h2
    rw [hG] at h1
    have e1 : val xi z = mul (val (synd e n) z) (vg e.length M z) ^^^ mul (pw z n) (A z) := by rw [h1, xor_assoc, xor_self, xor_zero]
    rw [e1, mul_xor]
    have e2 : mul (vg e.length E z) (mul (val (synd e n) z) (vg e.length M z)) = mul (val (synd e n) z) (mul (vg e.length E z) (vg e.length M z)) := mlc _ _ _
    rw [e2, h2, mul_xor, xor_assoc]
    congr 2
    exact mlc _ _ _
  have pT : Poly (E.length + M.length + 1) (fun z => tau e (E ++ M) n z ^^^ mul (vg e.length E z) (A z)) :=
    ((tau_poly e (E ++ M) n hL).mono (by omega)).xor ((vg_poly e.length E).mul hA (by omega))
  have pom : Poly (E.length + M.length) (om e (E ++ M)) := (om_poly e (E ++ M) hL).mono (by omega)
  have pv := hEuc.pv.poly
  have hW : Poly (n + E.length + M.length + 1) (fun z => mul (vg e.length E z) (Ub z) ^^^ mul (val v z) (tau e (E ++ M) n z ^^^ mul (vg e.length E z) (A z))) :=
    ((vg_poly e.length E).mul pb (by omega)).xor (pv.mul pT (by omega))
  have hlow := (((vg_poly e.length E).mul hDb.poly (k := n) (by omega)).xor (pv.mul pom (k := n) (by omega))).low hW (by omega) (fun z => by
      have h1 := cb z
      have h2 := hT z
      generalize tau e (E ++ M) n z ^^^ mul (vg e.length E z) (A z) = T at h2 ⊢
      -- lambda b + v omega = z^n (lambda Ub + v T)
      have e1 : val b z = mul (val v z) (val xi z) ^^^ mul (pw z n) (Ub z) := by rw [h1, xor_assoc, xor_self, xor_zero]
      have e2 : om e (E ++ M) z = mul (vg e.length E z) (val xi z) ^^^ mul (pw z n) T := by rw [h2, xor_assoc, xor_self, xor_zero]
      rw [e1, e2]
      simp only [mul_xor, xor_mul, mas, mul_comm, mlc, xor_comm, xlc, xor_self, zero_xor])
  have hcm : ∀ z, mul (vg e.length E z) (val b z) = mul (val v z) (om e (E ++ M) z) := fun z => xor_eq_zero (hlow z)
  have hnE : E.Nodup := (List.nodup_append.1 hn).1
  obtain ⟨m, hm, hvm, hbm⟩ := common e.length (om e (E ++ M)) _ pom (val b) db hDb.poly hN E (val v) _ hnE (fun j hj => hb j (by simp [hj])) (fun j hj => by
    have hjL : j ∈ E ++ M := by simp [hj]
    rw [om_zi e (E ++ M) hN hL hn hb j hjL]
    exact mul_ne (hE j hj) (vg_erase_ne hN hn hb hjL)) pv (by omega) hcm
  have hm0 : ∀ z, z ≠ 0 → m z ≠ 0 := fun z hz h0 => by
    have hd := hEuc.det z
    rw [hbm, hvm, h0] at hd
    simp only [zero_mul, mul_zero, xor_zero] at hd
    exact pw_ne hz n hd.symm
  exact repair_ok p c e (E ++ M) _ b m _ hpc hpe he hN hL hn hb hm hm0 (fun z => by rw [val_prod, hvm, hG, vg_append]; simp only [mas, mul_comm]) hbm
    ((hEuc.pv.prod (Dg.len Gm) (f := 256) (by omega))) (by omega)
end Go.Proofs.YtflmjdjkfognjaaGreat.G
