/- Polynomials over GF(256) as lists: roots, equality by values, the derivative of a product. No program is named here. -/
import Derived.Test.YtkebnmmcogkldaaCode
namespace Go.Proofs.Ytkebnmmcogkldaa.G

/-- the quotient by 'x + r' -/
def quo (r : UInt8) : List UInt8 → List UInt8
  | [] => []
  | [_] => []
  | _ :: l => val l r :: quo r l
theorem quo_cons2 (r c d : UInt8) (l : List UInt8) : quo r (c :: d :: l) = val (d :: l) r :: quo r (d :: l) := by rw [quo]; simp
theorem quo_length (r : UInt8) : ∀ p, (quo r p).length = p.length - 1
  | [] => rfl
  | [_] => rfl
  | _ :: d :: l => by
    have := quo_length r (d :: l)
    rw [quo_cons2, List.length_cons, this]
    simp
theorem val_one (c x : UInt8) : val [c] x = c := by rw [val_cons, val_nil, zero_mul, zero_xor]
theorem val_quo (r x : UInt8) : ∀ p, val p x = mul (x ^^^ r) (val (quo r p) x) ^^^ val p r
  | [] => by rw [quo, val_nil, val_nil, mul_zero, xor_zero]
  | [c] => by rw [quo, val_nil, mul_zero, zero_xor, val_one, val_one]
  | c :: d :: l => by
    have ih := val_quo r x (d :: l)
    rw [val_cons, val_cons c, ih, quo_cons2, val_cons (val (d :: l) r)]
    · generalize val (d :: l) r = R
      generalize val (quo r (d :: l)) x = Q
      -- ((x+r)Q + R)x + c = (x+r)(Qx + R) + (Rr + c)
      rw [xor_mul, mul_xor, mul_assoc, xor_mul x r R]
      rw [mul_comm R x, mul_comm R r]
      rw [xor_assoc, xor_assoc, xor_assoc, ← xor_assoc (mul r R) (mul r R) c, xor_self, zero_xor]
theorem val_factor {p : List UInt8} {r : UInt8} (h : val p r = 0) (x : UInt8) : val p x = mul (x ^^^ r) (val (quo r p) x) := by
  rw [val_quo r x p, h, xor_zero]
theorem roots_zero : ∀ (p R : List UInt8), R.Nodup → (∀ r ∈ R, val p r = 0) → p.length ≤ R.length → ∀ x, val p x = 0
  | p, [], _, _, hl, x => by
    obtain rfl := List.eq_nil_of_length_eq_zero (Nat.le_zero.1 hl)
    rfl
  | p, r :: R, hn, h, hl, x => by
    have hf := val_factor (h r (by simp))
    have hz := roots_zero (quo r p) R (List.nodup_cons.1 hn).2 (fun s hs => by
      have h1 := h s (by simp [hs])
      rw [hf] at h1
      rcases mul_eq_zero h1 with h2 | h2
      · exact absurd (xor_eq_zero h2) (fun e => (List.nodup_cons.1 hn).1 (e ▸ hs))
      · exact h2) (by rw [quo_length]; simp at hl; omega)
    rw [hf, hz, mul_zero]

/-- all bytes -/
def allB : List UInt8 := (List.range 256).map UInt8.ofNat
theorem allB_length : allB.length = 256 := by simp [allB]
theorem mem_allB (x : UInt8) : x ∈ allB := by
  rw [allB, List.mem_map]
  exact ⟨x.toNat, by rw [List.mem_range]; exact lt x, by simp⟩
theorem allB_nodup : allB.Nodup := by decide +kernel

/-- a polynomial that is 0 at all points but one -/
theorem zero_but (p : List UInt8) (z : UInt8) (hl : p.length ≤ 255) (h : ∀ x, x ≠ z → val p x = 0) (x : UInt8) : val p x = 0 := by
  refine roots_zero p (allB.erase z) (allB_nodup.erase z) (fun r hr => h r ?_) ?_ x
  · exact ((allB_nodup.mem_erase_iff).1 hr).1
  · rw [List.length_erase_of_mem (mem_allB z), allB_length]; exact hl
/-- the coefficients of a polynomial that is 0 everywhere -/
theorem coef_zero : ∀ (p : List UInt8), p.length ≤ 256 → (∀ x, val p x = 0) → ∀ i, ix p i = 0
  | [], _, _, i => by simp [ix]
  | c :: l, hl, h, i => by
    have h0 := h 0
    rw [val_cons, mul_zero, zero_xor] at h0
    have hz : ∀ x, val l x = 0 := zero_but l 0 (by simpa using hl) (fun x hx => by
      have h1 := h x
      rw [val_cons, h0, xor_zero] at h1
      rcases mul_eq_zero h1 with h2 | h2
      · exact h2
      · exact absurd h2 hx)
    cases i with
    | zero => rw [ix_cons_zero, h0]
    | succ i => rw [ix_cons_succ]; exact coef_zero l (by simp at hl; omega) hz i
theorem val_plus (p q : List UInt8) (x : UInt8) : val (plus p q) x = val p x ^^^ val q x := by
  have hs : ∀ (l : List UInt8) (m : Nat), l.length ≤ m → val l x = sumN (fun i => mul (ix l i) (pw x i)) m := by
    intro l
    induction l with
    | nil => intro m _; rw [sumN_congr m (g := fun _ => 0) (fun i _ => by rw [show ix [] i = 0 by simp [ix], zero_mul]), sumN_zero]; rfl
    | cons c l ih =>
      intro m hm
      obtain ⟨k, rfl⟩ : ∃ k, m = k + 1 := ⟨m - 1, by simp at hm; omega⟩
      have hshift : ∀ (f : Nat → UInt8) (n : Nat), sumN f (n + 1) = f 0 ^^^ sumN (fun i => f (i + 1)) n := by
        intro f n
        induction n with
        | zero => rw [sumN, sumN, sumN, xor_zero, zero_xor]
        | succ n ihn => rw [sumN, ihn, sumN, xor_assoc]
      rw [hshift, val_cons, ih k (by simpa using hm), ix_cons_zero, pw, mul_one, xor_comm]
      congr 1
      rw [mul_comm, ← sumN_mul]
      exact sumN_congr _ fun i _ => by rw [ix_cons_succ, pw_succ', mul_assoc, mul_comm x, ← mul_assoc]
  have hi : ∀ i, i < max p.length q.length → ix (plus p q) i = ix p i ^^^ ix q i := by
    intro i h
    unfold plus
    conv => lhs; unfold ix
    rw [List.getD_eq_getElem?_getD, List.getElem?_map, List.getElem?_range h]
    rfl
  rw [hs _ (max p.length q.length) (by rw [plus_len]; omega), hs p (max p.length q.length) (by omega), hs q (max p.length q.length) (by omega), ← sumN_xor]
  exact sumN_congr _ fun i h => by rw [hi i h, xor_mul]
theorem sumN_shift (f : Nat → UInt8) (n : Nat) : sumN f (n + 1) = f 0 ^^^ sumN (fun i => f (i + 1)) n := by
  induction n with
  | zero => rw [sumN, sumN, sumN, xor_zero, zero_xor]
  | succ n ihn => rw [sumN, ihn, sumN, xor_assoc]
theorem val_sum (x : UInt8) : ∀ (l : List UInt8) (m : Nat), l.length ≤ m → val l x = sumN (fun i => mul (ix l i) (pw x i)) m
  | [], m, _ => by rw [sumN_congr m (g := fun _ => 0) (fun i _ => by rw [show ix [] i = 0 by simp [ix], zero_mul]), sumN_zero]; rfl
  | c :: l, m, hm => by
    obtain ⟨k, rfl⟩ : ∃ k, m = k + 1 := ⟨m - 1, by simp at hm; omega⟩
    rw [sumN_shift, val_cons, val_sum x l k (by simpa using hm), ix_cons_zero, pw, mul_one, xor_comm]
    congr 1
    rw [mul_comm, ← sumN_mul]
    exact sumN_congr _ fun i _ => by rw [ix_cons_succ, pw_succ', mul_assoc, mul_comm x, ← mul_assoc]
theorem ixp_plus (p q : List UInt8) (i : Nat) : ix (plus p q) i = ix p i ^^^ ix q i := by
  by_cases h : i < max p.length q.length
  · unfold plus
    conv => lhs; unfold ix
    rw [List.getD_eq_getElem?_getD, List.getElem?_map, List.getElem?_range h]
    rfl
  · rw [ix_of_le (by rw [plus_len]; omega), ix_of_le (by omega), ix_of_le (by omega), xor_self]
/-- polynomials with the same values have the same coefficients -/
theorem coef_eq (p q : List UInt8) (hp : p.length ≤ 256) (hq : q.length ≤ 256) (h : ∀ x, val p x = val q x) (i : Nat) : ix p i = ix q i := by
  have := coef_zero (plus p q) (by rw [plus_len]; omega) (fun x => by rw [val_plus, h, xor_self]) i
  rw [ixp_plus] at this
  exact xor_eq_zero this
/-- the values of equal coefficients -/
theorem val_of_coef (p q : List UInt8) (h : ∀ i, ix p i = ix q i) (x : UInt8) : val p x = val q x := by
  rw [val_sum x p (max p.length q.length) (by omega), val_sum x q (max p.length q.length) (by omega)]
  exact sumN_congr _ fun i _ => by rw [h]

def scale (a : UInt8) (p : List UInt8) : List UInt8 := p.map (mul a)
theorem scale_length (a : UInt8) (p : List UInt8) : (scale a p).length = p.length := by simp [scale]
theorem ix_scale (a : UInt8) (p : List UInt8) (i : Nat) : ix (scale a p) i = mul a (ix p i) := by
  unfold scale ix
  by_cases h : i < p.length
  · simp [h]
  · simp [h, mul_zero]
theorem val_scale (a : UInt8) (x : UInt8) : ∀ p, val (scale a p) x = mul a (val p x)
  | [] => by rw [scale, List.map_nil, val_nil, mul_zero]
  | c :: l => by
    have := val_scale a x l
    unfold scale at this ⊢
    rw [List.map_cons, val_cons, val_cons, this, mul_xor, mul_assoc]

theorem ixp_deriv (p : List UInt8) (i : Nat) : ix (deriv p) i = if i % 2 = 0 then ix p (i + 1) else 0 := by
  by_cases h : i < p.length - 1
  · unfold deriv
    conv => lhs; unfold ix
    rw [List.getD_eq_getElem?_getD, List.getElem?_map, List.getElem?_range h]
    rfl
  · rw [ix_of_le (by simp [deriv]; omega)]
    split
    · rw [ix_of_le (by omega)]
    · rfl
/-- the derivative of '(1 + a x) q' -/
theorem deriv_factor (p q : List UInt8) (a : UInt8) (hp : p.length ≤ 256) (hq : q.length ≤ 255) (h : ∀ x, val p x = mul (1 ^^^ mul a x) (val q x)) (x : UInt8) :
    val (deriv p) x = mul a (val q x) ^^^ mul (1 ^^^ mul a x) (val (deriv q) x) := by
  have hc := coef_eq p (plus q (0 :: scale a q)) hp (by rw [plus_len, List.length_cons, scale_length]; omega) (fun x => by
    rw [h, val_plus, val_cons, val_scale, xor_zero, xor_mul, one_mul]
    congr 1
    rw [← mul_assoc, ← mul_assoc, mul_comm x])
  have h0 : ix p 0 = ix q 0 := by rw [hc, ixp_plus, ix_cons_zero, xor_zero]
  have hs : ∀ i, ix p (i + 1) = ix q (i + 1) ^^^ mul a (ix q i) := fun i => by rw [hc, ixp_plus, ix_cons_succ, ix_scale]
  -- the even part of q
  obtain ⟨M, hM⟩ : ∃ M, M = p.length + q.length + 2 := ⟨_, rfl⟩
  have he : val q x = sumN (fun i => if i % 2 = 0 then mul (ix q i) (pw x i) else 0) M ^^^ mul x (val (deriv q) x) := by
    rw [val_sum x q M (by omega), val_sum x (deriv q) (M - 1) (by simp [deriv]; omega), ← sumN_mul]
    have e1 : sumN (fun i => mul (ix q i) (pw x i)) M = sumN (fun i => (if i % 2 = 0 then mul (ix q i) (pw x i) else 0) ^^^ (if i % 2 = 0 then 0 else mul (ix q i) (pw x i))) M :=
      sumN_congr _ fun i _ => by split <;> simp
    rw [e1, sumN_xor]
    congr 1
    obtain ⟨m, rfl⟩ : ∃ m, M = m + 1 := ⟨M - 1, by omega⟩
    rw [sumN_shift, Nat.add_sub_cancel]
    simp only [Nat.zero_mod, if_true, zero_xor]
    refine sumN_congr _ fun i _ => ?_
    rw [ixp_deriv]
    by_cases hi : i % 2 = 0
    · rw [if_pos hi, if_neg (by omega), pw_succ', mul_assoc, mul_comm (ix q (i + 1)), ← mul_assoc]
    · rw [if_neg hi, if_pos (by omega), zero_mul, mul_zero]
  have hd : val (deriv p) x = val (deriv q) x ^^^ mul a (sumN (fun i => if i % 2 = 0 then mul (ix q i) (pw x i) else 0) M) := by
    rw [val_sum x (deriv p) M (by simp [deriv]; omega), val_sum x (deriv q) M (by simp [deriv]; omega), ← sumN_mul, ← sumN_xor]
    refine sumN_congr _ fun i _ => ?_
    rw [ixp_deriv, ixp_deriv]
    by_cases hi : i % 2 = 0
    · rw [if_pos hi, if_pos hi, if_pos hi, hs, xor_mul, mul_assoc]
    · rw [if_neg hi, if_neg hi, if_neg hi, mul_zero, zero_mul, xor_self]
  rw [hd]
  obtain ⟨Ev, hEv⟩ : ∃ Ev, Ev = sumN (fun i => if i % 2 = 0 then mul (ix q i) (pw x i) else 0) M := ⟨_, rfl⟩
  rw [← hEv] at he ⊢
  rw [he]
  generalize val (deriv q) x = D
  -- D + a Ev = a (Ev + x D) + (1 + a x) D
  rw [mul_xor, xor_mul, one_mul, mul_assoc, xor_assoc, xor_comm D (mul (mul a x) D), ← xor_assoc (mul (mul a x) D), xor_self, zero_xor, xor_comm]
end Go.Proofs.Ytkebnmmcogkldaa.G
