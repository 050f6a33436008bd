/- Shaken out of XCode XPol XEuc -/
import Derived.Test.YtflmjdjkfognjaaGreatTp02
namespace Go.Proofs.YtflmjdjkfognjaaGreat.G
/-- the sum of the first 'n' values -/
def sumN (f : Nat → UInt8) : Nat → UInt8
  | 0 => 0
  | n + 1 => sumN f n ^^^ f n
theorem sumN_congr {f g : Nat → UInt8} : ∀ n, (∀ i, i < n → f i = g i) → sumN f n = sumN g n
  | 0, _ => rfl
  | n + 1, h => by rw [sumN, sumN, sumN_congr n (fun i hi => h i (by omega)), h n (by omega)]
theorem sumN_zero : ∀ n, sumN (fun _ => 0) n = 0
  | 0 => rfl
  | n + 1 => by rw [sumN, sumN_zero n, xor_self]
theorem sumN_xor (f g : Nat → UInt8) : ∀ n, sumN (fun i => f i ^^^ g i) n = sumN f n ^^^ sumN g n
  | 0 => by simp [sumN]
  | n + 1 => by rw [sumN, sumN, sumN, sumN_xor f g n, xor_4]
theorem sumN_mul (a : UInt8) (f : Nat → UInt8) : ∀ n, sumN (fun i => mul a (f i)) n = mul a (sumN f n)
  | 0 => by rw [sumN, sumN, mul_zero]
  | n + 1 => by rw [sumN, sumN, sumN_mul a f n, mul_xor]
theorem sumN_one {f : Nat → UInt8} {n j : Nat} (hj : j < n) (h : ∀ i, i < n → i ≠ j → f i = 0) : sumN f n = f j := by
  induction n with
  | zero => omega
  | succ n ih =>
    rw [sumN]
    by_cases e : j = n
    · subst e
      rw [sumN_congr j (g := fun _ => 0) (fun i hi => h i (by omega) (by omega)), sumN_zero, zero_xor]
    · rw [ih (by omega) (fun i hi => h i (by omega)), h n (by omega) (by omega), xor_zero]
/-- the element of a position of a word of length 'N' -/
def loc (N j : Nat) : UInt8 := exp (N - 1 - j)
theorem loc_ne (N j : Nat) : loc N j ≠ 0 := exp_ne _
theorem loc_inj {N i j : Nat} (hN : N ≤ 255) (hi : i < N) (hj : j < N) (h : loc N i = loc N j) : i = j := by
  have := exp_inj (m := N - 1 - i) (n := N - 1 - j) (by omega) (by omega) h
  omega
theorem eval_sum (l : List UInt8) (x : UInt8) : eval l x = sumN (fun j => mul (ix l j) (pw x (l.length - 1 - j))) l.length := by
  suffices h : ∀ n, n ≤ l.length → eval (l.take n) x = sumN (fun j => mul (ix l j) (pw x (n - 1 - j))) n by
    have := h l.length (Nat.le_refl _)
    rwa [List.take_length] at this
  intro n
  induction n with
  | zero => intro _; rfl
  | succ n ih =>
    intro hn
    rw [take_succ_ix l n (by omega), eval_snoc, ih (by omega), sumN, show n + 1 - 1 - n = 0 by omega, pw, mul_one]
    congr 1
    rw [mul_comm, ← sumN_mul]
    apply sumN_congr
    intro i hi
    rw [mul_assoc, mul_comm x, ← mul_assoc, show n + 1 - 1 - i = (n - 1 - i) + 1 by omega, pw_succ']
theorem pw_loc (N j k : Nat) : pw (exp k) (N - 1 - j) = pw (loc N j) k := by
  unfold loc; rw [pw_exp, pw_exp, Nat.mul_comm]
/-- a syndrome as a sum over the positions -/
theorem syn_sum (l : List UInt8) (k : Nat) : eval l (exp k) = sumN (fun j => mul (ix l j) (pw (loc l.length j) k)) l.length := by
  rw [eval_sum]
  exact sumN_congr _ fun i hi => by rw [pw_loc]
/-- with 'n' syndromes 0, the sum over the positions is 0 for each polynomial with at most 'n' coefficients -/
theorem dual (c : List UInt8) (n : Nat) (h : ∀ k, k < n → eval c (exp k) = 0) : ∀ (m : Nat) (f : List UInt8), f.length = m → m ≤ n → sumN (fun j => mul (ix c j) (val f (loc c.length j))) c.length = 0
  | 0, f, hf, _ => by
    obtain rfl := List.eq_nil_of_length_eq_zero hf
    rw [sumN_congr _ (g := fun _ => 0) (fun i _ => by rw [val_nil, mul_zero]), sumN_zero]
  | m + 1, f, hf, hm => by
    obtain ⟨g, a, rfl⟩ : ∃ g a, f = g ++ [a] := ⟨f.dropLast, f.getLast (by intro e; rw [e] at hf; simp at hf), (List.dropLast_concat_getLast _).symm⟩
    have hg : g.length = m := by simpa using hf
    have h1 := dual c n h m g hg (by omega)
    have h2 := syn_sum c m
    rw [h m (by omega)] at h2
    rw [sumN_congr _ (g := fun j => mul (ix c j) (val g (loc c.length j)) ^^^ mul a (mul (ix c j) (pw (loc c.length j) m))) (fun i _ => by
      rw [val_append, val_cons, val_nil, zero_mul, zero_xor, hg, mul_xor]
      congr 1
      rw [mul_assoc, mul_comm (ix c i), ← mul_assoc]), sumN_xor, h1, sumN_mul, ← h2, mul_zero, xor_self]
theorem val_addRows (x : UInt8) (p q : List UInt8) (hq : q ≠ []) : ∀ i, i ≤ p.length → val (addRows p q i) x = mul (val (p.take i) x) (val q x)
  | 0, _ => by rw [addRows, val_zeros, List.take_zero, val_nil, zero_mul]
  | i + 1, h => by
    have hl : 0 < q.length := List.length_pos_iff.2 hq
    rw [addRows, val_addRow _ _ _ _ _ _ (Nat.le_refl _) (by rw [addRows_length]; omega), val_addRows x p q hq i (by omega), List.take_length, val_take_succ _ _ (by omega), xor_mul]
theorem val_prod (p q : List UInt8) (x : UInt8) : val (prod p q) x = mul (val p x) (val q x) := by
  by_cases hp : p = []
  · subst hp; rw [prod_nil_left, val_nil, zero_mul]
  by_cases hq : q = []
  · subst hq; rw [prod_nil_right, val_nil, mul_zero]
  rw [prod_eq hp hq, val_addRows x p q hq _ (Nat.le_refl _), List.take_length]
/-- the polynomial whose roots are the elements of some positions -/
def rootP (N : Nat) : List Nat → List UInt8
  | [] => [1]
  | j :: L => prod [loc N j, 1] (rootP N L)
theorem rootP_length (N : Nat) : ∀ L, (rootP N L).length = L.length + 1
  | [] => rfl
  | j :: L => by
    have h := rootP_length N L
    rw [rootP, prod_length _ _ (by simp) (by intro e; rw [e] at h; simp at h), h]
    simp; omega
theorem val_rootP (N : Nat) (x : UInt8) (L : List Nat) : val (rootP N L) x = 0 ↔ ∃ j ∈ L, x = loc N j := by
  induction L with
  | nil => simp [rootP, val_cons, val_nil, zero_mul]
  | cons j L ih =>
    rw [rootP, val_prod]
    have e : val [loc N j, 1] x = x ^^^ loc N j := by rw [val_cons, val_cons, val_nil, zero_mul, zero_xor, one_mul]
    rw [e]
    constructor
    · intro h
      rcases mul_eq_zero h with h | h
      · exact ⟨j, by simp, xor_eq_zero h⟩
      · obtain ⟨i, hi, e⟩ := ih.1 h
        exact ⟨i, by simp [hi], e⟩
    · rintro ⟨i, hi, hx⟩
      rcases List.mem_cons.1 hi with rfl | hi
      · rw [hx, xor_self, zero_mul]
      · rw [ih.2 ⟨i, hi, hx⟩, mul_zero]
/-- the positions below 'k' that are not 0 -/
def supp (c : List UInt8) (k : Nat) : List Nat := (List.range k).filter fun j => ix c j != 0
theorem mem_supp (c : List UInt8) (k j : Nat) : j ∈ supp c k ↔ j < k ∧ ix c j ≠ 0 := by simp [supp]
/-- a word with 'n' syndromes 0 and at most 'n' positions that are not 0 is 0 -/
theorem few_zero (c : List UInt8) (n : Nat) (hN : c.length ≤ 255) (h : ∀ k, k < n → eval c (exp k) = 0) (hs : (supp c c.length).length ≤ n) : ∀ j, ix c j = 0 := by
  intro j
  by_cases hj : j < c.length
  · by_cases h0 : ix c j = 0
    · exact h0
    · exfalso
      have hmem : j ∈ supp c c.length := (mem_supp c _ j).2 ⟨hj, h0⟩
      obtain ⟨L, hL⟩ : ∃ L, L = (supp c c.length).filter fun i => i != j := ⟨_, rfl⟩
      have hlen : L.length < (supp c c.length).length := by
        rw [hL]
        exact List.length_filter_lt_length_iff_exists.2 ⟨j, hmem, by simp⟩
      have hd := dual c n h _ (rootP c.length L) rfl (by rw [rootP_length]; omega)
      rw [sumN_one hj (fun i hi hne => ?_)] at hd
      · rcases mul_eq_zero hd with h1 | h1
        · exact h0 h1
        · obtain ⟨i, hi, e⟩ := (val_rootP c.length _ L).1 h1
          rw [hL, List.mem_filter] at hi
          have hi1 := (mem_supp c _ i).1 hi.1
          have := loc_inj hN hj hi1.1 e
          subst this
          simp at hi
      · by_cases hi0 : ix c i = 0
        · rw [hi0, zero_mul]
        · rw [(val_rootP c.length _ L).2 ⟨i, by rw [hL, List.mem_filter]; exact ⟨(mem_supp c _ i).2 ⟨hi, hi0⟩, by simpa using hne⟩, rfl⟩, mul_zero]
  · exact ix_of_le (by omega)
theorem gen_ne0 (n : Nat) : gen n ≠ [] := by
  have := gen_length n
  intro e; rw [e] at this; simp at this
theorem enc_syn (l : List UInt8) (n k : Nat) (hk : k < n) : eval (enc l n) (exp k) = 0 := by
  unfold enc
  have hr := eval_rem (l ++ List.replicate n 0) (gen n) (exp k) (gen_ne0 n) (by rw [gen_head]; decide) ((eval_gen n _).2 ⟨k, hk, rfl⟩)
  have hl : (rem (l ++ List.replicate n 0) (gen n)).length = n := by rw [rem_length, gen_length]; rfl
  rw [eval_append, hr, hl, eval_append, eval_zeros, List.length_replicate, xor_zero, xor_self]
theorem zeroB_synd (l : List UInt8) (n : Nat) : zeroB (synd l n) = true ↔ ∀ k, k < n → eval l (exp k) = 0 := by
  unfold zeroB synd
  simp
theorem enc_valid (l : List UInt8) (n : Int) (h : encB l n = true) : validB (enc l n.toNat) n = true := by
  have h1 : 1 ≤ n ∧ n ≤ 16 ∧ l ≠ [] ∧ (l.length : Int) + n ≤ 255 := by simpa [encB, and_assoc] using h
  have hl := List.length_pos_iff.2 h1.2.2.1
  unfold validB
  rw [Bool.and_eq_true]
  exact ⟨(shapedB_iff _ _).2 ⟨by rw [enc_length]; omega, by rw [enc_length]; omega, by omega, by omega, by rw [enc_length]; omega⟩, (zeroB_synd _ _).2 fun k hk => enc_syn l _ k hk⟩
theorem supp_succ (c : List UInt8) (k : Nat) : (supp c (k + 1)).length = (supp c k).length + if ix c k = 0 then 0 else 1 := by
  unfold supp
  rw [List.range_succ, List.filter_append, List.length_append]
  congr 1
  by_cases h : ix c k = 0 <;> simp [h]
end Go.Proofs.YtflmjdjkfognjaaGreat.G
namespace Go.Proofs.YtflmjdjkfognjaaGreat.G
/-- the quotient by 'x + r' -/
def quo (r : UInt8) : List UInt8 → List UInt8
  | [] => []
  | [_] => []
  | _ :: l => val l r :: quo r l
theorem quo_cons2 (r c d : UInt8) (l : List UInt8) : quo r (c :: d :: l) = val (d :: l) r :: quo r (d :: l) := by rw [quo]; simp
theorem quo_length (r : UInt8) : ∀ p, (quo r p).length = p.length - 1
  | [] => rfl
  | [_] => rfl
  | _ :: d :: l => by
    have := quo_length r (d :: l)
    rw [quo_cons2, List.length_cons, this]
    simp
theorem val_one (c x : UInt8) : val [c] x = c := by rw [val_cons, val_nil, zero_mul, zero_xor]
theorem val_quo (r x : UInt8) : ∀ p, val p x = mul (x ^^^ r) (val (quo r p) x) ^^^ val p r
  | [] => by rw [quo, val_nil, val_nil, mul_zero, xor_zero]
  | [c] => by rw [quo, val_nil, mul_zero, zero_xor, val_one, val_one]
  | c :: d :: l => by
    have ih := val_quo r x (d :: l)
    rw [val_cons, val_cons c, ih, quo_cons2, val_cons (val (d :: l) r)]
    · generalize val (d :: l) r = R
      generalize val (quo r (d :: l)) x = Q
      -- ((x+r)Q + R)x + c = (x+r)(Qx + R) + (Rr + c)
      rw [xor_mul, mul_xor, mul_assoc, xor_mul x r R]
      rw [mul_comm R x, mul_comm R r]
      rw [xor_assoc, xor_assoc, xor_assoc, ← xor_assoc (mul r R) (mul r R) c, xor_self, zero_xor]
theorem val_factor {p : List UInt8} {r : UInt8} (h : val p r = 0) (x : UInt8) : val p x = mul (x ^^^ r) (val (quo r p) x) := by
  rw [val_quo r x p, h, xor_zero]
theorem roots_zero : ∀ (p R : List UInt8), R.Nodup → (∀ r ∈ R, val p r = 0) → p.length ≤ R.length → ∀ x, val p x = 0
  | p, [], _, _, hl, x => by
    obtain rfl := List.eq_nil_of_length_eq_zero (Nat.le_zero.1 hl)
    rfl
  | p, r :: R, hn, h, hl, x => by
    have hf := val_factor (h r (by simp))
    have hz := roots_zero (quo r p) R (List.nodup_cons.1 hn).2 (fun s hs => by
      have h1 := h s (by simp [hs])
      rw [hf] at h1
      rcases mul_eq_zero h1 with h2 | h2
      · exact absurd (xor_eq_zero h2) (fun e => (List.nodup_cons.1 hn).1 (e ▸ hs))
      · exact h2) (by rw [quo_length]; simp at hl; omega)
    rw [hf, hz, mul_zero]
/-- all bytes -/
def allB : List UInt8 := (List.range 256).map UInt8.ofNat
theorem allB_length : allB.length = 256 := by simp [allB]
theorem mem_allB (x : UInt8) : x ∈ allB := by
  rw [allB, List.mem_map]
  exact ⟨x.toNat, by rw [List.mem_range]; exact lt x, by simp⟩
theorem allB_nodup : allB.Nodup := by decide +kernel
/-- a polynomial that is 0 at all points but one -/
theorem zero_but (p : List UInt8) (z : UInt8) (hl : p.length ≤ 255) (h : ∀ x, x ≠ z → val p x = 0) (x : UInt8) : val p x = 0 := by
  refine roots_zero p (allB.erase z) (allB_nodup.erase z) (fun r hr => h r ?_) ?_ x
  · exact ((allB_nodup.mem_erase_iff).1 hr).1
  · rw [List.length_erase_of_mem (mem_allB z), allB_length]; exact hl
/-- the coefficients of a polynomial that is 0 everywhere -/
theorem coef_zero : ∀ (p : List UInt8), p.length ≤ 256 → (∀ x, val p x = 0) → ∀ i, ix p i = 0
  | [], _, _, i => by simp [ix]
  | c :: l, hl, h, i => by
    have h0 := h 0
    rw [val_cons, mul_zero, zero_xor] at h0
    have hz : ∀ x, val l x = 0 := zero_but l 0 (by simpa using hl) (fun x hx => by
      have h1 := h x
      rw [val_cons, h0, xor_zero] at h1
      rcases mul_eq_zero h1 with h2 | h2
      · exact h2
      · exact absurd h2 hx)
    cases i with
    | zero => rw [ix_cons_zero, h0]
    | succ i => rw [ix_cons_succ]; exact coef_zero l (by simp at hl; omega) hz i
theorem val_plus (p q : List UInt8) (x : UInt8) : val (plus p q) x = val p x ^^^ val q x := by
  have hs : ∀ (l : List UInt8) (m : Nat), l.length ≤ m → val l x = sumN (fun i => mul (ix l i) (pw x i)) m := by
    intro l
    induction l with
    | nil => intro m _; rw [sumN_congr m (g := fun _ => 0) (fun i _ => by rw [show ix [] i = 0 by simp [ix], zero_mul]), sumN_zero]; rfl
    | cons c l ih =>
      intro m hm
      obtain ⟨k, rfl⟩ : ∃ k, m = k + 1 := ⟨m - 1, by simp at hm; omega⟩
      have hshift : ∀ (f : Nat → UInt8) (n : Nat), sumN f (n + 1) = f 0 ^^^ sumN (fun i => f (i + 1)) n := by
        intro f n
        induction n with
        | zero => rw [sumN, sumN, sumN, xor_zero, zero_xor]
        | succ n ihn => rw [sumN, ihn, sumN, xor_assoc]
      rw [hshift, val_cons, ih k (by simpa using hm), ix_cons_zero, pw, mul_one, xor_comm]
      congr 1
      rw [mul_comm, ← sumN_mul]
      exact sumN_congr _ fun i _ => by rw [ix_cons_succ, pw_succ', mul_assoc, mul_comm x, ← mul_assoc]
  have hi : ∀ i, i < max p.length q.length → ix (plus p q) i = ix p i ^^^ ix q i := by
    intro i h
    unfold plus
    conv => lhs; unfold ix
    rw [List.getD_eq_getElem?_getD, List.getElem?_map, List.getElem?_range h]
    rfl
  rw [hs _ (max p.length q.length) (by rw [plus_len]; omega), hs p (max p.length q.length) (by omega), hs q (max p.length q.length) (by omega), ← sumN_xor]
  exact sumN_congr _ fun i h => by rw [hi i h, xor_mul]
theorem sumN_shift (f : Nat → UInt8) (n : Nat) : sumN f (n + 1) = f 0 ^^^ sumN (fun i => f (i + 1)) n := by
  induction n with
  | zero => rw [sumN, sumN, sumN, xor_zero, zero_xor]
  | succ n ihn => rw [sumN, ihn, sumN, xor_assoc]
theorem val_sum (x : UInt8) : ∀ (l : List UInt8) (m : Nat), l.length ≤ m → val l x = sumN (fun i => mul (ix l i) (pw x i)) m
  | [], m, _ => by rw [sumN_congr m (g := fun _ => 0) (fun i _ => by rw [show ix [] i = 0 by simp [ix], zero_mul]), sumN_zero]; rfl
  | c :: l, m, hm => by
    obtain ⟨k, rfl⟩ : ∃ k, m = k + 1 := ⟨m - 1, by simp at hm; omega⟩
    rw [sumN_shift, val_cons, val_sum x l k (by simpa using hm), ix_cons_zero, pw, mul_one, xor_comm]
    congr 1
    rw [mul_comm, ← sumN_mul]
    exact sumN_congr _ fun i _ => by rw [ix_cons_succ, pw_succ', mul_assoc, mul_comm x, ← mul_assoc]
theorem ixp_plus (p q : List UInt8) (i : Nat) : ix (plus p q) i = ix p i ^^^ ix q i := by
  by_cases h : i < max p.length q.length
  · unfold plus
    conv => lhs; unfold ix
    rw [List.getD_eq_getElem?_getD, List.getElem?_map, List.getElem?_range h]
    rfl
  · rw [ix_of_le (by rw [plus_len]; omega), ix_of_le (by omega), ix_of_le (by omega), xor_self]
/-- polynomials with the same values have the same coefficients -/
theorem coef_eq (p q : List UInt8) (hp : p.length ≤ 256) (hq : q.length ≤ 256) (h : ∀ x, val p x = val q x) (i : Nat) : ix p i = ix q i := by
  have := coef_zero (plus p q) (by rw [plus_len]; omega) (fun x => by rw [val_plus, h, xor_self]) i
  rw [ixp_plus] at this
  exact xor_eq_zero this
/-- the values of equal coefficients -/
theorem val_of_coef (p q : List UInt8) (h : ∀ i, ix p i = ix q i) (x : UInt8) : val p x = val q x := by
  rw [val_sum x p (max p.length q.length) (by omega), val_sum x q (max p.length q.length) (by omega)]
  exact sumN_congr _ fun i _ => by rw [h]
def scale (a : UInt8) (p : List UInt8) : List UInt8 := p.map (mul a)
theorem scale_length (a : UInt8) (p : List UInt8) : (scale a p).length = p.length := by simp [scale]
theorem ix_scale (a : UInt8) (p : List UInt8) (i : Nat) : ix (scale a p) i = mul a (ix p i) := by
  unfold scale ix
  by_cases h : i < p.length
  · simp [h]
  · simp [h, mul_zero]
theorem val_scale (a : UInt8) (x : UInt8) : ∀ p, val (scale a p) x = mul a (val p x)
  | [] => by rw [scale, List.map_nil, val_nil, mul_zero]
  | c :: l => by
    have := val_scale a x l
    unfold scale at this ⊢
    rw [List.map_cons, val_cons, val_cons, this, mul_xor, mul_assoc]
theorem ixp_deriv (p : List UInt8) (i : Nat) : ix (deriv p) i = if i % 2 = 0 then ix p (i + 1) else 0 := by
  by_cases h : i < p.length - 1
  · unfold deriv
    conv => lhs; unfold ix
    rw [List.getD_eq_getElem?_getD, List.getElem?_map, List.getElem?_range h]
    rfl
  · rw [ix_of_le (by simp [deriv]; omega)]
    split
    · rw [ix_of_le (by omega)]
    · rfl
/-- the derivative of '(1 + a x) q' -/
theorem deriv_factor (p q : List UInt8) (a : UInt8) (hp : p.length ≤ 256) (hq : q.length ≤ 255) (h : ∀ x, val p x = mul (1 ^^^ mul a x) (val q x)) (x : UInt8) :
    val (deriv p) x = mul a (val q x) ^^^ mul (1 ^^^ mul a x) (val (deriv q) x) := by
  have hc := coef_eq p (plus q (0 :: scale a q)) hp (by rw [plus_len, List.length_cons, scale_length]; omega) (fun x => by
    rw [h, val_plus, val_cons, val_scale, xor_zero, xor_mul, one_mul]
    congr 1
    rw [← mul_assoc, ← mul_assoc, mul_comm x])
  have h0 : ix p 0 = ix q 0 := by rw [hc, ixp_plus, ix_cons_zero, xor_zero]
  have hs : ∀ i, ix p (i + 1) = ix q (i + 1) ^^^ mul a (ix q i) := fun i => by rw [hc, ixp_plus, ix_cons_succ, ix_scale]
  -- the even part of q
  obtain ⟨M, hM⟩ : ∃ M, M = p.length + q.length + 2 := ⟨_, rfl⟩
  have he : val q x = sumN (fun i => if i % 2 = 0 then mul (ix q i) (pw x i) else 0) M ^^^ mul x (val (deriv q) x) := by
    rw [val_sum x q M (by omega), val_sum x (deriv q) (M - 1) (by simp [deriv]; omega), ← sumN_mul]
    have e1 : sumN (fun i => mul (ix q i) (pw x i)) M = sumN (fun i => (if i % 2 = 0 then mul (ix q i) (pw x i) else 0) ^^^ (if i % 2 = 0 then 0 else mul (ix q i) (pw x i))) M :=
      sumN_congr _ fun i _ => by split <;> simp
    rw [e1, sumN_xor]
    congr 1
    obtain ⟨m, rfl⟩ : ∃ m, M = m + 1 := ⟨M - 1, by omega⟩
    rw [sumN_shift, Nat.add_sub_cancel]
    simp only [Nat.zero_mod, if_true, zero_xor]
    refine sumN_congr _ fun i _ => ?_
    rw [ixp_deriv]
    by_cases hi : i % 2 = 0
    · rw [if_pos hi, if_neg (by omega), pw_succ', mul_assoc, mul_comm (ix q (i + 1)), ← mul_assoc]
    · rw [if_neg hi, if_pos (by omega), zero_mul, mul_zero]
  have hd : val (deriv p) x = val (deriv q) x ^^^ mul a (sumN (fun i => if i % 2 = 0 then mul (ix q i) (pw x i) else 0) M) := by
    rw [val_sum x (deriv p) M (by simp [deriv]; omega), val_sum x (deriv q) M (by simp [deriv]; omega), ← sumN_mul, ← sumN_xor]
    refine sumN_congr _ fun i _ => ?_
    rw [ixp_deriv, ixp_deriv]
    by_cases hi : i % 2 = 0
    · rw [if_pos hi, if_pos hi, if_pos hi, hs, xor_mul, mul_assoc]
    · rw [if_neg hi, if_neg hi, if_neg hi, mul_zero, zero_mul, xor_self]
  rw [hd]
  obtain ⟨Ev, hEv⟩ : ∃ Ev, Ev = sumN (fun i => if i % 2 = 0 then mul (ix q i) (pw x i) else 0) M := ⟨_, rfl⟩
  rw [← hEv] at he ⊢
  rw [he]
  generalize val (deriv q) x = D
  -- D + a Ev = a (Ev + x D) + (1 + a x) D
  rw [mul_xor, xor_mul, one_mul, mul_assoc, xor_assoc, xor_comm D (mul (mul a x) D), ← xor_assoc (mul (mul a x) D), xor_self, zero_xor, xor_comm]
end Go.Proofs.YtflmjdjkfognjaaGreat.G
namespace Go.Proofs.YtflmjdjkfognjaaGreat.G
set_option linter.unusedVariables false
theorem mas (a b c : UInt8) : mul (mul a b) c = mul a (mul b c) := (mul_assoc a b c).symm
theorem mlc (a b c : UInt8) : mul a (mul b c) = mul b (mul a c) := by rw [mul_assoc, mul_comm a b, mas]
theorem xlc (a b c : UInt8) : a ^^^ (b ^^^ c) = b ^^^ (a ^^^ c) := by rw [← xor_assoc, xor_comm a b, xor_assoc]
/-- the coefficients from 'd' on are 0 -/
def Dg (p : List UInt8) (d : Nat) : Prop := ∀ i, d ≤ i → ix p i = 0
theorem Dg.mono {p : List UInt8} {d e : Nat} (h : Dg p d) (hd : d ≤ e) : Dg p e := fun i hi => h i (by omega)
theorem Dg.len (p : List UInt8) : Dg p p.length := fun i hi => ix_of_le hi
theorem Dg.plus {p q : List UInt8} {d : Nat} (h : Dg p d) (h' : Dg q d) : Dg (plus p q) d := fun i hi => by rw [ixp_plus, h i hi, h' i hi, xor_self]
theorem Dg.addRows {p q : List UInt8} {d e : Nat} (hp : Dg p d) (hq : Dg q e) (t : Nat) (ht : d + e ≤ t + 1) : ∀ k, ix (addRows p q k) t = 0
  | 0 => by rw [G.addRows, ix_zeros]
  | k + 1 => by
    rw [G.addRows, ix_addRow]
    have ih := Dg.addRows hp hq t ht k
    split
    · next h =>
      rw [ih, zero_xor]
      by_cases hk : d ≤ k
      · rw [hp k hk, zero_mul]
      · rw [hq (t - k) (by omega), mul_zero]
    · exact ih
theorem Dg.prod {p q : List UInt8} {d e : Nat} (hp : Dg p d) (hq : Dg q e) {f : Nat} (hf : d + e ≤ f + 1) : Dg (prod p q) f := fun i hi => by
  unfold G.prod
  split
  · simp [ix]
  · exact Dg.addRows hp hq i (by omega) _
/-- a function that is a polynomial with at most 'd' coefficients -/
def Poly (d : Nat) (f : UInt8 → UInt8) : Prop := ∃ p : List UInt8, p.length ≤ d ∧ ∀ z, f z = val p z
theorem Dg.poly {p : List UInt8} {d : Nat} (h : Dg p d) : Poly d (val p) :=
  ⟨p.take d, by rw [List.length_take]; omega, fun z => val_of_coef _ _ (fun i => by
    by_cases hi : i < d
    · unfold ix; simp [hi]
    · rw [h i (by omega), ix_of_le (by rw [List.length_take]; omega)]) z⟩
theorem Poly.mono {d e : Nat} {f : UInt8 → UInt8} (h : Poly d f) (hd : d ≤ e) : Poly e f := by
  obtain ⟨p, hp, h⟩ := h
  exact ⟨p, by omega, h⟩
theorem Poly.congr {d : Nat} {f g : UInt8 → UInt8} (h : Poly d f) (hg : ∀ z, g z = f z) : Poly d g := by
  obtain ⟨p, hp, h⟩ := h
  exact ⟨p, hp, fun z => by rw [hg, h]⟩
theorem Poly.xor {d : Nat} {f g : UInt8 → UInt8} (h : Poly d f) (h' : Poly d g) : Poly d (fun z => f z ^^^ g z) := by
  obtain ⟨p, hp, h⟩ := h
  obtain ⟨q, hq, h'⟩ := h'
  exact ⟨G.plus p q, by rw [plus_len]; omega, fun z => by simp only [val_plus, h, h']⟩
theorem Poly.mul {d e k : Nat} {f g : UInt8 → UInt8} (h : Poly d f) (h' : Poly e g) (hk : d + e ≤ k + 1) : Poly k (fun z => G.mul (f z) (g z)) := by
  obtain ⟨p, hp, h⟩ := h
  obtain ⟨q, hq, h'⟩ := h'
  refine ⟨G.prod p q, ?_, fun z => by simp only [val_prod, h, h']⟩
  unfold G.prod
  split
  · simp
  · rw [addRows_length]; omega
theorem Poly.const (a : UInt8) : Poly 1 (fun _ => a) := ⟨[a], by simp, fun z => (val_one a z).symm⟩
theorem Poly.zero : Poly 0 (fun _ => 0) := ⟨[], by simp, fun z => rfl⟩
theorem Poly.smul {d : Nat} {f : UInt8 → UInt8} (h : Poly d f) (a : UInt8) : Poly d (fun z => G.mul a (f z)) := by
  obtain ⟨p, hp, h⟩ := h
  exact ⟨scale a p, by rw [scale_length]; exact hp, fun z => by simp only [val_scale, h]⟩
theorem Poly.lin (a : UInt8) : Poly 2 (fun z => 1 ^^^ G.mul a z) := ⟨[1, a], by simp, fun z => by simp only [val_cons, val_nil, zero_mul, zero_xor]; exact xor_comm _ _⟩
theorem Poly.sum {d : Nat} {f : Nat → UInt8 → UInt8} (h : ∀ j, Poly d (f j)) : ∀ n, Poly d (fun z => sumN (fun j => f j z) n)
  | 0 => (Poly.zero.mono (Nat.zero_le _)).congr fun z => rfl
  | n + 1 => ((Poly.sum h n).xor (h n)).congr fun z => rfl
/-- a polynomial with at most 'n' coefficients that is a multiple of the 'n'th power -/
theorem Poly.low {n m : Nat} {f g : UInt8 → UInt8} (hf : Poly n f) (hg : Poly m g) (hn : n + m ≤ 256) (h : ∀ z, f z = G.mul (pw z n) (g z)) (z : UInt8) : f z = 0 := by
  obtain ⟨p, hp, hfp⟩ := hf
  obtain ⟨q, hq, hgq⟩ := hg
  have hc := coef_eq p (List.replicate n 0 ++ q) (by omega) (by simp; omega) (fun x => by
    rw [← hfp, h, val_append, val_zeros, zero_xor, List.length_replicate, hgq, mul_comm])
  rw [hfp]
  have : ∀ i, ix p i = ix [] i := fun i => by
    rw [show ix [] i = 0 by simp [ix]]
    by_cases hi : i < n
    · rw [hc, ix_append_left (by simpa using hi), ix_zeros]
    · exact ix_of_le (by omega)
  rw [val_of_coef p [] this]
  rfl
theorem Poly.zero_but {d : Nat} {f : UInt8 → UInt8} (hf : Poly d f) (hd : d ≤ 255) (z : UInt8) (h : ∀ x, x ≠ z → f x = 0) (x : UInt8) : f x = 0 := by
  obtain ⟨p, hp, hfp⟩ := hf
  rw [hfp]
  exact G.zero_but p z (by omega) (fun y hy => by rw [← hfp]; exact h y hy) x
theorem Poly.factor {d : Nat} {f : UInt8 → UInt8} (hf : Poly (d + 1) f) {r : UInt8} (h : f r = 0) : ∃ g, Poly d g ∧ ∀ x, f x = G.mul (x ^^^ r) (g x) := by
  obtain ⟨p, hp, hfp⟩ := hf
  exact ⟨val (quo r p), ⟨quo r p, by rw [quo_length]; omega, fun z => rfl⟩, fun x => by rw [hfp, val_factor (by rw [← hfp]; exact h)]⟩
/-- a division's steps: the dividend is kept; the quotient's degree -/
theorem divLoop_spec (q : List UInt8) (n : Nat) (iv x : UInt8) (hq : Dg q (n + 1)) : ∀ (k : Nat) (S1 S2 : List UInt8), k ≤ S1.length → n + k ≤ S2.length → (∀ i, i < k → ix S1 i = 0) →
    val (divLoop q n iv k (S1, S2)).2 x ^^^ mul (val (divLoop q n iv k (S1, S2)).1 x) (val q x) = val S2 x ^^^ mul (val S1 x) (val q x)
  | 0, S1, S2, _, _, _ => rfl
  | k + 1, S1, S2, h1, h2, h3 => by
    rw [divLoop]
    have e0 : divStep q n iv (n + k) (S1, S2) = (S1.set k (mul (ix S2 (n + k)) iv), addRow k (mul (ix S2 (n + k)) iv) q (n + 1) S2) := by
      unfold divStep; simp only [Nat.add_sub_cancel_left]
    rw [e0]
    obtain ⟨f, hf⟩ : ∃ f, f = mul (ix S2 (n + k)) iv := ⟨_, rfl⟩
    rw [← hf]
    rw [divLoop_spec q n iv x hq k _ _ (by rw [List.length_set]; omega) (by rw [addRow_length]; omega) (fun i hi => by
      have : ix (S1.set k f) i = ix S1 i := by unfold ix; rw [List.getD_eq_getElem?_getD, List.getElem?_set_ne (by omega), ← List.getD_eq_getElem?_getD]
      rw [this]; exact h3 i (by omega))]
    have e1 : S1.set k f = bump S1 k f := by unfold bump; rw [h3 k (by omega), zero_xor]
    have e2 : val (addRow k f q (n + 1) S2) x = val S2 x ^^^ mul (mul f (pw x k)) (val q x) := by
      have hz : val (addRow k f q (n + 1) S2) x = val (addRow k f (q ++ List.replicate (n + 1) 0) (n + 1) S2) x := by
        apply val_of_coef
        intro i
        rw [ix_addRow, ix_addRow]
        have : ∀ t, ix (q ++ List.replicate (n + 1) 0) t = ix q t := fun t => by
          by_cases ht : t < q.length
          · exact ix_append_left ht
          · rw [ix_append_right (by omega), ix_zeros, ix_of_le (by omega)]
        rw [this]
      rw [hz, val_addRow _ _ _ _ _ _ (by simp) (by omega)]
      congr 2
      apply val_of_coef
      intro i
      by_cases hi : i < n + 1
      · have : ix ((q ++ List.replicate (n + 1) 0).take (n + 1)) i = ix (q ++ List.replicate (n + 1) 0) i := by unfold ix; rw [List.getD_eq_getElem?_getD, List.getD_eq_getElem?_getD, List.getElem?_take, if_pos hi]
        rw [this]
        by_cases ht : i < q.length
        · exact ix_append_left ht
        · rw [ix_append_right (by omega), ix_zeros, ix_of_le (by omega)]
      · rw [hq i (by omega), ix_of_le (by rw [List.length_take]; omega)]
    rw [e1, e2, val_bump _ _ _ _ (by omega), xor_mul, xor_assoc]
    congr 1
    rw [← xor_assoc, xor_comm (mul (mul f (pw x k)) (val q x)), xor_assoc, xor_self, xor_zero]
theorem divLoop_quot (q : List UInt8) (n : Nat) (iv : UInt8) : ∀ (k : Nat) (s : List UInt8 × List UInt8) (i : Nat), k ≤ i → ix (divLoop q n iv k s).1 i = ix s.1 i
  | 0, s, i, _ => rfl
  | k + 1, s, i, h => by
    rw [divLoop, divLoop_quot q n iv k _ i (by omega), divStep]
    simp only [Nat.add_sub_cancel_left]
    unfold ix
    rw [List.getD_eq_getElem?_getD, List.getElem?_set_ne (by omega), ← List.getD_eq_getElem?_getD]
theorem divide_spec (p q : List UInt8) (n m : Nat) (hn : deg q = (n : Int)) (hm : deg p = (m : Int)) (hnm : n ≤ m) (x : UInt8) :
    val p x = mul (val (divide p q).1 x) (val q x) ^^^ val (divide p q).2 x := by
  have hb := deg_bounds p
  have hs := divLoop_spec q n (inv (ix q n)) x (fun i hi => ix_of_deg (by omega)) (m + 1 - n) (List.replicate (p.length - n) 0) p (by simp; omega) (by omega) (fun i _ => ix_zeros _ _)
  have e : divide p q = divLoop q n (inv (ix q n)) (m + 1 - n) (List.replicate (p.length - n) 0, p) := by
    rw [divide_eq hn, hm, show ((m : Int) + 1 - n).toNat = m + 1 - n by omega, show (max ((p.length : Int) - n) 1).toNat = p.length - n by omega]
  rw [← e, val_zeros, zero_mul, xor_zero] at hs
  rw [← hs, xor_comm]
theorem divide_quot (p q : List UInt8) (n m : Nat) (hn : deg q = (n : Int)) (hm : deg p = (m : Int)) (hnm : n ≤ m) : Dg (divide p q).1 (m - n + 1) := fun i hi => by
  rw [divide_eq hn, hm, divLoop_quot _ _ _ _ _ _ (by omega), ix_zeros]
/-- what Euclid's steps keep: 'w' is the polynomial that is divided first into the 'n'th power -/
structure Euc (n : Nat) (w : UInt8 → UInt8) (a b u v : List UInt8) (d : Nat) : Prop where
  dega : deg a = (d : Int)
  dn : d ≤ n
  degb : deg b < (d : Int)
  pu : Dg u (n - d + 1)
  pv : Dg v (n - d + 1)
  cong : ∃ Ua Ub : UInt8 → UInt8, Poly (n - d + 1) Ua ∧ Poly (n - d + 1) Ub ∧ (∀ z, mul (val u z) (w z) = val a z ^^^ mul (pw z n) (Ua z)) ∧ (∀ z, mul (val v z) (w z) = val b z ^^^ mul (pw z n) (Ub z))
  det : ∀ z, mul (val u z) (val b z) ^^^ mul (val v z) (val a z) = pw z n
theorem Euc.step {n d e : Nat} {w : UInt8 → UInt8} {a b u v : List UInt8} (h : Euc n w a b u v d) (hb : deg b = (e : Int)) : Euc n w b (divide a b).2 v (plus u (prod (divide a b).1 v)) e := by
  have hed : e < d := by have := h.degb; omega
  have hdn := h.dn
  have hdiv := divide_spec a b e d hb h.dega (by omega)
  have hq := divide_quot a b e d hb h.dega (by omega)
  obtain ⟨Ua, Ub, pa, pb, ca, cb⟩ := h.cong
  refine ⟨hb, by omega, ?_, h.pv.mono (by omega), (h.pu.mono (by omega)).plus (hq.prod h.pv (by omega)), ⟨Ub, fun z => Ua z ^^^ mul (val (divide a b).1 z) (Ub z), pb.mono (by omega), (pa.mono (by omega)).xor (hq.poly.mul pb (by omega)), cb, fun z => ?_⟩, fun z => ?_⟩
  · have := divide_deg a b (by omega); rwa [hb] at this
  · rw [val_plus, val_prod, xor_mul, ca, ← mul_assoc, cb, hdiv z]
    simp only [mul_xor, xor_mul, mas, mul_comm, mlc, xor_assoc, xor_comm, xlc, xor_cancel]
  · have hd := h.det z
    rw [hdiv z] at hd
    rw [val_plus, val_prod, ← hd]
    generalize val (divide a b).1 z = Q
    generalize val (divide a b).2 z = R
    generalize val b z = Bz
    generalize val v z = V
    generalize val u z = U
    simp only [mul_xor, mul_comm, mlc, xor_assoc, xor_comm]
theorem Euc.loop {n : Nat} {w : UInt8 → UInt8} (t : Int) (ht : 0 < t) : ∀ (f : Nat) (a b u v : List UInt8) (d : Nat), Euc n w a b u v d → t ≤ 2 * (d : Int) → deg b + 1 ≤ (f : Int) →
    ∃ a' u' d', Euc n w a' (euc t f a b u v).1 u' (euc t f a b u v).2 d' ∧ t ≤ 2 * (d' : Int) ∧ 2 * deg (euc t f a b u v).1 < t
  | 0, a, b, u, v, d, h, h1, h2 => ⟨a, u, d, h, h1, by rw [euc]; simp only; have := deg_bounds b; omega⟩
  | f + 1, a, b, u, v, d, h, h1, h2 => by
    rw [euc]
    by_cases hc : t ≤ 2 * deg b
    · rw [if_pos hc]
      obtain ⟨e, he⟩ : ∃ e : Nat, deg b = (e : Int) := ⟨(deg b).toNat, by omega⟩
      have hs := h.step he
      exact Euc.loop t ht f b (divide a b).2 v (plus u (prod (divide a b).1 v)) e hs (by omega) (by have := hs.degb; omega)
    · rw [if_neg hc]
      exact ⟨a, u, d, h, h1, by simp only; omega⟩
theorem deg_pow (n : Nat) : deg (List.replicate n 0 ++ [1]) = n := by
  have e : (List.replicate n (0 : UInt8) ++ [1]).length = n + 1 := by simp
  unfold deg
  rw [e, degN, if_neg]
  rw [ix_append_right (by simp)]
  simp [ix]
theorem Euc.start {n : Nat} {w : List UInt8} (hw : w.length ≤ n) : Euc n (val w) (List.replicate n 0 ++ [1]) w [0] [1] n := by
  have hd : Dg [0] (n - n + 1) := fun i hi => ix_of_le (by simp; omega)
  have hd1 : Dg [1] (n - n + 1) := fun i hi => ix_of_le (by simp; omega)
  have hv : ∀ z, val (List.replicate n 0 ++ [1]) z = pw z n := fun z => by rw [val_append, val_zeros, zero_xor, List.length_replicate, val_one, one_mul]
  refine ⟨deg_pow n, Nat.le_refl _, by have := deg_bounds w; omega, hd, hd1, ⟨fun _ => 1, fun _ => 0, (Poly.const 1).mono (by omega), (Poly.const 0).mono (by omega), fun z => ?_, fun z => ?_⟩, fun z => ?_⟩
  · rw [val_one, zero_mul, hv, mul_one, xor_self]
  · rw [val_one, one_mul, mul_zero, xor_zero]
  · rw [val_one, val_one, zero_mul, one_mul, hv, zero_xor]
end Go.Proofs.YtflmjdjkfognjaaGreat.G
