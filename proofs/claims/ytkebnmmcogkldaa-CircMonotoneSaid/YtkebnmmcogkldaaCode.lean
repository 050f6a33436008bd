/- The Reed-Solomon code: linear, systematic, its codewords valid, its distance; zeros in front. No program is named here. -/
import Derived.Test.YtkebnmmcogkldaaAlg
namespace Go.Proofs.Ytkebnmmcogkldaa.G

/-- the sum of the first 'n' values -/
def sumN (f : Nat → UInt8) : Nat → UInt8
  | 0 => 0
  | n + 1 => sumN f n ^^^ f n
theorem sumN_congr {f g : Nat → UInt8} : ∀ n, (∀ i, i < n → f i = g i) → sumN f n = sumN g n
  | 0, _ => rfl
  | n + 1, h => by rw [sumN, sumN, sumN_congr n (fun i hi => h i (by omega)), h n (by omega)]
theorem sumN_zero : ∀ n, sumN (fun _ => 0) n = 0
  | 0 => rfl
  | n + 1 => by rw [sumN, sumN_zero n, xor_self]
theorem sumN_xor (f g : Nat → UInt8) : ∀ n, sumN (fun i => f i ^^^ g i) n = sumN f n ^^^ sumN g n
  | 0 => by simp [sumN]
  | n + 1 => by rw [sumN, sumN, sumN, sumN_xor f g n, xor_4]
theorem sumN_mul (a : UInt8) (f : Nat → UInt8) : ∀ n, sumN (fun i => mul a (f i)) n = mul a (sumN f n)
  | 0 => by rw [sumN, sumN, mul_zero]
  | n + 1 => by rw [sumN, sumN, sumN_mul a f n, mul_xor]
theorem sumN_one {f : Nat → UInt8} {n j : Nat} (hj : j < n) (h : ∀ i, i < n → i ≠ j → f i = 0) : sumN f n = f j := by
  induction n with
  | zero => omega
  | succ n ih =>
    rw [sumN]
    by_cases e : j = n
    · subst e
      rw [sumN_congr j (g := fun _ => 0) (fun i hi => h i (by omega) (by omega)), sumN_zero, zero_xor]
    · rw [ih (by omega) (fun i hi => h i (by omega)), h n (by omega) (by omega), xor_zero]

/-- the element of a position of a word of length 'N' -/
def loc (N j : Nat) : UInt8 := exp (N - 1 - j)
theorem loc_ne (N j : Nat) : loc N j ≠ 0 := exp_ne _
theorem loc_inj {N i j : Nat} (hN : N ≤ 255) (hi : i < N) (hj : j < N) (h : loc N i = loc N j) : i = j := by
  have := exp_inj (m := N - 1 - i) (n := N - 1 - j) (by omega) (by omega) h
  omega
theorem eval_sum (l : List UInt8) (x : UInt8) : eval l x = sumN (fun j => mul (ix l j) (pw x (l.length - 1 - j))) l.length := by
  suffices h : ∀ n, n ≤ l.length → eval (l.take n) x = sumN (fun j => mul (ix l j) (pw x (n - 1 - j))) n by
    have := h l.length (Nat.le_refl _)
    rwa [List.take_length] at this
  intro n
  induction n with
  | zero => intro _; rfl
  | succ n ih =>
    intro hn
    rw [take_succ_ix l n (by omega), eval_snoc, ih (by omega), sumN, show n + 1 - 1 - n = 0 by omega, pw, mul_one]
    congr 1
    rw [mul_comm, ← sumN_mul]
    apply sumN_congr
    intro i hi
    rw [mul_assoc, mul_comm x, ← mul_assoc, show n + 1 - 1 - i = (n - 1 - i) + 1 by omega, pw_succ']
theorem pw_loc (N j k : Nat) : pw (exp k) (N - 1 - j) = pw (loc N j) k := by
  unfold loc; rw [pw_exp, pw_exp, Nat.mul_comm]
/-- a syndrome as a sum over the positions -/
theorem syn_sum (l : List UInt8) (k : Nat) : eval l (exp k) = sumN (fun j => mul (ix l j) (pw (loc l.length j) k)) l.length := by
  rw [eval_sum]
  exact sumN_congr _ fun i hi => by rw [pw_loc]
/-- with 'n' syndromes 0, the sum over the positions is 0 for each polynomial with at most 'n' coefficients -/
theorem dual (c : List UInt8) (n : Nat) (h : ∀ k, k < n → eval c (exp k) = 0) : ∀ (m : Nat) (f : List UInt8), f.length = m → m ≤ n → sumN (fun j => mul (ix c j) (val f (loc c.length j))) c.length = 0
  | 0, f, hf, _ => by
    obtain rfl := List.eq_nil_of_length_eq_zero hf
    rw [sumN_congr _ (g := fun _ => 0) (fun i _ => by rw [val_nil, mul_zero]), sumN_zero]
  | m + 1, f, hf, hm => by
    obtain ⟨g, a, rfl⟩ : ∃ g a, f = g ++ [a] := ⟨f.dropLast, f.getLast (by intro e; rw [e] at hf; simp at hf), (List.dropLast_concat_getLast _).symm⟩
    have hg : g.length = m := by simpa using hf
    have h1 := dual c n h m g hg (by omega)
    have h2 := syn_sum c m
    rw [h m (by omega)] at h2
    rw [sumN_congr _ (g := fun j => mul (ix c j) (val g (loc c.length j)) ^^^ mul a (mul (ix c j) (pw (loc c.length j) m))) (fun i _ => by
      rw [val_append, val_cons, val_nil, zero_mul, zero_xor, hg, mul_xor]
      congr 1
      rw [mul_assoc, mul_comm (ix c i), ← mul_assoc]), sumN_xor, h1, sumN_mul, ← h2, mul_zero, xor_self]

theorem val_addRows (x : UInt8) (p q : List UInt8) (hq : q ≠ []) : ∀ i, i ≤ p.length → val (addRows p q i) x = mul (val (p.take i) x) (val q x)
  | 0, _ => by rw [addRows, val_zeros, List.take_zero, val_nil, zero_mul]
  | i + 1, h => by
    have hl : 0 < q.length := List.length_pos_iff.2 hq
    rw [addRows, val_addRow _ _ _ _ _ _ (Nat.le_refl _) (by rw [addRows_length]; omega), val_addRows x p q hq i (by omega), List.take_length, val_take_succ _ _ (by omega), xor_mul]
theorem val_prod (p q : List UInt8) (x : UInt8) : val (prod p q) x = mul (val p x) (val q x) := by
  by_cases hp : p = []
  · subst hp; rw [prod_nil_left, val_nil, zero_mul]
  by_cases hq : q = []
  · subst hq; rw [prod_nil_right, val_nil, mul_zero]
  rw [prod_eq hp hq, val_addRows x p q hq _ (Nat.le_refl _), List.take_length]

/-- the polynomial whose roots are the elements of some positions -/
def rootP (N : Nat) : List Nat → List UInt8
  | [] => [1]
  | j :: L => prod [loc N j, 1] (rootP N L)
theorem rootP_length (N : Nat) : ∀ L, (rootP N L).length = L.length + 1
  | [] => rfl
  | j :: L => by
    have h := rootP_length N L
    rw [rootP, prod_length _ _ (by simp) (by intro e; rw [e] at h; simp at h), h]
    simp; omega
theorem val_rootP (N : Nat) (x : UInt8) (L : List Nat) : val (rootP N L) x = 0 ↔ ∃ j ∈ L, x = loc N j := by
  induction L with
  | nil => simp [rootP, val_cons, val_nil, zero_mul]
  | cons j L ih =>
    rw [rootP, val_prod]
    have e : val [loc N j, 1] x = x ^^^ loc N j := by rw [val_cons, val_cons, val_nil, zero_mul, zero_xor, one_mul]
    rw [e]
    constructor
    · intro h
      rcases mul_eq_zero h with h | h
      · exact ⟨j, by simp, xor_eq_zero h⟩
      · obtain ⟨i, hi, e⟩ := ih.1 h
        exact ⟨i, by simp [hi], e⟩
    · rintro ⟨i, hi, hx⟩
      rcases List.mem_cons.1 hi with rfl | hi
      · rw [hx, xor_self, zero_mul]
      · rw [ih.2 ⟨i, hi, hx⟩, mul_zero]

/-- the positions below 'k' that are not 0 -/
def supp (c : List UInt8) (k : Nat) : List Nat := (List.range k).filter fun j => ix c j != 0
theorem mem_supp (c : List UInt8) (k j : Nat) : j ∈ supp c k ↔ j < k ∧ ix c j ≠ 0 := by simp [supp]
/-- a word with 'n' syndromes 0 and at most 'n' positions that are not 0 is 0 -/
theorem few_zero (c : List UInt8) (n : Nat) (hN : c.length ≤ 255) (h : ∀ k, k < n → eval c (exp k) = 0) (hs : (supp c c.length).length ≤ n) : ∀ j, ix c j = 0 := by
  intro j
  by_cases hj : j < c.length
  · by_cases h0 : ix c j = 0
    · exact h0
    · exfalso
      have hmem : j ∈ supp c c.length := (mem_supp c _ j).2 ⟨hj, h0⟩
      obtain ⟨L, hL⟩ : ∃ L, L = (supp c c.length).filter fun i => i != j := ⟨_, rfl⟩
      have hlen : L.length < (supp c c.length).length := by
        rw [hL]
        exact List.length_filter_lt_length_iff_exists.2 ⟨j, hmem, by simp⟩
      have hd := dual c n h _ (rootP c.length L) rfl (by rw [rootP_length]; omega)
      rw [sumN_one hj (fun i hi hne => ?_)] at hd
      · rcases mul_eq_zero hd with h1 | h1
        · exact h0 h1
        · obtain ⟨i, hi, e⟩ := (val_rootP c.length _ L).1 h1
          rw [hL, List.mem_filter] at hi
          have hi1 := (mem_supp c _ i).1 hi.1
          have := loc_inj hN hj hi1.1 e
          subst this
          simp at hi
      · by_cases hi0 : ix c i = 0
        · rw [hi0, zero_mul]
        · rw [(val_rootP c.length _ L).2 ⟨i, by rw [hL, List.mem_filter]; exact ⟨(mem_supp c _ i).2 ⟨hi, hi0⟩, by simpa using hne⟩, rfl⟩, mul_zero]
  · exact ix_of_le (by omega)

theorem gen_ne0 (n : Nat) : gen n ≠ [] := by
  have := gen_length n
  intro e; rw [e] at this; simp at this
theorem enc_syn (l : List UInt8) (n k : Nat) (hk : k < n) : eval (enc l n) (exp k) = 0 := by
  unfold enc
  have hr := eval_rem (l ++ List.replicate n 0) (gen n) (exp k) (gen_ne0 n) (by rw [gen_head]; decide) ((eval_gen n _).2 ⟨k, hk, rfl⟩)
  have hl : (rem (l ++ List.replicate n 0) (gen n)).length = n := by rw [rem_length, gen_length]; rfl
  rw [eval_append, hr, hl, eval_append, eval_zeros, List.length_replicate, xor_zero, xor_self]
theorem zeroB_synd (l : List UInt8) (n : Nat) : zeroB (synd l n) = true ↔ ∀ k, k < n → eval l (exp k) = 0 := by
  unfold zeroB synd
  simp
theorem enc_valid (l : List UInt8) (n : Int) (h : encB l n = true) : validB (enc l n.toNat) n = true := by
  have h1 : 1 ≤ n ∧ n ≤ 16 ∧ l ≠ [] ∧ (l.length : Int) + n ≤ 255 := by simpa [encB, and_assoc] using h
  have hl := List.length_pos_iff.2 h1.2.2.1
  unfold validB
  rw [Bool.and_eq_true]
  exact ⟨(shapedB_iff _ _).2 ⟨by rw [enc_length]; omega, by rw [enc_length]; omega, by omega, by omega, by rw [enc_length]; omega⟩, (zeroB_synd _ _).2 fun k hk => enc_syn l _ k hk⟩
theorem xorL_append {a b r s : List UInt8} (h : a.length = b.length) : xorL (a ++ r) (b ++ s) = xorL a b ++ xorL r s := by
  unfold xorL; exact List.zipWith_append h
theorem xorL_zero2 (n : Nat) : xorL (List.replicate n 0) (List.replicate n 0) = List.replicate n 0 := by
  apply ext_ix
  · simp [xorL]
  · intro i _
    rw [ix_xorL rfl, ix_zeros, xor_self]
theorem enc_xorL (a b : List UInt8) (n : Nat) (h : a.length = b.length) : enc (xorL a b) n = xorL (enc a n) (enc b n) := by
  unfold enc
  rw [xorL_append h, ← rem_xorL _ _ _ (by simp [h]), xorL_append h, xorL_zero2]
theorem encB_len {a b : List UInt8} (n : Int) (h : a.length = b.length) : encB a n = encB b n := by
  have e : (a ≠ []) ↔ (b ≠ []) := by rw [← List.length_pos_iff, ← List.length_pos_iff, h]
  unfold encB
  rw [h]
  simp [e]
theorem enc_take (l : List UInt8) (n : Nat) : (enc l n).take l.length = l := by unfold enc; simp
theorem rem_pad (m : Nat) (p q : List UInt8) : rem (pad m p) q = rem p q := by
  unfold rem
  have e : pad (q.length - 1) (pad m p) = pad m (pad (q.length - 1) p) := by
    unfold pad
    rw [← List.append_assoc, ← List.append_assoc, List.replicate_append_replicate, List.replicate_append_replicate, Nat.add_comm]
  rw [e, pad_length, divRows_pad]
  unfold pad
  rw [List.drop_append]
  simp
theorem enc_pad (m : Nat) (l : List UInt8) (n : Nat) : enc (pad m l) n = pad m (enc l n) := by
  unfold enc
  have e : pad m l ++ List.replicate n 0 = pad m (l ++ List.replicate n 0) := by unfold pad; rw [List.append_assoc]
  rw [e, rem_pad]
  unfold pad
  rw [List.append_assoc]
theorem supp_succ (c : List UInt8) (k : Nat) : (supp c (k + 1)).length = (supp c k).length + if ix c k = 0 then 0 else 1 := by
  unfold supp
  rw [List.range_succ, List.filter_append, List.length_append]
  congr 1
  by_cases h : ix c k = 0 <;> simp [h]
end Go.Proofs.Ytkebnmmcogkldaa.G
