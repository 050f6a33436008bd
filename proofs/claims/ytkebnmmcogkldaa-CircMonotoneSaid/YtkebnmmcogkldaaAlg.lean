/- Polynomials with the coefficient of the lowest power first: values, degrees, division. No program is named here. -/
import Derived.Test.YtkebnmmcogkldaaRs
namespace Go.Proofs.Ytkebnmmcogkldaa.G

theorem val_nil (x : UInt8) : val [] x = 0 := rfl
theorem val_cons (c : UInt8) (l : List UInt8) (x : UInt8) : val (c :: l) x = mul (val l x) x ^^^ c := by
  unfold val; rw [List.reverse_cons, eval_snoc]
theorem val_append (l m : List UInt8) (x : UInt8) : val (l ++ m) x = val l x ^^^ mul (val m x) (pw x l.length) := by
  unfold val
  rw [List.reverse_append, eval_append, List.length_reverse, xor_comm]
theorem val_zeros (n : Nat) (x : UInt8) : val (List.replicate n 0) x = 0 := by
  unfold val; rw [List.reverse_replicate, eval_zeros]
theorem val_bump (x v : UInt8) : ∀ (out : List UInt8) (j : Nat), j < out.length → val (bump out j v) x = val out x ^^^ mul v (pw x j)
  | [], j, h => by simp at h
  | c :: l, 0, _ => by
    rw [bump_cons_zero, val_cons, val_cons, pw, mul_one, xor_assoc]
  | c :: l, j + 1, h => by
    rw [bump_cons_succ, val_cons, val_cons, val_bump x v l j (by simpa using h), xor_mul, pw, ← mul_assoc, xor_assoc, xor_assoc]
    congr 1
    exact xor_comm _ _
theorem val_take_succ (q : List UInt8) (k : Nat) (h : k < q.length) (x : UInt8) : val (q.take (k + 1)) x = val (q.take k) x ^^^ mul (ix q k) (pw x k) := by
  rw [take_succ_ix q k h, val_append, List.length_take, Nat.min_eq_left (by omega)]
  congr 2
  rw [val_cons, val_nil, zero_mul, zero_xor]
theorem val_addRow (x a : UInt8) (q : List UInt8) (i : Nat) (out : List UInt8) : ∀ k, k ≤ q.length → i + k ≤ out.length →
    val (addRow i a q k out) x = val out x ^^^ mul (mul a (pw x i)) (val (q.take k) x)
  | 0, _, _ => by rw [addRow, List.take_zero, val_nil, mul_zero, xor_zero]
  | k + 1, h1, h2 => by
    rw [addRow, val_bump _ _ _ _ (by rw [addRow_length]; omega), val_addRow x a q i out k (by omega) (by omega), val_take_succ q k (by omega), mul_xor, xor_assoc]
    congr 2
    rw [pw_add, mul_assoc, mul_assoc]
    congr 1
    rw [← mul_assoc, ← mul_assoc, mul_comm (ix q k)]

theorem degN_spec (p : List UInt8) : ∀ n, (∀ i, i < n → (degN p n < (i : Int) → ix p i = 0)) ∧ (0 ≤ degN p n → ix p (degN p n).toNat ≠ 0) ∧ -1 ≤ degN p n ∧ degN p n < n
  | 0 => ⟨fun i h => by omega, fun h => by simp [degN] at h, by simp [degN], by simp [degN]⟩
  | n + 1 => by
    obtain ⟨h1, h2, h3, h4⟩ := degN_spec p n
    unfold degN
    by_cases h : ix p n = 0
    · rw [if_pos h]
      refine ⟨fun i hi hd => ?_, h2, h3, by omega⟩
      by_cases e : i = n
      · rw [e]; exact h
      · exact h1 i (by omega) hd
    · rw [if_neg h]
      exact ⟨fun i hi hd => by omega, fun _ => by simpa using h, by omega, by omega⟩
theorem ix_of_deg {p : List UInt8} {i : Nat} (h : deg p < (i : Int)) : ix p i = 0 := by
  by_cases hi : i < p.length
  · exact (degN_spec p p.length).1 i hi h
  · exact ix_of_le (by omega)
theorem deg_bounds (p : List UInt8) : -1 ≤ deg p ∧ deg p < p.length := ⟨(degN_spec p _).2.2.1, (degN_spec p _).2.2.2⟩
theorem ix_deg {p : List UInt8} {n : Nat} (h : deg p = (n : Int)) : ix p n ≠ 0 := by
  have := (degN_spec p p.length).2.1 (by show 0 ≤ deg p; omega)
  have e : (degN p p.length).toNat = n := by show (deg p).toNat = n; omega
  rwa [e] at this
theorem deg_lt {p : List UInt8} {n : Nat} (h : ∀ i, n ≤ i → ix p i = 0) : deg p < (n : Int) := by
  by_cases hd : deg p < (n : Int)
  · exact hd
  · have hb := deg_bounds p
    exact absurd (h (deg p).toNat (by omega)) (ix_deg (by omega))

theorem divLoop_done (q : List UInt8) (n : Nat) (h0 : ix q n ≠ 0) : ∀ (k : Nat) (S1 S2 : List UInt8), (∀ i, n + k ≤ i → ix S2 i = 0) → ∀ i, n ≤ i → ix (divLoop q n (inv (ix q n)) k (S1, S2)).2 i = 0
  | 0, S1, S2, h, i, hi => h i (by omega)
  | k + 1, S1, S2, h, i, hi => by
    rw [divLoop, divStep]
    refine divLoop_done q n h0 k _ _ (fun t ht => ?_) i hi
    rw [ix_addRow]
    by_cases e : t = n + k
    · subst e
      simp only [Nat.add_sub_cancel_left]
      split
      · rw [Nat.add_sub_cancel, ← mul_assoc, inv_mul h0, mul_one, xor_self]
      · next hh =>
          by_cases hl : n + k < S2.length
          · exact absurd ⟨by omega, by omega, hl⟩ hh
          · exact ix_of_le (by omega)
    · rw [if_neg (by omega)]
      exact h t (by omega)
theorem divide_eq {p q : List UInt8} {n : Nat} (hn : deg q = (n : Int)) : divide p q = divLoop q n (inv (ix q n)) (deg p + 1 - n).toNat (List.replicate (max ((p.length : Int) - n) 1).toNat 0, p) := by
  unfold divide
  rw [hn]
  simp only [Int.toNat_natCast]
/-- the remainder's degree is less than the divisor's -/
theorem divide_deg (p q : List UInt8) (h : 0 ≤ deg q) : deg (divide p q).2 < deg q := by
  obtain ⟨n, hn⟩ : ∃ n : Nat, deg q = (n : Int) := ⟨(deg q).toNat, by omega⟩
  rw [hn, divide_eq hn]
  refine deg_lt fun i hi => divLoop_done q n (ix_deg hn) _ _ _ (fun t ht => ix_of_deg (by omega)) i hi

theorem divLoop_len (q : List UInt8) (n : Nat) (iv : UInt8) : ∀ (k : Nat) (s : List UInt8 × List UInt8), (divLoop q n iv k s).1.length = s.1.length ∧ (divLoop q n iv k s).2.length = s.2.length
  | 0, s => ⟨rfl, rfl⟩
  | k + 1, s => by
    rw [divLoop]
    obtain ⟨h1, h2⟩ := divLoop_len q n iv k (divStep q n iv (n + k) s)
    rw [h1, h2]
    simp [divStep, addRow_length]
theorem divide_len (p q : List UInt8) : (divide p q).1.length = (max ((p.length : Int) - deg q) 1).toNat ∧ (divide p q).2.length = p.length := by
  have := divLoop_len q (deg q).toNat (inv (ix q (deg q).toNat)) (deg p + 1 - deg q).toNat (List.replicate (max ((p.length : Int) - deg q) 1).toNat 0, p)
  unfold divide
  exact ⟨by rw [this.1]; simp, this.2⟩

/-- Euclid's steps with the threshold 't': remainders a, b; factors u, v -/
def euc (t : Int) : Nat → List UInt8 → List UInt8 → List UInt8 → List UInt8 → List UInt8 × List UInt8
  | 0, _, b, _, v => (b, v)
  | f + 1, a, b, u, v => if t ≤ 2 * deg b then euc t f b (divide a b).2 v (plus u (prod (divide a b).1 v)) else (b, v)

theorem plus_len (p q : List UInt8) : (plus p q).length = max p.length q.length := by simp [plus]
def fill (p : List UInt8) (n : Int) (l : List Int) : List UInt8 × Int :=
  if shapedB p n = false then ([], 1) else if posB p.length l = false then ([], 1) else if n < l.length then ([], 11)
  else if validB (repair p (erasI p.length l l.length) (xi p n.toNat l)) n = true then (repair p (erasI p.length l l.length) (xi p n.toNat l), 0) else ([], 11)
def decOut (p : List UInt8) (n : Nat) (l : List Int) : List UInt8 :=
  repair p (prod (euc ((n : Int) + l.length) n (List.replicate n 0 ++ [1]) (xi p n l) [0] [1]).2 (erasI p.length l l.length)) (euc ((n : Int) + l.length) n (List.replicate n 0 ++ [1]) (xi p n l) [0] [1]).1
def decode (p : List UInt8) (n : Int) (l : List Int) : List UInt8 × Int × Int :=
  if shapedB p n = false then ([], 0, 1) else if posB p.length l = false then ([], 0, 1) else if n < l.length then ([], 0, 11)
  else if l = [] ∧ zeroB (xi p n.toNat l) = true then (p, 0, 0)
  else if validB (decOut p n.toNat l) n = true ∧ 2 * othN p (decOut p n.toNat l) l p.length + l.length ≤ n.toNat then (decOut p n.toNat l, (allN p (decOut p n.toNat l) p.length : Int), 0) else ([], 0, 11)
theorem xi_length (p : List UInt8) (n : Nat) (l : List Int) (hn : 1 ≤ n) : (xi p n l).length = n := by
  unfold xi
  have e1 := synd_length p n
  have e2 := erasI_length p.length l l.length
  rw [List.length_take, prod_length _ _ (by intro e; rw [e] at e1; simp at e1; omega) (by intro e; rw [e] at e2; simp at e2), e1, e2]
  omega
end Go.Proofs.Ytkebnmmcogkldaa.G
