/- Parts: XRs XAlg XCode XPol -/
import Derived.Test.YtflmjdjkfognjaaGreatTe00
namespace Go.Proofs.YtflmjdjkfognjaaGreat.G
def shapedB (l : List UInt8) (n : Int) : Bool := decide (2 ≤ l.length) && decide (l.length ≤ 255) && decide (1 ≤ n) && decide (n ≤ 16) && decide (n < (l.length : Int))
theorem shapedB_iff (l : List UInt8) (n : Int) : shapedB l n = true ↔ 2 ≤ l.length ∧ l.length ≤ 255 ∧ 1 ≤ n ∧ n ≤ 16 ∧ n < (l.length : Int) := by
  simp [shapedB, and_assoc]
def synd (l : List UInt8) (n : Nat) : List UInt8 := (List.range n).map fun i => eval l (exp i)
theorem synd_length (l : List UInt8) (n : Nat) : (synd l n).length = n := by simp [synd]
theorem ix_synd (l : List UInt8) (n i : Nat) (h : i < n) : ix (synd l n) i = eval l (exp i) := by simp [synd, ix, h]
def zeroB (l : List UInt8) : Bool := l.all (· == 0)
def validB (l : List UInt8) (n : Int) : Bool := shapedB l n && zeroB (synd l n.toNat)
def enc (l : List UInt8) (n : Nat) : List UInt8 := l ++ rem (l ++ List.replicate n 0) (gen n)
def encB (l : List UInt8) (n : Int) : Bool := decide (1 ≤ n) && decide (n ≤ 16) && decide (l ≠ []) && decide ((l.length : Int) + n ≤ 255)
theorem enc_length (l : List UInt8) (n : Nat) : (enc l n).length = l.length + n := by
  unfold enc; rw [List.length_append, rem_length, gen_length]; omega
def degN (p : List UInt8) : Nat → Int
  | 0 => -1
  | n + 1 => if ix p n = 0 then degN p n else n
def deg (p : List UInt8) : Int := degN p p.length
def plus (p q : List UInt8) : List UInt8 := (List.range (max p.length q.length)).map fun i => ix p i ^^^ ix q i
def val (p : List UInt8) (x : UInt8) : UInt8 := eval p.reverse x
def deriv (p : List UInt8) : List UInt8 := (List.range (p.length - 1)).map fun i => if i % 2 = 0 then ix p (i + 1) else 0
def divStep (q : List UInt8) (n : Nat) (iv : UInt8) (i : Nat) (s : List UInt8 × List UInt8) : List UInt8 × List UInt8 :=
  (s.1.set (i - n) (mul (ix s.2 i) iv), addRow (i - n) (mul (ix s.2 i) iv) q (n + 1) s.2)
def divLoop (q : List UInt8) (n : Nat) (iv : UInt8) : Nat → List UInt8 × List UInt8 → List UInt8 × List UInt8
  | 0, s => s
  | k + 1, s => divLoop q n iv k (divStep q n iv (n + k) s)
def divide (p q : List UInt8) : List UInt8 × List UInt8 :=
  divLoop q (deg q).toNat (inv (ix q (deg q).toNat)) (deg p + 1 - deg q).toNat (List.replicate (max ((p.length : Int) - deg q) 1).toNat 0, p)
end Go.Proofs.YtflmjdjkfognjaaGreat.G
namespace Go.Proofs.YtflmjdjkfognjaaGreat
def ixI (l : List Int) (i : Nat) : Int := l.getD i 0
namespace G
def posN (n : Nat) (l : List Int) : Nat → Bool
  | 0 => true
  | k + 1 => posN n l k && !(decide (ixI l k < 0) || decide ((n : Int) ≤ ixI l k) || (decide (0 < k) && decide (ixI l k ≤ ixI l (k - 1))))
def posB (n : Nat) (l : List Int) : Bool := posN n l l.length
def erasI (n : Nat) (l : List Int) : Nat → List UInt8
  | 0 => [1]
  | k + 1 => prod (erasI n l k) [1, exp (n - 1 - (ixI l k).toNat)]
theorem erasI_length (n : Nat) (l : List Int) : ∀ k, (erasI n l k).length = k + 1
  | 0 => rfl
  | k + 1 => by
    have h := erasI_length n l k
    have h1 : erasI n l k ≠ [] := by intro e; rw [e] at h; simp at h
    rw [erasI, prod_length _ _ h1 (by simp), h]
    simp
theorem posN_mono (n : Nat) (l : List Int) : ∀ (m k : Nat), k ≤ m → posN n l m = true → posN n l k = true
  | 0, k, h, hp => by obtain rfl : k = 0 := by omega
                      exact hp
  | m + 1, k, h, hp => by
    by_cases e : k = m + 1
    · rw [e]; exact hp
    · unfold posN at hp
      rw [Bool.and_eq_true] at hp
      exact posN_mono n l m k (by omega) hp.1
theorem posN_at (n : Nat) (l : List Int) {m k : Nat} (h : k < m) (hp : posN n l m = true) : 0 ≤ ixI l k ∧ ixI l k < n ∧ (0 < k → ixI l (k - 1) < ixI l k) := by
  have := posN_mono n l m (k + 1) (by omega) hp
  unfold posN at this
  simp only [Bool.and_eq_true, Bool.not_eq_true', Bool.or_eq_false_iff, decide_eq_false_iff_not, Bool.and_eq_false_iff] at this
  omega
def xi (p : List UInt8) (n : Nat) (l : List Int) : List UInt8 := (prod (synd p n) (erasI p.length l l.length)).take n
def hp : Nat → UInt8
  | 0 => 1
  | j + 1 => mul (hp j) (inv 2)
def fixB (psi om : List UInt8) (j : Nat) : UInt8 :=
  if val psi (hp j) = 0 then mul (exp j) (mul (val om (hp j)) (inv (val (deriv psi) (hp j)))) else 0
def repair (p psi om : List UInt8) : List UInt8 := (List.range p.length).map fun i => ix p i ^^^ fixB psi om (p.length - 1 - i)
theorem repair_length (p psi om : List UInt8) : (repair p psi om).length = p.length := by simp [repair]
theorem ix_repair (p psi om : List UInt8) (i : Nat) (h : i < p.length) : ix (repair p psi om) i = ix p i ^^^ fixB psi om (p.length - 1 - i) := by
  simp [repair, ix, h]
def cont (l : List Int) (x : Int) : Bool := l.contains x
theorem cont_iff (l : List Int) (x : Int) : cont l x = true ↔ x ∈ l := by unfold cont; exact List.contains_iff_mem
def allN (a b : List UInt8) : Nat → Nat
  | 0 => 0
  | k + 1 => allN a b k + if ix a k = ix b k then 0 else 1
def othN (a b : List UInt8) (l : List Int) : Nat → Nat
  | 0 => 0
  | k + 1 => othN a b l k + if ix a k = ix b k then 0 else if cont l (k : Int) then 0 else 1
theorem allN_le (a b : List UInt8) : ∀ k, allN a b k ≤ k
  | 0 => by simp [allN]
  | k + 1 => by have := allN_le a b k; unfold allN; split <;> omega
theorem othN_le (a b : List UInt8) (l : List Int) : ∀ k, othN a b l k ≤ k
  | 0 => by simp [othN]
  | k + 1 => by have := othN_le a b l k; unfold othN; (repeat' split) <;> omega
end G
end Go.Proofs.YtflmjdjkfognjaaGreat
namespace Go.Proofs.YtflmjdjkfognjaaGreat.G
theorem val_nil (x : UInt8) : val [] x = 0 := rfl
theorem val_cons (c : UInt8) (l : List UInt8) (x : UInt8) : val (c :: l) x = mul (val l x) x ^^^ c := by
  unfold val; rw [List.reverse_cons, eval_snoc]
theorem val_append (l m : List UInt8) (x : UInt8) : val (l ++ m) x = val l x ^^^ mul (val m x) (pw x l.length) := by
  unfold val
  rw [List.reverse_append, eval_append, List.length_reverse, xor_comm]
theorem val_zeros (n : Nat) (x : UInt8) : val (List.replicate n 0) x = 0 := by
  unfold val; rw [List.reverse_replicate, eval_zeros]
theorem val_bump (x v : UInt8) : ∀ (out : List UInt8) (j : Nat), j < out.length → val (bump out j v) x = val out x ^^^ mul v (pw x j)
  | [], j, h => by simp at h
  | c :: l, 0, _ => by
    rw [bump_cons_zero, val_cons, val_cons, pw, mul_one, xor_assoc]
  | c :: l, j + 1, h => by
    rw [bump_cons_succ, val_cons, val_cons, val_bump x v l j (by simpa using h), xor_mul, pw, ← mul_assoc, xor_assoc, xor_assoc]
    congr 1
    exact xor_comm _ _
theorem val_take_succ (q : List UInt8) (k : Nat) (h : k < q.length) (x : UInt8) : val (q.take (k + 1)) x = val (q.take k) x ^^^ mul (ix q k) (pw x k) := by
  rw [take_succ_ix q k h, val_append, List.length_take, Nat.min_eq_left (by omega)]
  congr 2
  rw [val_cons, val_nil, zero_mul, zero_xor]
theorem val_addRow (x a : UInt8) (q : List UInt8) (i : Nat) (out : List UInt8) : ∀ k, k ≤ q.length → i + k ≤ out.length →
    val (addRow i a q k out) x = val out x ^^^ mul (mul a (pw x i)) (val (q.take k) x)
  | 0, _, _ => by rw [addRow, List.take_zero, val_nil, mul_zero, xor_zero]
  | k + 1, h1, h2 => by
    rw [addRow, val_bump _ _ _ _ (by rw [addRow_length]; omega), val_addRow x a q i out k (by omega) (by omega), val_take_succ q k (by omega), mul_xor, xor_assoc]
    congr 2
    rw [pw_add, mul_assoc, mul_assoc]
    congr 1
    rw [← mul_assoc, ← mul_assoc, mul_comm (ix q k)]
theorem degN_spec (p : List UInt8) : ∀ n, (∀ i, i < n → (degN p n < (i : Int) → ix p i = 0)) ∧ (0 ≤ degN p n → ix p (degN p n).toNat ≠ 0) ∧ -1 ≤ degN p n ∧ degN p n < n
  | 0 => ⟨fun i h => by omega, fun h => by simp [degN] at h, by simp [degN], by simp [degN]⟩
  | n + 1 => by
    obtain ⟨h1, h2, h3, h4⟩ := degN_spec p n
    unfold degN
    by_cases h : ix p n = 0
    · rw [if_pos h]
      refine ⟨fun i hi hd => ?_, h2, h3, by omega⟩
      by_cases e : i = n
      · rw [e]; exact h
      · exact h1 i (by omega) hd
    · rw [if_neg h]
      exact ⟨fun i hi hd => by omega, fun _ => by simpa using h, by omega, by omega⟩
theorem ix_of_deg {p : List UInt8} {i : Nat} (h : deg p < (i : Int)) : ix p i = 0 := by
  by_cases hi : i < p.length
  · exact (degN_spec p p.length).1 i hi h
  · exact ix_of_le (by omega)
theorem deg_bounds (p : List UInt8) : -1 ≤ deg p ∧ deg p < p.length := ⟨(degN_spec p _).2.2.1, (degN_spec p _).2.2.2⟩
theorem ix_deg {p : List UInt8} {n : Nat} (h : deg p = (n : Int)) : ix p n ≠ 0 := by
  have := (degN_spec p p.length).2.1 (by show 0 ≤ deg p; omega)
  have e : (degN p p.length).toNat = n := by show (deg p).toNat = n; omega
  rwa [e] at this
theorem deg_lt {p : List UInt8} {n : Nat} (h : ∀ i, n ≤ i → ix p i = 0) : deg p < (n : Int) := by
  by_cases hd : deg p < (n : Int)
  · exact hd
  · have hb := deg_bounds p
    exact absurd (h (deg p).toNat (by omega)) (ix_deg (by omega))
theorem divLoop_done (q : List UInt8) (n : Nat) (h0 : ix q n ≠ 0) : ∀ (k : Nat) (S1 S2 : List UInt8), (∀ i, n + k ≤ i → ix S2 i = 0) → ∀ i, n ≤ i → ix (divLoop q n (inv (ix q n)) k (S1, S2)).2 i = 0
  | 0, S1, S2, h, i, hi => h i (by omega)
  | k + 1, S1, S2, h, i, hi => by
    rw [divLoop, divStep]
    refine divLoop_done q n h0 k _ _ (fun t ht => ?_) i hi
    rw [ix_addRow]
    by_cases e : t = n + k
    · subst e
      simp only [Nat.add_sub_cancel_left]
      split
      · rw [Nat.add_sub_cancel, ← mul_assoc, inv_mul h0, mul_one, xor_self]
      · next hh =>
          by_cases hl : n + k < S2.length
          · exact absurd ⟨by omega, by omega, hl⟩ hh
          · exact ix_of_le (by omega)
    · rw [if_neg (by omega)]
      exact h t (by omega)
theorem divide_eq {p q : List UInt8} {n : Nat} (hn : deg q = (n : Int)) : divide p q = divLoop q n (inv (ix q n)) (deg p + 1 - n).toNat (List.replicate (max ((p.length : Int) - n) 1).toNat 0, p) := by
  unfold divide
  rw [hn]
  simp only [Int.toNat_natCast]
theorem divide_deg (p q : List UInt8) (h : 0 ≤ deg q) : deg (divide p q).2 < deg q := by
  obtain ⟨n, hn⟩ : ∃ n : Nat, deg q = (n : Int) := ⟨(deg q).toNat, by omega⟩
  rw [hn, divide_eq hn]
  refine deg_lt fun i hi => divLoop_done q n (ix_deg hn) _ _ _ (fun t ht => ix_of_deg (by omega)) i hi
theorem divLoop_len (q : List UInt8) (n : Nat) (iv : UInt8) : ∀ (k : Nat) (s : List UInt8 × List UInt8), (divLoop q n iv k s).1.length = s.1.length ∧ (divLoop q n iv k s).2.length = s.2.length
  | 0, s => ⟨rfl, rfl⟩
  | k + 1, s => by
    rw [divLoop]
    obtain ⟨h1, h2⟩ := divLoop_len q n iv k (divStep q n iv (n + k) s)
    rw [h1, h2]
    simp [divStep, addRow_length]
theorem divide_len (p q : List UInt8) : (divide p q).1.length = (max ((p.length : Int) - deg q) 1).toNat ∧ (divide p q).2.length = p.length := by
  have := divLoop_len q (deg q).toNat (inv (ix q (deg q).toNat)) (deg p + 1 - deg q).toNat (List.replicate (max ((p.length : Int) - deg q) 1).toNat 0, p)
  unfold divide
  exact ⟨by rw [this.1]; simp, this.2⟩
def euc (t : Int) : Nat → List UInt8 → List UInt8 → List UInt8 → List UInt8 → List UInt8 × List UInt8
  | 0, _, b, _, v => (b, v)
  | f + 1, a, b, u, v => if t ≤ 2 * deg b then euc t f b (divide a b).2 v (plus u (prod (divide a b).1 v)) else (b, v)
theorem plus_len (p q : List UInt8) : (plus p q).length = max p.length q.length := by simp [plus]
def fill (p : List UInt8) (n : Int) (l : List Int) : List UInt8 × Int :=
  if shapedB p n = false then ([], 1) else if posB p.length l = false then ([], 1) else if n < l.length then ([], 11)
  else if validB (repair p (erasI p.length l l.length) (xi p n.toNat l)) n = true then (repair p (erasI p.length l l.length) (xi p n.toNat l), 0) else ([], 11)
def decOut (p : List UInt8) (n : Nat) (l : List Int) : List UInt8 :=
  repair p (prod (euc ((n : Int) + l.length) n (List.replicate n 0 ++ [1]) (xi p n l) [0] [1]).2 (erasI p.length l l.length)) (euc ((n : Int) + l.length) n (List.replicate n 0 ++ [1]) (xi p n l) [0] [1]).1
def decode (p : List UInt8) (n : Int) (l : List Int) : List UInt8 × Int × Int :=
  if shapedB p n = false then ([], 0, 1) else if posB p.length l = false then ([], 0, 1) else if n < l.length then ([], 0, 11)
  else if l = [] ∧ zeroB (xi p n.toNat l) = true then (p, 0, 0)
  else if validB (decOut p n.toNat l) n = true ∧ 2 * othN p (decOut p n.toNat l) l p.length + l.length ≤ n.toNat then (decOut p n.toNat l, (allN p (decOut p n.toNat l) p.length : Int), 0) else ([], 0, 11)
theorem xi_length (p : List UInt8) (n : Nat) (l : List Int) (hn : 1 ≤ n) : (xi p n l).length = n := by
  unfold xi
  have e1 := synd_length p n
  have e2 := erasI_length p.length l l.length
  rw [List.length_take, prod_length _ _ (by intro e; rw [e] at e1; simp at e1; omega) (by intro e; rw [e] at e2; simp at e2), e1, e2]
  omega
end Go.Proofs.YtflmjdjkfognjaaGreat.G
namespace Go.Proofs.YtflmjdjkfognjaaGreat.G
def sumN (f : Nat → UInt8) : Nat → UInt8
  | 0 => 0
  | n + 1 => sumN f n ^^^ f n
theorem sumN_congr {f g : Nat → UInt8} : ∀ n, (∀ i, i < n → f i = g i) → sumN f n = sumN g n
  | 0, _ => rfl
  | n + 1, h => by rw [sumN, sumN, sumN_congr n (fun i hi => h i (by omega)), h n (by omega)]
theorem sumN_zero : ∀ n, sumN (fun _ => 0) n = 0
  | 0 => rfl
  | n + 1 => by rw [sumN, sumN_zero n, xor_self]
theorem sumN_xor (f g : Nat → UInt8) : ∀ n, sumN (fun i => f i ^^^ g i) n = sumN f n ^^^ sumN g n
  | 0 => by simp [sumN]
  | n + 1 => by rw [sumN, sumN, sumN, sumN_xor f g n, xor_4]
theorem sumN_mul (a : UInt8) (f : Nat → UInt8) : ∀ n, sumN (fun i => mul a (f i)) n = mul a (sumN f n)
  | 0 => by rw [sumN, sumN, mul_zero]
  | n + 1 => by rw [sumN, sumN, sumN_mul a f n, mul_xor]
theorem sumN_one {f : Nat → UInt8} {n j : Nat} (hj : j < n) (h : ∀ i, i < n → i ≠ j → f i = 0) : sumN f n = f j := by
  induction n with
  | zero => omega
  | succ n ih =>
    rw [sumN]
    by_cases e : j = n
    · subst e
      rw [sumN_congr j (g := fun _ => 0) (fun i hi => h i (by omega) (by omega)), sumN_zero, zero_xor]
    · rw [ih (by omega) (fun i hi => h i (by omega)), h n (by omega) (by omega), xor_zero]
def loc (N j : Nat) : UInt8 := exp (N - 1 - j)
theorem loc_ne (N j : Nat) : loc N j ≠ 0 := exp_ne _
theorem loc_inj {N i j : Nat} (hN : N ≤ 255) (hi : i < N) (hj : j < N) (h : loc N i = loc N j) : i = j := by
  have := exp_inj (m := N - 1 - i) (n := N - 1 - j) (by omega) (by omega) h
  omega
theorem eval_sum (l : List UInt8) (x : UInt8) : eval l x = sumN (fun j => mul (ix l j) (pw x (l.length - 1 - j))) l.length := by
  suffices h : ∀ n, n ≤ l.length → eval (l.take n) x = sumN (fun j => mul (ix l j) (pw x (n - 1 - j))) n by
    have := h l.length (Nat.le_refl _)
    rwa [List.take_length] at this
  intro n
  induction n with
  | zero => intro _; rfl
  | succ n ih =>
    intro hn
    rw [take_succ_ix l n (by omega), eval_snoc, ih (by omega), sumN, show n + 1 - 1 - n = 0 by omega, pw, mul_one]
    congr 1
    rw [mul_comm, ← sumN_mul]
    apply sumN_congr
    intro i hi
    rw [mul_assoc, mul_comm x, ← mul_assoc, show n + 1 - 1 - i = (n - 1 - i) + 1 by omega, pw_succ']
theorem pw_loc (N j k : Nat) : pw (exp k) (N - 1 - j) = pw (loc N j) k := by
  unfold loc; rw [pw_exp, pw_exp, Nat.mul_comm]
theorem syn_sum (l : List UInt8) (k : Nat) : eval l (exp k) = sumN (fun j => mul (ix l j) (pw (loc l.length j) k)) l.length := by
  rw [eval_sum]
  exact sumN_congr _ fun i hi => by rw [pw_loc]
theorem dual (c : List UInt8) (n : Nat) (h : ∀ k, k < n → eval c (exp k) = 0) : ∀ (m : Nat) (f : List UInt8), f.length = m → m ≤ n → sumN (fun j => mul (ix c j) (val f (loc c.length j))) c.length = 0
  | 0, f, hf, _ => by
    obtain rfl := List.eq_nil_of_length_eq_zero hf
    rw [sumN_congr _ (g := fun _ => 0) (fun i _ => by rw [val_nil, mul_zero]), sumN_zero]
  | m + 1, f, hf, hm => by
    obtain ⟨g, a, rfl⟩ : ∃ g a, f = g ++ [a] := ⟨f.dropLast, f.getLast (by intro e; rw [e] at hf; simp at hf), (List.dropLast_concat_getLast _).symm⟩
    have hg : g.length = m := by simpa using hf
    have h1 := dual c n h m g hg (by omega)
    have h2 := syn_sum c m
    rw [h m (by omega)] at h2
    rw [sumN_congr _ (g := fun j => mul (ix c j) (val g (loc c.length j)) ^^^ mul a (mul (ix c j) (pw (loc c.length j) m))) (fun i _ => by
      rw [val_append, val_cons, val_nil, zero_mul, zero_xor, hg, mul_xor]
      congr 1
      rw [mul_assoc, mul_comm (ix c i), ← mul_assoc]), sumN_xor, h1, sumN_mul, ← h2, mul_zero, xor_self]
theorem val_addRows (x : UInt8) (p q : List UInt8) (hq : q ≠ []) : ∀ i, i ≤ p.length → val (addRows p q i) x = mul (val (p.take i) x) (val q x)
  | 0, _ => by rw [addRows, val_zeros, List.take_zero, val_nil, zero_mul]
  | i + 1, h => by
    have hl : 0 < q.length := List.length_pos_iff.2 hq
    rw [addRows, val_addRow _ _ _ _ _ _ (Nat.le_refl _) (by rw [addRows_length]; omega), val_addRows x p q hq i (by omega), List.take_length, val_take_succ _ _ (by omega), xor_mul]
theorem val_prod (p q : List UInt8) (x : UInt8) : val (prod p q) x = mul (val p x) (val q x) := by
  by_cases hp : p = []
  · subst hp; rw [prod_nil_left, val_nil, zero_mul]
  by_cases hq : q = []
  · subst hq; rw [prod_nil_right, val_nil, mul_zero]
  rw [prod_eq hp hq, val_addRows x p q hq _ (Nat.le_refl _), List.take_length]
def rootP (N : Nat) : List Nat → List UInt8
  | [] => [1]
  | j :: L => prod [loc N j, 1] (rootP N L)
theorem rootP_length (N : Nat) : ∀ L, (rootP N L).length = L.length + 1
  | [] => rfl
  | j :: L => by
    have h := rootP_length N L
    rw [rootP, prod_length _ _ (by simp) (by intro e; rw [e] at h; simp at h), h]
    simp; omega
theorem val_rootP (N : Nat) (x : UInt8) (L : List Nat) : val (rootP N L) x = 0 ↔ ∃ j ∈ L, x = loc N j := by
  induction L with
  | nil => simp [rootP, val_cons, val_nil, zero_mul]
  | cons j L ih =>
    rw [rootP, val_prod]
    have e : val [loc N j, 1] x = x ^^^ loc N j := by rw [val_cons, val_cons, val_nil, zero_mul, zero_xor, one_mul]
    rw [e]
    constructor
    · intro h
      rcases mul_eq_zero h with h | h
      · exact ⟨j, by simp, xor_eq_zero h⟩
      · obtain ⟨i, hi, e⟩ := ih.1 h
        exact ⟨i, by simp [hi], e⟩
    · rintro ⟨i, hi, hx⟩
      rcases List.mem_cons.1 hi with rfl | hi
      · rw [hx, xor_self, zero_mul]
      · rw [ih.2 ⟨i, hi, hx⟩, mul_zero]
def supp (c : List UInt8) (k : Nat) : List Nat := (List.range k).filter fun j => ix c j != 0
theorem mem_supp (c : List UInt8) (k j : Nat) : j ∈ supp c k ↔ j < k ∧ ix c j ≠ 0 := by simp [supp]
theorem few_zero (c : List UInt8) (n : Nat) (hN : c.length ≤ 255) (h : ∀ k, k < n → eval c (exp k) = 0) (hs : (supp c c.length).length ≤ n) : ∀ j, ix c j = 0 := by
  intro j
  by_cases hj : j < c.length
  · by_cases h0 : ix c j = 0
    · exact h0
    · exfalso
      have hmem : j ∈ supp c c.length := (mem_supp c _ j).2 ⟨hj, h0⟩
      obtain ⟨L, hL⟩ : ∃ L, L = (supp c c.length).filter fun i => i != j := ⟨_, rfl⟩
      have hlen : L.length < (supp c c.length).length := by
        rw [hL]
        exact List.length_filter_lt_length_iff_exists.2 ⟨j, hmem, by simp⟩
      have hd := dual c n h _ (rootP c.length L) rfl (by rw [rootP_length]; omega)
      rw [sumN_one hj (fun i hi hne => ?_)] at hd
      · rcases mul_eq_zero hd with h1 | h1
        · exact h0 h1
        · obtain ⟨i, hi, e⟩ := (val_rootP c.length _ L).1 h1
          rw [hL, List.mem_filter] at hi
          have hi1 := (mem_supp c _ i).1 hi.1
          have := loc_inj hN hj hi1.1 e
          subst this
          simp at hi
      · by_cases hi0 : ix c i = 0
        · rw [hi0, zero_mul]
        · rw [(val_rootP c.length _ L).2 ⟨i, by rw [hL, List.mem_filter]; exact ⟨(mem_supp c _ i).2 ⟨hi, hi0⟩, by simpa using hne⟩, rfl⟩, mul_zero]
  · exact ix_of_le (by omega)
theorem gen_ne0 (n : Nat) : gen n ≠ [] := by
  have := gen_length n
  intro e; rw [e] at this; simp at this
theorem enc_syn (l : List UInt8) (n k : Nat) (hk : k < n) : eval (enc l n) (exp k) = 0 := by
  unfold enc
  have hr := eval_rem (l ++ List.replicate n 0) (gen n) (exp k) (gen_ne0 n) (by rw [gen_head]; decide) ((eval_gen n _).2 ⟨k, hk, rfl⟩)
  have hl : (rem (l ++ List.replicate n 0) (gen n)).length = n := by rw [rem_length, gen_length]; rfl
  rw [eval_append, hr, hl, eval_append, eval_zeros, List.length_replicate, xor_zero, xor_self]
theorem zeroB_synd (l : List UInt8) (n : Nat) : zeroB (synd l n) = true ↔ ∀ k, k < n → eval l (exp k) = 0 := by
  unfold zeroB synd
  simp
theorem enc_valid (l : List UInt8) (n : Int) (h : encB l n = true) : validB (enc l n.toNat) n = true := by
  have h1 : 1 ≤ n ∧ n ≤ 16 ∧ l ≠ [] ∧ (l.length : Int) + n ≤ 255 := by simpa [encB, and_assoc] using h
  have hl := List.length_pos_iff.2 h1.2.2.1
  unfold validB
  rw [Bool.and_eq_true]
  exact ⟨(shapedB_iff _ _).2 ⟨by rw [enc_length]; omega, by rw [enc_length]; omega, by omega, by omega, by rw [enc_length]; omega⟩, (zeroB_synd _ _).2 fun k hk => enc_syn l _ k hk⟩
theorem supp_succ (c : List UInt8) (k : Nat) : (supp c (k + 1)).length = (supp c k).length + if ix c k = 0 then 0 else 1 := by
  unfold supp
  rw [List.range_succ, List.filter_append, List.length_append]
  congr 1
  by_cases h : ix c k = 0 <;> simp [h]
end Go.Proofs.YtflmjdjkfognjaaGreat.G
namespace Go.Proofs.YtflmjdjkfognjaaGreat.G
def quo (r : UInt8) : List UInt8 → List UInt8
  | [] => []
  | [_] => []
  | _ :: l => val l r :: quo r l
theorem quo_cons2 (r c d : UInt8) (l : List UInt8) : quo r (c :: d :: l) = val (d :: l) r :: quo r (d :: l) := by rw [quo]; simp
theorem quo_length (r : UInt8) : ∀ p, (quo r p).length = p.length - 1
  | [] => rfl
  | [_] => rfl
  | _ :: d :: l => by
    have := quo_length r (d :: l)
    rw [quo_cons2, List.length_cons, this]
    simp
theorem val_one (c x : UInt8) : val [c] x = c := by rw [val_cons, val_nil, zero_mul, zero_xor]
theorem val_quo (r x : UInt8) : ∀ p, val p x = mul (x ^^^ r) (val (quo r p) x) ^^^ val p r
  | [] => by rw [quo, val_nil, val_nil, mul_zero, xor_zero]
  | [c] => by rw [quo, val_nil, mul_zero, zero_xor, val_one, val_one]
  | c :: d :: l => by
    have ih := val_quo r x (d :: l)
    rw [val_cons, val_cons c, ih, quo_cons2, val_cons (val (d :: l) r)]
    · generalize val (d :: l) r = R
      generalize val (quo r (d :: l)) x = Q
      -- ((x+r)Q + R)x + c = (x+r)(Qx + R) + (Rr + c)
      rw [xor_mul, mul_xor, mul_assoc, xor_mul x r R]
      rw [mul_comm R x, mul_comm R r]
      rw [xor_assoc, xor_assoc, xor_assoc, ← xor_assoc (mul r R) (mul r R) c, xor_self, zero_xor]
theorem val_factor {p : List UInt8} {r : UInt8} (h : val p r = 0) (x : UInt8) : val p x = mul (x ^^^ r) (val (quo r p) x) := by
  rw [val_quo r x p, h, xor_zero]
theorem roots_zero : ∀ (p R : List UInt8), R.Nodup → (∀ r ∈ R, val p r = 0) → p.length ≤ R.length → ∀ x, val p x = 0
  | p, [], _, _, hl, x => by
    obtain rfl := List.eq_nil_of_length_eq_zero (Nat.le_zero.1 hl)
    rfl
  | p, r :: R, hn, h, hl, x => by
    have hf := val_factor (h r (by simp))
    have hz := roots_zero (quo r p) R (List.nodup_cons.1 hn).2 (fun s hs => by
      have h1 := h s (by simp [hs])
      rw [hf] at h1
      rcases mul_eq_zero h1 with h2 | h2
      · exact absurd (xor_eq_zero h2) (fun e => (List.nodup_cons.1 hn).1 (e ▸ hs))
      · exact h2) (by rw [quo_length]; simp at hl; omega)
    rw [hf, hz, mul_zero]
def allB : List UInt8 := (List.range 256).map UInt8.ofNat
theorem allB_length : allB.length = 256 := by simp [allB]
theorem mem_allB (x : UInt8) : x ∈ allB := by
  rw [allB, List.mem_map]
  exact ⟨x.toNat, by rw [List.mem_range]; exact lt x, by simp⟩
theorem allB_nodup : allB.Nodup := by decide +kernel
theorem zero_but (p : List UInt8) (z : UInt8) (hl : p.length ≤ 255) (h : ∀ x, x ≠ z → val p x = 0) (x : UInt8) : val p x = 0 := by
  refine roots_zero p (allB.erase z) (allB_nodup.erase z) (fun r hr => h r ?_) ?_ x
  · exact ((allB_nodup.mem_erase_iff).1 hr).1
  · rw [List.length_erase_of_mem (mem_allB z), allB_length]; exact hl
theorem coef_zero : ∀ (p : List UInt8), p.length ≤ 256 → (∀ x, val p x = 0) → ∀ i, ix p i = 0
  | [], _, _, i => by simp [ix]
  | c :: l, hl, h, i => by
    have h0 := h 0
    rw [val_cons, mul_zero, zero_xor] at h0
    have hz : ∀ x, val l x = 0 := zero_but l 0 (by simpa using hl) (fun x hx => by
      have h1 := h x
      rw [val_cons, h0, xor_zero] at h1
      rcases mul_eq_zero h1 with h2 | h2
      · exact h2
      · exact absurd h2 hx)
    cases i with
    | zero => rw [ix_cons_zero, h0]
    | succ i => rw [ix_cons_succ]; exact coef_zero l (by simp at hl; omega) hz i
theorem val_plus (p q : List UInt8) (x : UInt8) : val (plus p q) x = val p x ^^^ val q x := by
  have hs : ∀ (l : List UInt8) (m : Nat), l.length ≤ m → val l x = sumN (fun i => mul (ix l i) (pw x i)) m := by
    intro l
    induction l with
    | nil => intro m _; rw [sumN_congr m (g := fun _ => 0) (fun i _ => by rw [show ix [] i = 0 by simp [ix], zero_mul]), sumN_zero]; rfl
    | cons c l ih =>
      intro m hm
      obtain ⟨k, rfl⟩ : ∃ k, m = k + 1 := ⟨m - 1, by simp at hm; omega⟩
      have hshift : ∀ (f : Nat → UInt8) (n : Nat), sumN f (n + 1) = f 0 ^^^ sumN (fun i => f (i + 1)) n := by
        intro f n
        induction n with
        | zero => rw [sumN, sumN, sumN, xor_zero, zero_xor]
        | succ n ihn => rw [sumN, ihn, sumN, xor_assoc]
      rw [hshift, val_cons, ih k (by simpa using hm), ix_cons_zero, pw, mul_one, xor_comm]
      congr 1
      rw [mul_comm, ← sumN_mul]
      exact sumN_congr _ fun i _ => by rw [ix_cons_succ, pw_succ', mul_assoc, mul_comm x, ← mul_assoc]
  have hi : ∀ i, i < max p.length q.length → ix (plus p q) i = ix p i ^^^ ix q i := by
    intro i h
    unfold plus
    conv => lhs; unfold ix
    rw [List.getD_eq_getElem?_getD, List.getElem?_map, List.getElem?_range h]
    rfl
  rw [hs _ (max p.length q.length) (by rw [plus_len]; omega), hs p (max p.length q.length) (by omega), hs q (max p.length q.length) (by omega), ← sumN_xor]
  exact sumN_congr _ fun i h => by rw [hi i h, xor_mul]
theorem sumN_shift (f : Nat → UInt8) (n : Nat) : sumN f (n + 1) = f 0 ^^^ sumN (fun i => f (i + 1)) n := by
  induction n with
  | zero => rw [sumN, sumN, sumN, xor_zero, zero_xor]
  | succ n ihn => rw [sumN, ihn, sumN, xor_assoc]
theorem val_sum (x : UInt8) : ∀ (l : List UInt8) (m : Nat), l.length ≤ m → val l x = sumN (fun i => mul (ix l i) (pw x i)) m
  | [], m, _ => by rw [sumN_congr m (g := fun _ => 0) (fun i _ => by rw [show ix [] i = 0 by simp [ix], zero_mul]), sumN_zero]; rfl
  | c :: l, m, hm => by
    obtain ⟨k, rfl⟩ : ∃ k, m = k + 1 := ⟨m - 1, by simp at hm; omega⟩
    rw [sumN_shift, val_cons, val_sum x l k (by simpa using hm), ix_cons_zero, pw, mul_one, xor_comm]
    congr 1
    rw [mul_comm, ← sumN_mul]
    exact sumN_congr _ fun i _ => by rw [ix_cons_succ, pw_succ', mul_assoc, mul_comm x, ← mul_assoc]
theorem ixp_plus (p q : List UInt8) (i : Nat) : ix (plus p q) i = ix p i ^^^ ix q i := by
  by_cases h : i < max p.length q.length
  · unfold plus
    conv => lhs; unfold ix
    rw [List.getD_eq_getElem?_getD, List.getElem?_map, List.getElem?_range h]
    rfl
  · rw [ix_of_le (by rw [plus_len]; omega), ix_of_le (by omega), ix_of_le (by omega), xor_self]
theorem coef_eq (p q : List UInt8) (hp : p.length ≤ 256) (hq : q.length ≤ 256) (h : ∀ x, val p x = val q x) (i : Nat) : ix p i = ix q i := by
  have := coef_zero (plus p q) (by rw [plus_len]; omega) (fun x => by rw [val_plus, h, xor_self]) i
  rw [ixp_plus] at this
  exact xor_eq_zero this
theorem val_of_coef (p q : List UInt8) (h : ∀ i, ix p i = ix q i) (x : UInt8) : val p x = val q x := by
  rw [val_sum x p (max p.length q.length) (by omega), val_sum x q (max p.length q.length) (by omega)]
  exact sumN_congr _ fun i _ => by rw [h]
def scale (a : UInt8) (p : List UInt8) : List UInt8 := p.map (mul a)
theorem scale_length (a : UInt8) (p : List UInt8) : (scale a p).length = p.length := by simp [scale]
theorem ix_scale (a : UInt8) (p : List UInt8) (i : Nat) : ix (scale a p) i = mul a (ix p i) := by
  unfold scale ix
  by_cases h : i < p.length
  · simp [h]
  · simp [h, mul_zero]
theorem val_scale (a : UInt8) (x : UInt8) : ∀ p, val (scale a p) x = mul a (val p x)
  | [] => by rw [scale, List.map_nil, val_nil, mul_zero]
  | c :: l => by
    have := val_scale a x l
    unfold scale at this ⊢
    rw [List.map_cons, val_cons, val_cons, this, mul_xor, mul_assoc]
theorem ixp_deriv (p : List UInt8) (i : Nat) : ix (deriv p) i = if i % 2 = 0 then ix p (i + 1) else 0 := by
  by_cases h : i < p.length - 1
  · unfold deriv
    conv => lhs; unfold ix
    rw [List.getD_eq_getElem?_getD, List.getElem?_map, List.getElem?_range h]
    rfl
  · rw [ix_of_le (by simp [deriv]; omega)]
    split
    · rw [ix_of_le (by omega)]
    · rfl
theorem deriv_factor (p q : List UInt8) (a : UInt8) (hp : p.length ≤ 256) (hq : q.length ≤ 255) (h : ∀ x, val p x = mul (1 ^^^ mul a x) (val q x)) (x : UInt8) :
    val (deriv p) x = mul a (val q x) ^^^ mul (1 ^^^ mul a x) (val (deriv q) x) := by
  have hc := coef_eq p (plus q (0 :: scale a q)) hp (by rw [plus_len, List.length_cons, scale_length]; omega) (fun x => by
    rw [h, val_plus, val_cons, val_scale, xor_zero, xor_mul, one_mul]
    congr 1
    rw [← mul_assoc, ← mul_assoc, mul_comm x])
  have h0 : ix p 0 = ix q 0 := by rw [hc, ixp_plus, ix_cons_zero, xor_zero]
  have hs : ∀ i, ix p (i + 1) = ix q (i + 1) ^^^ mul a (ix q i) := fun i => by rw [hc, ixp_plus, ix_cons_succ, ix_scale]
  -- the even part of q
  obtain ⟨M, hM⟩ : ∃ M, M = p.length + q.length + 2 := ⟨_, rfl⟩
  have he : val q x = sumN (fun i => if i % 2 = 0 then mul (ix q i) (pw x i) else 0) M ^^^ mul x (val (deriv q) x) := by
    rw [val_sum x q M (by omega), val_sum x (deriv q) (M - 1) (by simp [deriv]; omega), ← sumN_mul]
    have e1 : sumN (fun i => mul (ix q i) (pw x i)) M = sumN (fun i => (if i % 2 = 0 then mul (ix q i) (pw x i) else 0) ^^^ (if i % 2 = 0 then 0 else mul (ix q i) (pw x i))) M :=
      sumN_congr _ fun i _ => by split <;> simp
    rw [e1, sumN_xor]
    congr 1
    obtain ⟨m, rfl⟩ : ∃ m, M = m + 1 := ⟨M - 1, by omega⟩
    rw [sumN_shift, Nat.add_sub_cancel]
    simp only [Nat.zero_mod, if_true, zero_xor]
    refine sumN_congr _ fun i _ => ?_
    rw [ixp_deriv]
    by_cases hi : i % 2 = 0
    · rw [if_pos hi, if_neg (by omega), pw_succ', mul_assoc, mul_comm (ix q (i + 1)), ← mul_assoc]
    · rw [if_neg hi, if_pos (by omega), zero_mul, mul_zero]
  have hd : val (deriv p) x = val (deriv q) x ^^^ mul a (sumN (fun i => if i % 2 = 0 then mul (ix q i) (pw x i) else 0) M) := by
    rw [val_sum x (deriv p) M (by simp [deriv]; omega), val_sum x (deriv q) M (by simp [deriv]; omega), ← sumN_mul, ← sumN_xor]
    refine sumN_congr _ fun i _ => ?_
    rw [ixp_deriv, ixp_deriv]
    by_cases hi : i % 2 = 0
    · rw [if_pos hi, if_pos hi, if_pos hi, hs, xor_mul, mul_assoc]
    · rw [if_neg hi, if_neg hi, if_neg hi, mul_zero, zero_mul, xor_self]
  rw [hd]
  obtain ⟨Ev, hEv⟩ : ∃ Ev, Ev = sumN (fun i => if i % 2 = 0 then mul (ix q i) (pw x i) else 0) M := ⟨_, rfl⟩
  rw [← hEv] at he ⊢
  rw [he]
  generalize val (deriv q) x = D
  -- D + a Ev = a (Ev + x D) + (1 + a x) D
  rw [mul_xor, xor_mul, one_mul, mul_assoc, xor_assoc, xor_comm D (mul (mul a x) D), ← xor_assoc (mul (mul a x) D), xor_self, zero_xor, xor_comm]
end Go.Proofs.YtflmjdjkfognjaaGreat.G
