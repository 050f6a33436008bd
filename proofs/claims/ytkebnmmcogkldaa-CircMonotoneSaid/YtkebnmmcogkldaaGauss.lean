/- Gauss' elimination on rows over GF(256), and the equations of a word's changes. No program is named here. -/
import Derived.Test.YtkebnmmcogkldaaDecP
namespace Go.Proofs.Ytkebnmmcogkldaa.G
set_option linter.unusedVariables false

/-- row 'i' -/
def rw_ (R : List (List UInt8)) (i : Nat) : List UInt8 := R.getD i []
theorem rw_set_self (R : List (List UInt8)) (i : Nat) (l : List UInt8) (h : i < R.length) : rw_ (R.set i l) i = l := by simp [rw_, h]
theorem rw_set_ne (R : List (List UInt8)) {i j : Nat} (l : List UInt8) (h : j ≠ i) : rw_ (R.set i l) j = rw_ R j := by
  unfold rw_
  rw [List.getD_eq_getElem?_getD, List.getElem?_set_ne (by omega), ← List.getD_eq_getElem?_getD]
/-- a row as an equation -/
def dot (m : Nat) (l : List UInt8) (y : Nat → UInt8) : UInt8 := sumN (fun j => mul (ix l j) (y j)) m
theorem dot_xorL (m : Nat) {a b : List UInt8} (h : a.length = b.length) (y : Nat → UInt8) : dot m (xorL a b) y = dot m a y ^^^ dot m b y := by
  unfold dot; rw [← sumN_xor]; exact sumN_congr _ fun j _ => by rw [ix_xorL h, xor_mul]
theorem dot_scale (m : Nat) (a : UInt8) (l : List UInt8) (y : Nat → UInt8) : dot m (scale a l) y = mul a (dot m l y) := by
  unfold dot; rw [← sumN_mul]; exact sumN_congr _ fun j _ => by rw [ix_scale, mas]
/-- 'y' solves all rows -/
def Z (m : Nat) (R : List (List UInt8)) (y : Nat → UInt8) : Prop := ∀ i, i < R.length → dot m (rw_ R i) y = 0

/-- the columns below 'k' are those of a unit matrix -/
def Unit (R : List (List UInt8)) (k : Nat) : Prop := ∀ j, j < k → ∀ i, i < R.length → ix (rw_ R i) j = if i = j then 1 else 0
/-- what the elimination keeps -/
structure Elim (n m : Nat) (R0 R : List (List UInt8)) (k : Nat) : Prop where
  len : R.length = n
  row : ∀ i, i < n → (rw_ R i).length = m + 1
  sol : ∀ y, Z (m + 1) R y ↔ Z (m + 1) R0 y
  unit : Unit R k
/-- rows 'k' and 'p' change places -/
def swp (R : List (List UInt8)) (k p : Nat) : List (List UInt8) := (R.set k (rw_ R p)).set p (rw_ R k)
theorem swp_length (R : List (List UInt8)) (k p : Nat) : (swp R k p).length = R.length := by simp [swp]
theorem rw_swp (R : List (List UInt8)) {k p : Nat} (hk : k < R.length) (hp : p < R.length) (i : Nat) : rw_ (swp R k p) i = if i = p then rw_ R k else if i = k then rw_ R p else rw_ R i := by
  unfold swp
  by_cases h1 : i = p
  · subst h1; rw [rw_set_self _ _ _ (by simpa using hp), if_pos rfl]
  · rw [rw_set_ne _ _ h1, if_neg h1]
    by_cases h2 : i = k
    · subst h2; rw [rw_set_self _ _ _ hk, if_pos rfl]
    · rw [rw_set_ne _ _ h2, if_neg h2]
theorem Elim.swap {n m k p : Nat} {R0 R : List (List UInt8)} (h : Elim n m R0 R k) (hk : k < n) (hkp : k ≤ p) (hp : p < n) : Elim n m R0 (swp R k p) k := by
  have hl := h.len
  have e := fun i => rw_swp R (k := k) (p := p) (by omega) (by omega) i
  refine ⟨by rw [swp_length, hl], fun i hi => ?_, fun y => ?_, fun j hj i hi => ?_⟩
  · rw [e]; repeat' split
    · exact h.row k hk
    · exact h.row p hp
    · exact h.row i hi
  · rw [← h.sol y]
    constructor
    · intro hz i hi
      by_cases h1 : i = k
      · have := hz p (by rw [swp_length]; omega)
        rw [e, if_pos rfl] at this; rw [h1]; exact this
      · by_cases h2 : i = p
        · have := hz k (by rw [swp_length]; omega)
          rw [e] at this
          by_cases h3 : k = p
          · omega
          · rw [if_neg h3, if_pos rfl] at this; rw [h2]; exact this
        · have := hz i (by rw [swp_length]; exact hi)
          rw [e, if_neg h2, if_neg h1] at this; exact this
    · intro hz i hi
      rw [swp_length] at hi
      rw [e]; repeat' split
      · exact hz k (by omega)
      · exact hz p (by omega)
      · exact hz i hi
  · rw [swp_length] at hi
    rw [e]
    by_cases h1 : i = p
    · rw [if_pos h1, h.unit j hj k (by omega), if_neg (by omega), if_neg (by omega)]
    · rw [if_neg h1]
      by_cases h2 : i = k
      · rw [if_pos h2, h.unit j hj p (by omega), if_neg (by omega), if_neg (by omega)]
      · rw [if_neg h2, h.unit j hj i hi]
theorem Elim.scale {n m k : Nat} {R0 R : List (List UInt8)} (h : Elim n m R0 R k) (hk : k < n) (a : UInt8) (ha : a ≠ 0) : Elim n m R0 (R.set k (scale a (rw_ R k))) k := by
  have hl := h.len
  refine ⟨by rw [List.length_set, hl], fun i hi => ?_, fun y => ?_, fun j hj i hi => ?_⟩
  · by_cases e : i = k
    · subst e; rw [rw_set_self _ _ _ (by omega), scale_length]; exact h.row i hi
    · rw [rw_set_ne _ _ e]; exact h.row i hi
  · rw [← h.sol y]
    constructor
    · intro hz i hi
      have := hz i (by rw [List.length_set]; exact hi)
      by_cases e : i = k
      · subst e
        rw [rw_set_self _ _ _ hi, dot_scale] at this
        exact (mul_eq_zero this).resolve_left ha
      · rw [rw_set_ne _ _ e] at this; exact this
    · intro hz i hi
      rw [List.length_set] at hi
      by_cases e : i = k
      · subst e; rw [rw_set_self _ _ _ hi, dot_scale, hz i hi, mul_zero]
      · rw [rw_set_ne _ _ e]; exact hz i hi
  · rw [List.length_set] at hi
    by_cases e : i = k
    · subst e; rw [rw_set_self _ _ _ hi, ix_scale, h.unit j hj i hi, if_neg (by omega), mul_zero]
    · rw [rw_set_ne _ _ e]; exact h.unit j hj i hi
theorem Elim.add {n m k i : Nat} {R0 R : List (List UInt8)} (h : Elim n m R0 R k) (hk : k < n) (hi : i < n) (hik : i ≠ k) (f : UInt8) : Elim n m R0 (R.set i (xorL (rw_ R i) (G.scale f (rw_ R k)))) k := by
  have hl := h.len
  have hle : (rw_ R i).length = (G.scale f (rw_ R k)).length := by rw [scale_length, h.row i hi, h.row k hk]
  refine ⟨by rw [List.length_set, hl], fun t ht => ?_, fun y => ?_, fun j hj t ht => ?_⟩
  · by_cases e : t = i
    · subst e; rw [rw_set_self _ _ _ (by omega), xorL_length hle]; exact h.row t ht
    · rw [rw_set_ne _ _ e]; exact h.row t ht
  · rw [← h.sol y]
    constructor
    · intro hz t ht
      have hk0 := hz k (by rw [List.length_set]; omega)
      rw [rw_set_ne _ _ (Ne.symm hik)] at hk0
      have := hz t (by rw [List.length_set]; exact ht)
      by_cases e : t = i
      · subst e
        rw [rw_set_self _ _ _ ht, dot_xorL _ hle, dot_scale, hk0, mul_zero, xor_zero] at this
        exact this
      · rw [rw_set_ne _ _ e] at this; exact this
    · intro hz t ht
      rw [List.length_set] at ht
      by_cases e : t = i
      · subst e; rw [rw_set_self _ _ _ ht, dot_xorL _ hle, dot_scale, hz t ht, hz k (by omega), mul_zero, xor_zero]
      · rw [rw_set_ne _ _ e]; exact hz t ht
  · rw [List.length_set] at ht
    by_cases e : t = i
    · subst e; rw [rw_set_self _ _ _ ht, ix_xorL hle, ix_scale, h.unit j hj t ht, h.unit j hj k (by omega), if_neg (show ¬ k = j by omega), mul_zero, xor_zero]
    · rw [rw_set_ne _ _ e]; exact h.unit j hj t ht
theorem Elim.next {n m k : Nat} {R0 R : List (List UInt8)} (h : Elim n m R0 R k) (hc : ∀ i, i < n → ix (rw_ R i) k = if i = k then 1 else 0) : Elim n m R0 R (k + 1) :=
  ⟨h.len, h.row, h.sol, fun j hj i hi => by
    by_cases e : j = k
    · subst e; exact hc i (by have := h.len; omega)
    · exact h.unit j (by omega) i hi⟩

/-- the equations: row 'i' holds the powers of the positions' elements and the syndrome -/
def eqs (p : List UInt8) (n : Nat) (at_ : List Nat) : List (List UInt8) := (List.range n).map fun i => (at_.map fun t => exp (i * (p.length - 1 - t))) ++ [eval p (exp i)]
theorem eqs_length (p : List UInt8) (n : Nat) (at_ : List Nat) : (eqs p n at_).length = n := by simp [eqs]
theorem rw_eqs (p : List UInt8) (n : Nat) (at_ : List Nat) (i : Nat) (hi : i < n) : rw_ (eqs p n at_) i = (at_.map fun t => exp (i * (p.length - 1 - t))) ++ [eval p (exp i)] := by
  simp [rw_, eqs, hi]
/-- the changes as a word: 'y k' at the position number 'k' -/
def chg (N : Nat) (at_ : List Nat) (y : Nat → UInt8) (i : Nat) : UInt8 := sumN (fun k => if at_.getD k N = i then y k else 0) at_.length
def chgL (N : Nat) (at_ : List Nat) (y : Nat → UInt8) : List UInt8 := (List.range N).map (chg N at_ y)
theorem chgL_length (N : Nat) (at_ : List Nat) (y : Nat → UInt8) : (chgL N at_ y).length = N := by simp [chgL]
theorem ix_chgL (N : Nat) (at_ : List Nat) (y : Nat → UInt8) (i : Nat) (h : i < N) : ix (chgL N at_ y) i = chg N at_ y i := by simp [chgL, ix, h]
theorem sumN_pick (f : Nat → UInt8) (t N : Nat) (ht : t < N) : sumN (fun i => if t = i then f i else 0) N = f t := by
  rw [sumN_one ht (fun i _ hne => by rw [if_neg (by omega)]), if_pos rfl]
/-- a syndrome of the changes -/
theorem eval_chgL (N : Nat) (at_ : List Nat) (y : Nat → UInt8) (i : Nat) (hat : ∀ t ∈ at_, t < N) : eval (chgL N at_ y) (exp i) = sumN (fun k => mul (exp (i * (N - 1 - at_.getD k N))) (y k)) at_.length := by
  rw [syn_sum, chgL_length]
  rw [sumN_congr N (g := fun j => sumN (fun k => if at_.getD k N = j then mul (exp (i * (N - 1 - j))) (y k) else 0) at_.length) (fun j hj => by
    rw [ix_chgL _ _ _ _ hj, chg, mul_comm, ← sumN_mul]
    exact sumN_congr _ fun k _ => by
      split
      · rw [loc, pw_exp, Nat.mul_comm]
      · rw [mul_zero])]
  rw [sumN_swap (fun k j => if at_.getD k N = j then mul (exp (i * (N - 1 - j))) (y k) else 0)]
  refine sumN_congr _ fun k hk => ?_
  have hm : at_.getD k N < N := by
    rw [List.getD_eq_getElem?_getD, List.getElem?_eq_getElem hk]
    exact hat _ (List.getElem_mem hk)
  exact sumN_pick (fun j => mul (exp (i * (N - 1 - j))) (y k)) _ N hm
theorem dot_eqs (p : List UInt8) (n : Nat) (at_ : List Nat) (y : Nat → UInt8) (i : Nat) (hi : i < n) (hat : ∀ t ∈ at_, t < p.length) :
    dot (at_.length + 1) (rw_ (eqs p n at_) i) y = eval (chgL p.length at_ y) (exp i) ^^^ mul (eval p (exp i)) (y at_.length) := by
  rw [rw_eqs _ _ _ _ hi, dot, sumN, eval_chgL _ _ _ _ hat]
  congr 1
  · refine sumN_congr _ fun k hk => ?_
    rw [ix_append_left (by simpa using hk)]
    congr 1
    simp [ix, hk]
  · rw [ix_append_right (by simp)]
    simp [ix]
theorem chg_at (N : Nat) (at_ : List Nat) (hn : at_.Nodup) (y : Nat → UInt8) (k : Nat) (hk : k < at_.length) : chg N at_ y (at_[k]) = y k := by
  unfold chg
  rw [sumN_one hk (fun i hi hne => ?_)]
  · rw [if_pos (by rw [List.getD_eq_getElem?_getD, List.getElem?_eq_getElem hk]; rfl)]
  · rw [if_neg]
    rw [List.getD_eq_getElem?_getD, List.getElem?_eq_getElem hi]
    intro e
    have hpw := List.pairwise_iff_getElem.1 hn
    rcases Nat.lt_or_gt_of_ne hne with h | h
    · exact hpw i k hi hk h e
    · exact hpw k i hk hi h e.symm
theorem chg_other (N : Nat) (at_ : List Nat) (y : Nat → UInt8) (i : Nat) (hi : i ∉ at_) : chg N at_ y i = 0 := by
  unfold chg
  rw [sumN_congr _ (g := fun _ => 0) (fun k hk => ?_), sumN_zero]
  rw [if_neg]
  rw [List.getD_eq_getElem?_getD, List.getElem?_eq_getElem hk]
  intro e
  exact hi (e ▸ List.getElem_mem hk)
theorem nodup_length : ∀ (A B : List Nat), A.Nodup → (∀ j ∈ A, j ∈ B) → A.length ≤ B.length
  | [], B, _, _ => Nat.zero_le _
  | a :: A, B, hn, h => by
    obtain ⟨h1, h2⟩ := List.nodup_cons.1 hn
    have ha : a ∈ B := h a (by simp)
    have := nodup_length A (B.erase a) h2 (fun j hj => (List.mem_erase_of_ne (fun e : j = a => h1 (by rw [← e]; exact hj))).2 (h j (by simp [hj])))
    rw [List.length_erase_of_mem ha] at this
    have := List.length_pos_of_mem ha
    simp only [List.length_cons]
    omega
theorem supp_le (c : List UInt8) (L : List Nat) (h : ∀ j, ix c j ≠ 0 → j ∈ L) (k : Nat) : (supp c k).length ≤ L.length := by
  have hn : (supp c k).Nodup := List.Nodup.sublist List.filter_sublist List.nodup_range
  have hs : ∀ j ∈ supp c k, j ∈ L := fun j hj => h j ((mem_supp c k j).1 hj).2
  exact nodup_length _ _ hn hs
/-- a pivot is found -/
theorem pivot {n k : Nat} {p : List UInt8} {at_ : List Nat} {R : List (List UInt8)} (h : Elim n at_.length (eqs p n at_) R k) (hk : k < at_.length) (hp : p.length ≤ 255) (hm : at_.length ≤ n) (hn : at_.Nodup) (hat : ∀ t ∈ at_, t < p.length)
    (hz : ∀ i, k ≤ i → i < n → ix (rw_ R i) k = 0) : False := by
  have hl := h.len
  obtain ⟨y, hy⟩ : ∃ y : Nat → UInt8, y = fun j => if j < k then ix (rw_ R j) k else if j = k then 1 else 0 := ⟨_, rfl⟩
  have hZ : Z (at_.length + 1) R y := fun i hi => by
    unfold dot
    have e1 : sumN (fun j => mul (ix (rw_ R i) j) (y j)) (at_.length + 1) = sumN (fun j => (if i = j then (if j < k then ix (rw_ R i) k else 0) else 0) ^^^ (if k = j then ix (rw_ R i) k else 0)) (at_.length + 1) := by
      refine sumN_congr _ fun j _ => ?_
      have hyj : y j = if j < k then ix (rw_ R j) k else if j = k then 1 else 0 := by rw [hy]
      rw [hyj]
      by_cases h1 : j < k
      · have hu := h.unit j h1 i hi
        have hkj : ¬ k = j := by omega
        rw [hu]
        by_cases h2 : i = j
        · subst h2; simp only [hkj, h1, if_true, if_false, one_mul, xor_zero]
        · simp only [h2, hkj, if_false, zero_mul, xor_self]
      · by_cases h2 : j = k
        · subst h2; simp only [h1, if_true, if_false, mul_one, ite_self, zero_xor]
        · have hkj : ¬ k = j := by omega
          simp only [h1, h2, hkj, if_false, mul_zero, ite_self, xor_self]
    rw [e1, sumN_xor, sumN_pick (fun _ => ix (rw_ R i) k) k _ (by omega)]
    by_cases hik : i < k
    · rw [sumN_pick (fun j => if j < k then ix (rw_ R i) k else 0) i _ (by omega), if_pos hik, xor_self]
    · rw [hz i (by omega) (by omega), xor_zero]
      rw [sumN_congr _ (g := fun _ => 0) (fun j _ => ?_), sumN_zero]
      split
      · split <;> rfl
      · rfl
  have hZ0 := (h.sol y).1 hZ
  have hym : y at_.length = 0 := by rw [hy]; simp only; rw [if_neg (by omega), if_neg (by omega)]
  have h0 := few_zero (chgL p.length at_ y) n (by rw [chgL_length]; exact hp) (fun i hi => by
    have := hZ0 i (by rw [eqs_length]; exact hi)
    rw [dot_eqs _ _ _ _ _ hi hat, hym, mul_zero, xor_zero] at this
    exact this) (Nat.le_trans (supp_le _ at_ (fun j hj => by
      by_cases hm2 : j ∈ at_
      · exact hm2
      · exfalso; apply hj
        by_cases hjl : j < p.length
        · rw [ix_chgL _ _ _ _ hjl, chg_other _ _ _ _ hm2]
        · exact ix_of_le (by rw [chgL_length]; omega)) _) hm)
  have h1 := h0 (at_[k])
  rw [ix_chgL _ _ _ _ (hat _ (List.getElem_mem hk)), chg_at _ _ hn _ _ hk, hy] at h1
  simp at h1

/-- the word with the changes that the last column tells -/
def fixL (p : List UInt8) (at_ : List Nat) (y : Nat → UInt8) : List UInt8 := xorL p (chgL p.length at_ y)
theorem fixL_length (p : List UInt8) (at_ : List Nat) (y : Nat → UInt8) : (fixL p at_ y).length = p.length := by unfold fixL; rw [xorL_length (by rw [chgL_length])]
/-- the elimination is done: a codeword is found if and only if the further rows are 0 -/
theorem solved {n : Nat} {p : List UInt8} {at_ : List Nat} {R : List (List UInt8)} (h : Elim n at_.length (eqs p n at_) R at_.length) (hm : at_.length ≤ n) (hn : at_.Nodup) (hat : ∀ t ∈ at_, t < p.length) (c : List UInt8) (hc : c.length = p.length)
    (hd : ∀ i, ix p i ≠ ix c i → i ∈ at_) (hv : ∀ k, k < n → eval c (exp k) = 0) : (∀ i, at_.length ≤ i → i < n → ix (rw_ R i) at_.length = 0) ∧ c = fixL p at_ (fun k => ix (rw_ R k) at_.length) := by
  have hl := h.len
  obtain ⟨y, hy⟩ : ∃ y : Nat → UInt8, y = fun j => if j < at_.length then ix p (at_.getD j 0) ^^^ ix c (at_.getD j 0) else 1 := ⟨_, rfl⟩
  have hch : xorL p c = chgL p.length at_ y := by
    apply ext_ix (by rw [xorL_length hc.symm, chgL_length])
    intro i hi
    rw [xorL_length hc.symm] at hi
    rw [ix_xorL hc.symm, ix_chgL _ _ _ _ hi]
    by_cases hm2 : i ∈ at_
    · obtain ⟨k, hk, rfl⟩ := List.getElem_of_mem hm2
      rw [chg_at _ _ hn _ _ hk, hy]
      simp [hk]
    · rw [chg_other _ _ _ _ hm2]
      by_cases e : ix p i = ix c i
      · rw [e, xor_self]
      · exact absurd (hd i e) hm2
  have hy1 : y at_.length = 1 := by rw [hy]; simp
  have hZ : Z (at_.length + 1) R y := (h.sol y).2 fun i hi => by
    rw [eqs_length] at hi
    rw [dot_eqs _ _ _ _ _ hi hat, ← hch, eval_xorL hc.symm, hv i hi, xor_zero, hy1, mul_one, xor_self]
  have hrow : ∀ i, i < n → dot (at_.length + 1) (rw_ R i) y = (if i < at_.length then y i else 0) ^^^ ix (rw_ R i) at_.length := fun i hi => by
    unfold dot
    rw [sumN, hy1, mul_one]
    congr 1
    rw [sumN_congr _ (g := fun j => if i = j then y j else 0) (fun j hj => by
      rw [h.unit j hj i (by omega)]; split
      · rw [one_mul]
      · rw [zero_mul])]
    split
    · next hlt => rw [sumN_pick (fun j => y j) i _ hlt]
    · next hge => rw [sumN_congr _ (g := fun _ => 0) (fun j hj => by rw [if_neg (by omega)]), sumN_zero]
  refine ⟨fun i h1 h2 => ?_, ?_⟩
  · have := hZ i (by omega)
    rw [hrow i h2, if_neg (by omega), zero_xor] at this
    exact this
  · have hyk : ∀ k, k < at_.length → y k = ix (rw_ R k) at_.length := fun k hk => by
      have := hZ k (by omega)
      rw [hrow k (by omega), if_pos hk] at this
      exact xor_eq_zero this
    have e1 : chgL p.length at_ y = chgL p.length at_ (fun k => ix (rw_ R k) at_.length) := by
      unfold chgL chg
      apply List.map_congr_left
      intro i _
      exact sumN_congr _ fun k hk => by split; exact hyk k hk; rfl
    unfold fixL
    rw [← e1, ← hch]
    apply ext_ix (by rw [xorL_length (by rw [xorL_length hc.symm]), hc])
    intro i _
    rw [ix_xorL (by rw [xorL_length hc.symm]), ix_xorL hc.symm, xor_cancel]
theorem solved_ok {n : Nat} {p : List UInt8} {at_ : List Nat} {R : List (List UInt8)} (h : Elim n at_.length (eqs p n at_) R at_.length) (hm : at_.length ≤ n) (hat : ∀ t ∈ at_, t < p.length)
    (hz : ∀ i, at_.length ≤ i → i < n → ix (rw_ R i) at_.length = 0) : (∀ k, k < n → eval (fixL p at_ (fun k => ix (rw_ R k) at_.length)) (exp k) = 0) ∧ ∀ i, ix p i ≠ ix (fixL p at_ (fun k => ix (rw_ R k) at_.length)) i → i ∈ at_ := by
  have hl := h.len
  obtain ⟨y, hy⟩ : ∃ y : Nat → UInt8, y = fun j => if j < at_.length then ix (rw_ R j) at_.length else 1 := ⟨_, rfl⟩
  have hy1 : y at_.length = 1 := by rw [hy]; simp
  have hZ : Z (at_.length + 1) R y := fun i hi => by
    unfold dot
    rw [sumN, hy1, mul_one, sumN_congr _ (g := fun j => if i = j then y j else 0) (fun j hj => by
      rw [h.unit j hj i (by omega)]; split
      · rw [one_mul]
      · rw [zero_mul])]
    by_cases hlt : i < at_.length
    · rw [sumN_pick (fun j => y j) i _ hlt, hy]; simp [hlt]
    · rw [sumN_congr _ (g := fun _ => 0) (fun j hj => by rw [if_neg (by omega)]), sumN_zero, zero_xor]
      exact hz i (by omega) (by omega)
  have hZ0 := (h.sol y).1 hZ
  have e1 : chgL p.length at_ y = chgL p.length at_ (fun k => ix (rw_ R k) at_.length) := by
    unfold chgL chg
    apply List.map_congr_left
    intro i _
    exact sumN_congr _ fun k hk => by rw [hy]; simp [hk]
  refine ⟨fun k hk => ?_, fun i hi => ?_⟩
  · unfold fixL
    rw [eval_xorL (by rw [chgL_length]), ← e1]
    have := hZ0 k (by rw [eqs_length]; exact hk)
    rw [dot_eqs _ _ _ _ _ hk hat, hy1, mul_one] at this
    rw [xor_comm]; exact this
  · by_cases hm2 : i ∈ at_
    · exact hm2
    · exfalso; apply hi
      unfold fixL
      rw [ix_xorL (by rw [chgL_length])]
      by_cases hil : i < p.length
      · rw [ix_chgL _ _ _ _ hil, chg_other _ _ _ _ hm2, xor_zero]
      · rw [ix_of_le (l := chgL p.length at_ _) (by rw [chgL_length]; omega), xor_zero]
end Go.Proofs.Ytkebnmmcogkldaa.G
