/- Parts: XDecP XGauss XMg -/
import Derived.Test.YtflmjdjkfognjaaGreatTe02
namespace Go.Proofs.YtflmjdjkfognjaaGreat.G
theorem allN_supp (a b : List UInt8) (h : a.length = b.length) : ∀ k, allN a b k = (supp (xorL a b) k).length
  | 0 => rfl
  | k + 1 => by
    rw [allN, supp_succ, allN_supp a b h k, ix_xorL h]
    congr 1
    by_cases e : ix a k = ix b k
    · rw [if_pos e, if_pos (by rw [e, xor_self])]
    · rw [if_neg e, if_neg (fun h => e (xor_eq_zero h))]
def posL (l : List Int) : List Nat := l.map Int.toNat
theorem posL_length (l : List Int) : (posL l).length = l.length := by simp [posL]
theorem ixI_get {l : List Int} {k : Nat} (h : k < l.length) : ixI l k = l[k] := by unfold ixI; simp [h]
theorem pos_lt {n : Nat} {l : List Int} (h : posB n l = true) {j k : Nat} (hk : k < l.length) (hj : j < k) : ixI l j < ixI l k := by
  induction k with
  | zero => omega
  | succ k ih =>
    have h1 := (posN_at n l hk h).2.2 (by omega)
    rw [Nat.add_sub_cancel] at h1
    by_cases e : j = k
    · subst e; exact h1
    · have := ih (by omega) (by omega); omega
theorem posL_nodup {n : Nat} {l : List Int} (h : posB n l = true) : (posL l).Nodup := by
  unfold List.Nodup
  rw [List.pairwise_iff_getElem]
  intro i j hi hj hij
  rw [posL_length] at hi hj
  have h1 := pos_lt h hj hij
  have h2 := (posN_at n l hi h).1
  rw [ixI_get hi] at h1 h2
  rw [ixI_get hj] at h1
  simp only [posL, List.getElem_map]
  omega
theorem mem_posL {n : Nat} {l : List Int} (h : posB n l = true) (i : Nat) : i ∈ posL l ↔ (i : Int) ∈ l := by
  unfold posL
  rw [List.mem_map]
  constructor
  · rintro ⟨x, hx, rfl⟩
    obtain ⟨k, hk, rfl⟩ := List.getElem_of_mem hx
    have := (posN_at n l hk h).1
    rw [ixI_get hk] at this
    rw [show ((l[k].toNat : Nat) : Int) = l[k] by omega]
    exact hx
  · intro hi
    exact ⟨_, hi, by simp⟩
theorem posL_lt {n : Nat} {l : List Int} (h : posB n l = true) : ∀ j ∈ posL l, j < n := by
  intro j hj
  unfold posL at hj
  rw [List.mem_map] at hj
  obtain ⟨x, hx, rfl⟩ := hj
  obtain ⟨k, hk, rfl⟩ := List.getElem_of_mem hx
  have := posN_at n l hk h
  rw [ixI_get hk] at this
  omega
theorem val_erasI (N : Nat) (l : List Int) (z : UInt8) : ∀ k, k ≤ l.length → val (erasI N l k) z = vg N ((posL l).take k) z
  | 0, _ => by rw [erasI, val_one, List.take_zero, vg]
  | k + 1, h => by
    have hk : k < (posL l).length := by rw [posL_length]; omega
    rw [erasI, val_prod, val_erasI N l z k (by omega), List.take_succ_eq_append_getElem hk, vg_append]
    congr 1
    have e : (posL l)[k] = (ixI l k).toNat := by simp only [posL, List.getElem_map]; rw [ixI_get]
    rw [e, vg, vg, mul_one, val_cons, val_one, xor_comm]
    rfl
theorem val_eras (N : Nat) (l : List Int) (z : UInt8) : val (erasI N l l.length) z = vg N (posL l) z := by
  rw [val_erasI N l z _ (Nat.le_refl _), ← posL_length, List.take_length]
theorem eval_xorL {a b : List UInt8} (h : a.length = b.length) (x : UInt8) : eval (xorL a b) x = eval a x ^^^ eval b x := by
  rw [eval_sum, eval_sum, eval_sum, xorL_length h, ← h, ← sumN_xor]
  exact sumN_congr _ fun j _ => by rw [ix_xorL h, xor_mul]
theorem validB_iff (c : List UInt8) (n : Nat) : validB c n = true ↔ shapedB c n = true ∧ ∀ k, k < n → eval c (exp k) = 0 := by
  unfold validB
  rw [Bool.and_eq_true, Int.toNat_natCast, zeroB_synd]
theorem synd_xorL {p c : List UInt8} {n : Nat} (h : p.length = c.length) (hc : ∀ k, k < n → eval c (exp k) = 0) : synd p n = synd (xorL p c) n := by
  unfold synd
  apply List.map_congr_left
  intro k hk
  rw [eval_xorL h, hc k (by simpa using hk), xor_zero]
theorem shapedB_len {a b : List UInt8} (n : Int) (h : a.length = b.length) : shapedB a n = shapedB b n := by unfold shapedB; rw [h]
theorem fill_spec (x c : List UInt8) (n : Nat) (l : List Int) (hxc : x.length = c.length) (hc : validB c n = true) (hp : posB x.length l = true) (hl : l.length ≤ n) (hd : ∀ i, ix x i ≠ ix c i → (i : Int) ∈ l) : fill x n l = (c, 0) := by
  obtain ⟨hs, hz⟩ := (validB_iff c n).1 hc
  have hsx : shapedB x n = true := by rw [shapedB_len _ hxc]; exact hs
  obtain ⟨g1, g2, g3, g4, g5⟩ := (shapedB_iff x n).1 hsx
  have hel : (xorL x c).length = x.length := xorL_length hxc
  have hrep : repair x (erasI x.length l l.length) (xi x n l) = c := by
    unfold xi
    refine fill_correct x c (xorL x c) n (posL l) _ hxc hel.symm (fun i => ix_xorL hxc i) (by omega) (by omega) (by omega) (fun j hj => ?_) (posL_nodup hp) (fun j hj => by rw [hel]; exact posL_lt hp j hj) (by rw [posL_length]; exact hl) (fun z => by rw [val_eras, hel]) (by rw [erasI_length, posL_length]) (synd_xorL hxc hz)
    rw [mem_posL hp]
    refine hd j fun e => hj ?_
    rw [ix_xorL hxc, e, xor_self]
  unfold fill
  rw [if_neg (by simp [hsx]), if_neg (by simp [hp]), if_neg (by omega), Int.toNat_natCast, hrep, if_pos hc]
def errL (x c : List UInt8) (l : List Int) (k : Nat) : List Nat := (List.range k).filter fun i => ix x i != ix c i && !cont l (i : Int)
theorem errL_length (x c : List UInt8) (l : List Int) : ∀ k, (errL x c l k).length = othN x c l k
  | 0 => rfl
  | k + 1 => by
    have h := errL_length x c l k
    unfold errL at h ⊢
    rw [List.range_succ, List.filter_append, List.length_append, h, othN]
    congr 1
    by_cases e : ix x k = ix c k
    · simp [e]
    · cases hc : cont l (k : Int) <;> simp [e, hc]
theorem mem_errL (x c : List UInt8) (l : List Int) (k i : Nat) : i ∈ errL x c l k ↔ i < k ∧ ix x i ≠ ix c i ∧ (i : Int) ∉ l := by
  unfold errL
  rw [List.mem_filter, List.mem_range, Bool.and_eq_true, bne_iff_ne, Bool.not_eq_true', Bool.eq_false_iff, ne_eq, ne_eq, cont_iff]
theorem zeroB_ix {q : List UInt8} (h : zeroB q = true) (k : Nat) : ix q k = 0 := by
  by_cases hk : k < q.length
  · have := (List.all_eq_true.1 h) _ (List.getElem_mem hk)
    simpa [ix, hk] using this
  · exact ix_of_le (by omega)
theorem decode_spec (x c : List UInt8) (n : Nat) (l : List Int) (hxc : x.length = c.length) (hc : validB c n = true) (hp : posB x.length l = true) (hl : 2 * othN x c l x.length + l.length ≤ n) : decode x n l = (c, (allN x c x.length : Int), 0) := by
  obtain ⟨hs, hz⟩ := (validB_iff c n).1 hc
  have hsx : shapedB x n = true := by rw [shapedB_len _ hxc]; exact hs
  obtain ⟨g1, g2, g3, g4, g5⟩ := (shapedB_iff x n).1 hsx
  have hel : (xorL x c).length = x.length := xorL_length hxc
  have hE := errL_length x c l x.length
  have hix : ∀ i, ix (xorL x c) i ≠ 0 ↔ ix x i ≠ ix c i := fun i => by
    rw [ix_xorL hxc]
    exact ⟨fun h e => h (by rw [e, xor_self]), fun h e => h (xor_eq_zero e)⟩
  have hout : decOut x n l = c := by
    unfold decOut xi
    have := euclid_correct x c (xorL x c) n (errL x c l x.length) (posL l) (erasI x.length l l.length) hxc hel.symm (fun i => ix_xorL hxc i) (by omega) (by omega) (by omega) (fun j hj => ?_) ?_ (fun j hj => ?_) (fun j hj => ?_) (by rw [posL_length]; omega) (fun z => by rw [val_eras, hel]) (by rw [erasI_length, posL_length]) (synd_xorL hxc hz)
    · rw [posL_length] at this; exact this
    · have h1 := (hix j).1 hj
      have hjl : j < x.length := by
        by_cases h : j < x.length
        · exact h
        · exact absurd (by rw [ix_of_le (by omega), ix_of_le (by omega)]) h1
      rw [List.mem_append]
      by_cases hm : (j : Int) ∈ l
      · exact .inr ((mem_posL hp j).2 hm)
      · exact .inl ((mem_errL x c l _ j).2 ⟨hjl, h1, hm⟩)
    · rw [List.nodup_append]
      refine ⟨List.Nodup.sublist List.filter_sublist List.nodup_range, posL_nodup hp, fun a ha b hb hab => ?_⟩
      subst hab
      exact ((mem_errL x c l _ a).1 ha).2.2 ((mem_posL hp a).1 hb)
    · rw [hel]
      rcases List.mem_append.1 hj with h | h
      · exact ((mem_errL x c l _ j).1 h).1
      · exact posL_lt hp j h
    · exact (hix j).2 ((mem_errL x c l _ j).1 hj).2.1
  unfold decode
  rw [if_neg (by simp [hsx]), if_neg (by simp [hp]), if_neg (by omega), Int.toNat_natCast]
  by_cases hzz : l = [] ∧ zeroB (xi x n l) = true
  · obtain ⟨rfl, hz0⟩ := hzz
    rw [if_pos ⟨rfl, hz0⟩]
    -- the word is a codeword itself
    have hxi : xi x n [] = (prod (synd x n) [1]).take n := rfl
    have hpr : ∀ k, k < n → ix (prod (synd x n) [1]) k = ix (synd x n) k := fun k hk => by
      apply coef_eq
      · have : (prod (synd x n) [1]).length ≤ (synd x n).length + 1 := by
          unfold prod; split
          · simp
          · rw [addRows_length]; simp
        rw [synd_length] at this; omega
      · rw [synd_length]; omega
      · intro z; rw [val_prod, val_one, mul_one]
    have hx0 : ∀ k, k < n → eval x (exp k) = 0 := fun k hk => by
      rw [← ix_synd x n k hk, ← hpr k hk]
      rw [hxi] at hz0
      have h2 : ix ((prod (synd x n) [1]).take n) k = ix (prod (synd x n) [1]) k := by unfold ix; rw [List.getD_eq_getElem?_getD, List.getD_eq_getElem?_getD, List.getElem?_take, if_pos hk]
      rw [← h2]
      exact zeroB_ix hz0 k
    have hall : allN x c x.length = othN x c [] x.length := by
      have : ∀ k, allN x c k = othN x c [] k := fun k => by
        induction k with
        | zero => rfl
        | succ k ih => rw [allN, othN, ih]; simp [cont]
      exact this _
    have hzero := few_zero (xorL x c) n (by omega) (fun k hk => by rw [eval_xorL hxc, hx0 k hk, hz k hk, xor_self]) (by rw [hel, ← allN_supp x c hxc, hall]; omega)
    have hxe : x = c := ext_ix hxc fun i _ => by
      have := hzero i
      rw [ix_xorL hxc] at this
      exact xor_eq_zero this
    subst hxe
    have h0 : ∀ k, allN x x k = 0 := fun k => by
      induction k with
      | zero => rfl
      | succ k ih => rw [allN, ih, if_pos rfl]
    rw [h0]; rfl
  · rw [if_neg hzz, hout, if_pos ⟨hc, hl⟩]
theorem fill_sound (x : List UInt8) (n : Int) (l : List Int) (h : (fill x n l).2 = 0) : ∃ m : Nat, n = m ∧ (fill x n l).1.length = x.length ∧ validB (fill x n l).1 n = true ∧ posB x.length l = true ∧ l.length ≤ m ∧ ∀ i, i < x.length → (i : Int) ∉ l → ix x i = ix (fill x n l).1 i := by
  unfold fill at h ⊢
  split at h
  · simp at h
  split at h
  · simp at h
  split at h
  · simp at h
  split at h
  · next h1 h2 h3 h4 =>
    rw [if_neg h1, if_neg h2, if_neg h3, if_pos h4]
    have hs : shapedB x n = true := by simpa using h1
    have hps : posB x.length l = true := by simpa using h2
    obtain ⟨g1, g2, g3, g4, g5⟩ := (shapedB_iff x n).1 hs
    refine ⟨n.toNat, by omega, by rw [repair_length], h4, hps, by omega, fun i hi hm => ?_⟩
    dsimp only
    rw [ix_repair _ _ _ _ hi]
    have : fixB (erasI x.length l l.length) (xi x n.toNat l) (x.length - 1 - i) = 0 := by
      unfold fixB
      have hz : hp (x.length - 1 - i) = zi x.length i := by rw [hp_eq]; rfl
      rw [if_neg]
      rw [val_eras, hz, vg_zi g2 hi (posL_lt hps), mem_posL hps]
      exact hm
    rw [this, xor_zero]
  · simp at h
theorem decOut_length (p : List UInt8) (n : Nat) (l : List Int) : (decOut p n l).length = p.length := by unfold decOut; rw [repair_length]
theorem decode_bad2 (x : List UInt8) (n : Int) (l : List Int) (h : (decode x n l).2.2 ≠ 0) : (decode x n l).1 = [] ∧ (decode x n l).2.1 = 0 := by
  unfold decode at h ⊢
  split at h
  · next h1 => rw [if_pos h1]; exact ⟨rfl, rfl⟩
  next h1 =>
  split at h
  · next h2 => rw [if_neg h1, if_pos h2]; exact ⟨rfl, rfl⟩
  next h2 =>
  split at h
  · next h3 => rw [if_neg h1, if_neg h2, if_pos h3]; exact ⟨rfl, rfl⟩
  next h3 =>
  split at h
  · exact absurd rfl h
  next h4 =>
  split at h
  · exact absurd rfl h
  next h5 =>
  rw [if_neg h1, if_neg h2, if_neg h3, if_neg h4, if_neg h5]; exact ⟨rfl, rfl⟩
theorem decode_sound (x : List UInt8) (n : Int) (l : List Int) (h : (decode x n l).2.2 = 0) : ∃ m : Nat, n = m ∧ (decode x n l).1.length = x.length ∧ validB (decode x n l).1 n = true ∧ posB x.length l = true ∧
    2 * othN x (decode x n l).1 l x.length + l.length ≤ m ∧ (decode x n l).2.1 = allN x (decode x n l).1 x.length := by
  unfold decode at h ⊢
  split at h
  · simp at h
  next h1 =>
  split at h
  · simp at h
  next h2 =>
  split at h
  · simp at h
  next h3 =>
  have hs : shapedB x n = true := by simpa using h1
  have hps : posB x.length l = true := by simpa using h2
  obtain ⟨g1, g2, g3, g4, g5⟩ := (shapedB_iff x n).1 hs
  obtain ⟨m, rfl⟩ : ∃ m : Nat, n = m := ⟨n.toNat, by omega⟩
  split at h
  · next h4 =>
    rw [if_neg h1, if_neg h2, if_neg h3, if_pos h4]
    obtain ⟨rfl, hz⟩ := h4
    have h0 : ∀ k, allN x x k = 0 := fun k => by
      induction k with
      | zero => rfl
      | succ k ih => rw [allN, ih, if_pos rfl]
    have h0' : ∀ k, othN x x [] k = 0 := fun k => by
      induction k with
      | zero => rfl
      | succ k ih => rw [othN, ih, if_pos rfl]
    refine ⟨m, rfl, rfl, ?_, hps, by rw [h0']; simp, by rw [h0]; rfl⟩
    rw [validB_iff]
    refine ⟨hs, fun k hk => ?_⟩
    rw [Int.toNat_natCast] at hz
    have hpr : ix (prod (synd x m) [1]) k = ix (synd x m) k := by
      apply coef_eq
      · have : (prod (synd x m) [1]).length ≤ (synd x m).length + 1 := by
          unfold prod; split
          · simp
          · rw [addRows_length]; simp
        rw [synd_length] at this; omega
      · rw [synd_length]; omega
      · intro z; rw [val_prod, val_one, mul_one]
    rw [← ix_synd x m k hk, ← hpr]
    have h2 : ix (xi x m []) k = ix (prod (synd x m) [1]) k := by
      show ix ((prod (synd x m) [1]).take m) k = _
      unfold ix; rw [List.getD_eq_getElem?_getD, List.getD_eq_getElem?_getD, List.getElem?_take, if_pos hk]
    rw [← h2]
    exact zeroB_ix hz k
  next h4 =>
  split at h
  · next h5 =>
    rw [if_neg h1, if_neg h2, if_neg h3, if_neg h4, if_pos h5]
    rw [Int.toNat_natCast] at h5 ⊢
    exact ⟨m, rfl, decOut_length _ _ _, h5.1, hps, h5.2, rfl⟩
  · simp at h
end Go.Proofs.YtflmjdjkfognjaaGreat.G
namespace Go.Proofs.YtflmjdjkfognjaaGreat.G
set_option linter.unusedVariables false
def rw_ (R : List (List UInt8)) (i : Nat) : List UInt8 := R.getD i []
def dot (m : Nat) (l : List UInt8) (y : Nat → UInt8) : UInt8 := sumN (fun j => mul (ix l j) (y j)) m
def Z (m : Nat) (R : List (List UInt8)) (y : Nat → UInt8) : Prop := ∀ i, i < R.length → dot m (rw_ R i) y = 0
def Unit (R : List (List UInt8)) (k : Nat) : Prop := ∀ j, j < k → ∀ i, i < R.length → ix (rw_ R i) j = if i = j then 1 else 0
structure Elim (n m : Nat) (R0 R : List (List UInt8)) (k : Nat) : Prop where
  len : R.length = n
  row : ∀ i, i < n → (rw_ R i).length = m + 1
  sol : ∀ y, Z (m + 1) R y ↔ Z (m + 1) R0 y
  unit : Unit R k
theorem Elim.next {n m k : Nat} {R0 R : List (List UInt8)} (h : Elim n m R0 R k) (hc : ∀ i, i < n → ix (rw_ R i) k = if i = k then 1 else 0) : Elim n m R0 R (k + 1) :=
  ⟨h.len, h.row, h.sol, fun j hj i hi => by
    by_cases e : j = k
    · subst e; exact hc i (by have := h.len; omega)
    · exact h.unit j (by omega) i hi⟩
end Go.Proofs.YtflmjdjkfognjaaGreat.G
namespace Go.Proofs.YtflmjdjkfognjaaGreat.G
theorem posB_mk {n : Nat} {l : List Int} (h1 : ∀ x ∈ l, 0 ≤ x ∧ x < (n : Int)) (h2 : l.Pairwise (· < ·)) : posB n l = true := by
  have hpw := List.pairwise_iff_getElem.1 h2
  suffices h : ∀ k, k ≤ l.length → posN n l k = true from h _ (Nat.le_refl _)
  intro k
  induction k with
  | zero => intro _; rfl
  | succ k ih =>
    intro hk
    have hkl : k < l.length := by omega
    have e := h1 _ (List.getElem_mem hkl)
    rw [posN, ih (by omega), ixI_get hkl]
    have e1 : decide (l[k] < 0) = false := by rw [decide_eq_false_iff_not]; omega
    have e2 : decide ((n : Int) ≤ l[k]) = false := by rw [decide_eq_false_iff_not]; omega
    rw [e1, e2]
    by_cases h0 : 0 < k
    · have := hpw (k - 1) k (by omega) hkl (by omega)
      rw [ixI_get (by omega : k - 1 < l.length)]
      have e3 : decide (l[k] ≤ l[k - 1]) = false := by rw [decide_eq_false_iff_not]; omega
      rw [e3]; simp
    · simp [h0]
def mgS (l : List Int) (x : Int) : Nat → List Int × Bool
  | 0 => ([], false)
  | k + 1 => if (mgS l x k).2 = false ∧ x < ixI l k then ((mgS l x k).1 ++ [x] ++ [ixI l k], true) else ((mgS l x k).1 ++ [ixI l k], (mgS l x k).2)
def mg (l : List Int) (x : Int) : List Int := if (mgS l x l.length).2 = true then (mgS l x l.length).1 else (mgS l x l.length).1 ++ [x]
theorem mem_mgS (l : List Int) (x y : Int) : ∀ k, k ≤ l.length → (y ∈ (mgS l x k).1 ↔ y ∈ l.take k ∨ ((mgS l x k).2 = true ∧ y = x))
  | 0, _ => by simp [mgS]
  | k + 1, hk => by
    have ih := mem_mgS l x y k (by omega)
    have hkl : k < l.length := by omega
    rw [mgS, List.take_succ_eq_append_getElem hkl, ixI_get hkl]
    split
    · next h =>
      simp only [List.mem_append, List.mem_singleton, ih, h.1]
      simp only [Bool.false_eq_true, false_and, or_false, true_and]
      constructor
      · rintro ((h | h) | h)
        · exact .inl (.inl h)
        · exact .inr h
        · exact .inl (.inr h)
      · rintro ((h | h) | h)
        · exact .inl (.inl h)
        · exact .inr h
        · exact .inl (.inr h)
    · simp only [List.mem_append, List.mem_singleton, ih]
      constructor
      · rintro ((h | h) | h)
        · exact .inl (.inl h)
        · exact .inr h
        · exact .inl (.inr h)
      · rintro ((h | h) | h)
        · exact .inl (.inl h)
        · exact .inr h
        · exact .inl (.inr h)
theorem mem_mg (l : List Int) (x y : Int) : y ∈ mg l x ↔ y ∈ l ∨ y = x := by
  have h := mem_mgS l x y l.length (Nat.le_refl _)
  rw [List.take_length] at h
  unfold mg
  split
  · next h1 => rw [h, h1]; simp
  · next h1 => rw [List.mem_append, List.mem_singleton, h]; simp [h1]
def Near (p c : List UInt8) (n : Nat) (l : List Int) : Prop := c.length = p.length ∧ validB c n = true ∧ ∀ i : Nat, ix p i ≠ ix c i → (i : Int) ∈ l
def Found (p c : List UInt8) (n : Nat) (l : List Int) (e : Nat) (fr : Nat) : Prop := ∃ E : List Nat, E.length = e ∧ E.Pairwise (· < ·) ∧ (∀ i ∈ E, fr ≤ i ∧ i < p.length ∧ (i : Int) ∉ l) ∧ c.length = p.length ∧ validB c n = true ∧ ∀ i : Nat, ix p i ≠ ix c i → (i : Int) ∈ l ∨ i ∈ E
theorem Found.zero {p c : List UInt8} {n : Nat} {l : List Int} {fr : Nat} : Found p c n l 0 fr ↔ Near p c n l := by
  constructor
  · rintro ⟨E, hE, _, _, h1, h2, h3⟩
    obtain rfl := List.eq_nil_of_length_eq_zero hE
    exact ⟨h1, h2, fun i hi => (h3 i hi).resolve_right (by simp)⟩
  · rintro ⟨h1, h2, h3⟩
    exact ⟨[], rfl, by simp, by simp, h1, h2, fun i hi => .inl (h3 i hi)⟩
theorem Found.split {p c : List UInt8} {n : Nat} {l : List Int} {e fr : Nat} (h : Found p c n l (e + 1) fr) : ∃ i, fr ≤ i ∧ i < p.length ∧ (i : Int) ∉ l ∧ Found p c n (mg l i) e (i + 1) := by
  obtain ⟨E, hE, hs, hb, h1, h2, h3⟩ := h
  match E, hE, hs, hb, h3 with
  | i :: E, hE, hs, hb, h3 =>
    obtain ⟨g1, g2, g3⟩ := hb i (by simp)
    obtain ⟨k1, k2⟩ := List.pairwise_cons.1 hs
    refine ⟨i, g1, g2, g3, E, by simpa using hE, k2, fun j hj => ?_, h1, h2, fun j hj => ?_⟩
    · obtain ⟨m1, m2, m3⟩ := hb j (by simp [hj])
      have := k1 j hj
      refine ⟨by omega, m2, fun hh => ?_⟩
      rcases (mem_mg _ _ _).1 hh with h | h
      · exact m3 h
      · omega
    · rcases h3 j hj with h | h
      · exact .inl ((mem_mg _ _ _).2 (.inl h))
      · rcases List.mem_cons.1 h with rfl | h
        · exact .inl ((mem_mg _ _ _).2 (.inr rfl))
        · exact .inr h
end Go.Proofs.YtflmjdjkfognjaaGreat.G
