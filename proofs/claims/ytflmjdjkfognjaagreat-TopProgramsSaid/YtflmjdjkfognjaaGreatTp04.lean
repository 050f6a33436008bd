/- Shaken out of XCor XDecP -/
import Derived.Test.YtflmjdjkfognjaaGreatTp03
namespace Go.Proofs.YtflmjdjkfognjaaGreat.G
set_option linter.unusedVariables false
theorem sumN_swap (f : Nat → Nat → UInt8) (m : Nat) : ∀ n, sumN (fun k => sumN (fun j => f j k) m) n = sumN (fun j => sumN (fun k => f j k) n) m
  | 0 => by rw [sumN, sumN_congr (f := fun j => sumN (fun k => f j k) 0) m (g := fun _ => 0) (fun i _ => rfl), sumN_zero]
  | n + 1 => by rw [sumN, sumN_swap f m n, ← sumN_xor]; rfl
theorem pw_mul (a b : UInt8) : ∀ k, pw (mul a b) k = mul (pw a k) (pw b k)
  | 0 => by rw [pw, pw, pw, mul_one]
  | k + 1 => by rw [pw, pw, pw, pw_mul a b k]; simp only [mas, mul_comm, mlc]
theorem geo (y : UInt8) : ∀ n, mul (1 ^^^ y) (sumN (fun k => pw y k) n) = 1 ^^^ pw y n
  | 0 => by rw [sumN, mul_zero, pw, xor_self]
  | n + 1 => by rw [sumN, mul_xor, geo y n, xor_mul, one_mul, pw, mul_comm y, xor_assoc, ← xor_assoc (pw y n), xor_self, zero_xor]
/-- the product of '1 + X z' over some positions of a word of length 'N' -/
def vg (N : Nat) : List Nat → UInt8 → UInt8
  | [], _ => 1
  | j :: L, z => mul (1 ^^^ mul (loc N j) z) (vg N L z)
theorem vg_poly (N : Nat) : ∀ L, Poly (L.length + 1) (vg N L)
  | [] => (Poly.const 1).congr fun z => rfl
  | j :: L => ((Poly.lin (loc N j)).mul (vg_poly N L) (by simp; omega)).congr fun z => rfl
theorem vg_append (N : Nat) (z : UInt8) (M : List Nat) : ∀ L, vg N (L ++ M) z = mul (vg N L z) (vg N M z)
  | [] => by rw [List.nil_append, vg, one_mul]
  | j :: L => by rw [List.cons_append, vg, vg, vg_append N z M L, mas]
theorem vg_erase (N : Nat) (z : UInt8) (i : Nat) : ∀ L, i ∈ L → vg N L z = mul (1 ^^^ mul (loc N i) z) (vg N (L.erase i) z)
  | [], h => by simp at h
  | j :: L, h => by
    by_cases e : j = i
    · subst e; rw [List.erase_cons_head, vg]
    · rw [List.erase_cons_tail (by simpa using e), vg, vg, vg_erase N z i L (by simpa [Ne.symm e] using h), mlc]
theorem vg_zero (N : Nat) (z : UInt8) : ∀ L, vg N L z = 0 ↔ ∃ j ∈ L, mul (loc N j) z = 1
  | [] => by simp [vg]
  | j :: L => by
    rw [vg]
    constructor
    · intro h
      rcases mul_eq_zero h with h | h
      · exact ⟨j, by simp, (xor_eq_zero h).symm⟩
      · obtain ⟨i, hi, e⟩ := (vg_zero N z L).1 h
        exact ⟨i, by simp [hi], e⟩
    · rintro ⟨i, hi, e⟩
      rcases List.mem_cons.1 hi with rfl | hi
      · rw [e, xor_self, zero_mul]
      · rw [(vg_zero N z L).2 ⟨i, hi, e⟩, mul_zero]
/-- the inverse of a position's element -/
def zi (N i : Nat) : UInt8 := inv (loc N i)
theorem zi_ne (N i : Nat) : zi N i ≠ 0 := inv_ne (loc_ne N i)
theorem loc_zi (N i : Nat) : mul (loc N i) (zi N i) = 1 := mul_inv (loc_ne N i)
theorem loc_zi_iff {N i j : Nat} (hN : N ≤ 255) (hi : i < N) (hj : j < N) : mul (loc N j) (zi N i) = 1 ↔ j = i := by
  constructor
  · intro h
    apply loc_inj hN hj hi
    have h2 := loc_zi N i
    have : mul (zi N i) (loc N j) = mul (zi N i) (loc N i) := by rw [mul_comm, h, mul_comm, h2]
    exact mul_cancel (zi_ne N i) this
  · rintro rfl; exact loc_zi N j
theorem vg_zi {N i : Nat} (hN : N ≤ 255) (hi : i < N) {L : List Nat} (hL : ∀ j ∈ L, j < N) : vg N L (zi N i) = 0 ↔ i ∈ L := by
  rw [vg_zero]
  constructor
  · rintro ⟨j, hj, e⟩
    rw [loc_zi_iff hN hi (hL j hj)] at e
    exact e ▸ hj
  · intro h
    exact ⟨i, h, loc_zi N i⟩
/-- the evaluator of the errors 'e', whose positions lie in 'L' -/
def om (e : List UInt8) (L : List Nat) (z : UInt8) : UInt8 := sumN (fun j => mul (ix e j) (vg e.length (L.erase j) z)) e.length
def tau (e : List UInt8) (L : List Nat) (n : Nat) (z : UInt8) : UInt8 := sumN (fun j => mul (mul (ix e j) (pw (loc e.length j) n)) (vg e.length (L.erase j) z)) e.length
theorem term_poly (e : List UInt8) (L : List Nat) (hL : ∀ j, ix e j ≠ 0 → j ∈ L) (a : Nat → UInt8) (j : Nat) : Poly L.length (fun z => mul (mul (ix e j) (a j)) (vg e.length (L.erase j) z)) := by
  by_cases h : ix e j = 0
  · exact (Poly.zero.mono (Nat.zero_le _)).congr fun z => by rw [h, zero_mul, zero_mul]
  · have hj := hL j h
    have hlen := List.length_erase_of_mem hj
    have hpos : 0 < L.length := List.length_pos_of_mem hj
    exact ((vg_poly e.length (L.erase j)).smul _).mono (by omega)
theorem tau_poly (e : List UInt8) (L : List Nat) (n : Nat) (hL : ∀ j, ix e j ≠ 0 → j ∈ L) : Poly L.length (tau e L n) :=
  (Poly.sum (fun j => term_poly e L hL (fun j => pw (loc e.length j) n) j) e.length).congr fun z => rfl
theorem om_poly (e : List UInt8) (L : List Nat) (hL : ∀ j, ix e j ≠ 0 → j ∈ L) : Poly L.length (om e L) :=
  (Poly.sum (fun j => term_poly e L hL (fun j => 1) j) e.length).congr fun z => by
    unfold om; exact sumN_congr _ fun j _ => by rw [mul_one]
theorem val_synd (e : List UInt8) (n : Nat) (z : UInt8) : val (synd e n) z = sumN (fun j => mul (ix e j) (sumN (fun k => pw (mul (loc e.length j) z) k) n)) e.length := by
  rw [val_sum z (synd e n) n (by rw [synd_length]; exact Nat.le_refl _)]
  rw [sumN_congr n (g := fun k => sumN (fun j => mul (ix e j) (pw (mul (loc e.length j) z) k)) e.length) (fun k hk => by
    rw [ix_synd _ _ _ hk, syn_sum, mul_comm, ← sumN_mul]
    exact sumN_congr _ fun j _ => by rw [pw_mul]; simp only [mul_comm, mlc])]
  rw [sumN_swap (fun j k => mul (ix e j) (pw (mul (loc e.length j) z) k))]
  exact sumN_congr _ fun j _ => by rw [sumN_mul]
/-- the syndromes times the locator -/
theorem key (e : List UInt8) (L : List Nat) (n : Nat) (hL : ∀ j, ix e j ≠ 0 → j ∈ L) (z : UInt8) :
    mul (val (synd e n) z) (vg e.length L z) = om e L z ^^^ mul (pw z n) (tau e L n z) := by
  unfold om tau
  rw [val_synd, mul_comm, ← sumN_mul, ← sumN_mul, ← sumN_xor]
  refine sumN_congr _ fun j _ => ?_
  by_cases h : ix e j = 0
  · rw [h]; simp only [zero_mul, mul_zero, xor_zero]
  · rw [vg_erase e.length z j L (hL j h)]
    have hg := geo (mul (loc e.length j) z) n
    rw [pw_mul] at hg
    generalize sumN (fun k => pw (mul (loc e.length j) z) k) n = S at hg ⊢
    generalize vg e.length (L.erase j) z = V
    have e1 : mul (mul (1 ^^^ mul (loc e.length j) z) V) (mul (ix e j) S) = mul (mul V (ix e j)) (mul (1 ^^^ mul (loc e.length j) z) S) := by
      generalize (1 ^^^ mul (loc e.length j) z) = T
      simp only [mul_comm, mlc]
    rw [e1, hg]
    generalize pw (loc e.length j) n = P
    generalize pw z n = Q
    simp only [mul_xor, one_mul, mul_comm, mlc]
theorem om_zi (e : List UInt8) (L : List Nat) (hN : e.length ≤ 255) (hL : ∀ j, ix e j ≠ 0 → j ∈ L) (hn : L.Nodup) (hb : ∀ j ∈ L, j < e.length) (i : Nat) (hi : i ∈ L) :
    om e L (zi e.length i) = mul (ix e i) (vg e.length (L.erase i) (zi e.length i)) := by
  unfold om
  rw [sumN_one (hb i hi) (fun j hj hne => ?_)]
  by_cases h : ix e j = 0
  · rw [h, zero_mul]
  · have : i ∈ L.erase j := (hn.mem_erase_iff).2 ⟨fun h => hne h.symm, hi⟩
    rw [(vg_zi hN (hb i hi) (fun k hk => hb k (List.mem_of_mem_erase hk))).2 this, mul_zero]
theorem vg_erase_ne {N : Nat} {L : List Nat} (hN : N ≤ 255) (hn : L.Nodup) (hb : ∀ j ∈ L, j < N) {i : Nat} (hi : i ∈ L) : vg N (L.erase i) (zi N i) ≠ 0 := fun h => by
  have := (vg_zi hN (hb i hi) (fun k hk => hb k (List.mem_of_mem_erase hk))).1 h
  exact ((hn.mem_erase_iff).1 this).1 rfl
theorem inv_mul2 {a b : UInt8} (ha : a ≠ 0) (hb : b ≠ 0) : inv (mul a b) = mul (inv a) (inv b) := by
  apply mul_cancel (mul_ne ha hb)
  rw [mul_inv (mul_ne ha hb)]
  have h1 := mul_inv ha
  have h2 := mul_inv hb
  have e : mul (mul a b) (mul (inv a) (inv b)) = mul (mul a (inv a)) (mul b (inv b)) := by simp only [mul_comm, mlc]
  rw [e, h1, h2, mul_one]
theorem hp_eq : ∀ j, hp j = inv (exp j)
  | 0 => by rw [hp, exp_zero]; decide +kernel
  | j + 1 => by rw [hp, hp_eq j, exp_add, exp_one, inv_mul2 (exp_ne j) (by decide)]
theorem deriv_dg {p q : List UInt8} {a : UInt8} (hp : Dg p 256) (hq : q.length ≤ 255) (h : ∀ x, val p x = mul (1 ^^^ mul a x) (val q x)) (x : UInt8) :
    val (deriv p) x = mul a (val q x) ^^^ mul (1 ^^^ mul a x) (val (deriv q) x) := by
  have hi : ∀ i, ix (p.take 256) i = ix p i := fun i => by
    by_cases hi : i < 256
    · unfold ix; rw [List.getD_eq_getElem?_getD, List.getD_eq_getElem?_getD, List.getElem?_take, if_pos hi]
    · rw [hp i (by omega), ix_of_le (by rw [List.length_take]; omega)]
  rw [← deriv_factor (p.take 256) q a (by rw [List.length_take]; omega) hq (fun x => by rw [val_of_coef _ _ hi, h]) x]
  exact val_of_coef _ _ (fun i => by rw [ixp_deriv, ixp_deriv, hi]) x
/-- what is repaired by the locator and the evaluator, both times 'm', is the codeword -/
theorem repair_ok (p c e : List UInt8) (L : List Nat) (psi w : List UInt8) (m : UInt8 → UInt8) (d : Nat) (hpc : p.length = c.length) (hpe : p.length = e.length) (he : ∀ i, ix e i = ix p i ^^^ ix c i) (hN : e.length ≤ 255)
    (hL : ∀ j, ix e j ≠ 0 → j ∈ L) (hn : L.Nodup) (hb : ∀ j ∈ L, j < e.length) (hm : Poly d m) (hm0 : ∀ z, z ≠ 0 → m z ≠ 0) (hpsi : ∀ z, val psi z = mul (m z) (vg e.length L z))
    (hw : ∀ z, val w z = mul (m z) (om e L z)) (hd : Dg psi 256) (hdl : d + L.length ≤ 255) : repair p psi w = c := by
  apply ext_ix (by rw [repair_length, hpc])
  intro i hi
  rw [repair_length] at hi
  rw [ix_repair p psi w i hi]
  suffices hf : fixB psi w (p.length - 1 - i) = ix e i by rw [hf, he, xor_cancel]
  have hi' : i < e.length := by omega
  have hz : hp (p.length - 1 - i) = zi e.length i := by rw [hp_eq, hpe]; rfl
  unfold fixB
  rw [hz]
  have hmz := hm0 _ (zi_ne e.length i)
  by_cases hiL : i ∈ L
  · rw [if_pos (by rw [hpsi, (vg_zi hN hi' hb).2 hiL, mul_zero])]
    have hlen := List.length_erase_of_mem hiL
    have hpos : 0 < L.length := List.length_pos_of_mem hiL
    obtain ⟨q, hq, hqv⟩ := hm.mul (vg_poly e.length (L.erase i)) (k := 255) (by omega)
    have hdv := deriv_dg (p := psi) (q := q) (a := loc e.length i) hd hq (fun x => by rw [hpsi, ← hqv, vg_erase e.length x i L hiL]; simp only [mul_comm, mlc]) (zi e.length i)
    rw [loc_zi, xor_self, zero_mul, xor_zero, ← hqv] at hdv
    dsimp only at hdv
    have hV := vg_erase_ne hN hn hb hiL
    rw [hdv, hw, om_zi e L hN hL hn hb i hiL]
    have hexp : exp (p.length - 1 - i) = loc e.length i := by rw [hpe]; rfl
    rw [hexp]
    have hQ := mul_ne hmz hV
    have hX := loc_ne e.length i
    generalize loc e.length i = X at *
    generalize hVV : vg e.length (L.erase i) (zi e.length i) = V at *
    generalize m (zi e.length i) = M at *
    rw [inv_mul2 hX hQ]
    have e1 : mul X (mul (mul M (mul (ix e i) V)) (mul (inv X) (inv (mul M V)))) = mul (ix e i) (mul (mul X (inv X)) (mul (mul M V) (inv (mul M V)))) := by
      generalize inv (mul M V) = W
      generalize inv X = Y
      simp only [mul_comm, mlc]
    rw [e1, mul_inv hX, mul_inv hQ, mul_one, mul_one]
  · rw [if_neg (by rw [hpsi]; exact mul_ne hmz (fun h => hiL ((vg_zi hN hi' hb).1 h)))]
    by_cases h0 : ix e i = 0
    · exact h0.symm
    · exact absurd (hL i h0) hiL
/-- the syndromes times a locator of some positions, cut off: the evaluator, but for multiples of the 'n'th power -/
theorem xi_key (e : List UInt8) (n : Nat) (Gm : List UInt8) (s : Nat) (hs : Gm.length ≤ s + 1) (hn : 1 ≤ n) : ∃ A : UInt8 → UInt8, Poly s A ∧ ∀ z, mul (val (synd e n) z) (val Gm z) = val ((prod (synd e n) Gm).take n) z ^^^ mul (pw z n) (A z) := by
  refine ⟨val ((prod (synd e n) Gm).drop n), ⟨_, ?_, fun z => rfl⟩, fun z => ?_⟩
  · rw [List.length_drop]
    unfold prod
    split
    · simp
    · rw [addRows_length, synd_length]; omega
  · rw [← val_prod]
    have h := val_append ((prod (synd e n) Gm).take n) ((prod (synd e n) Gm).drop n) z
    rw [List.take_append_drop] at h
    rw [h]
    congr 1
    by_cases hl : n ≤ (prod (synd e n) Gm).length
    · rw [List.length_take, Nat.min_eq_left hl, mul_comm]
    · rw [List.drop_of_length_le (by omega), val_nil, zero_mul, mul_zero]
/-- from 'lambda b = v omega' to the common factor -/
theorem common (N : Nat) (w : UInt8 → UInt8) (dw : Nat) (hw : Poly dw w) (b : UInt8 → UInt8) (db : Nat) (hb : Poly db b) (hN : N ≤ 255) : ∀ (R : List Nat) (v : UInt8 → UInt8) (dv : Nat), R.Nodup → (∀ j ∈ R, j < N) → (∀ j ∈ R, w (zi N j) ≠ 0) →
    Poly dv v → R.length + db + dw + dv ≤ 255 → (∀ z, mul (vg N R z) (b z) = mul (v z) (w z)) → ∃ m, Poly dv m ∧ (∀ z, v z = mul (vg N R z) (m z)) ∧ ∀ z, b z = mul (m z) (w z)
  | [], v, dv, _, _, _, hv, _, h => ⟨v, hv, fun z => by rw [vg, one_mul], fun z => by rw [← h z, vg, one_mul]⟩
  | i :: R, v, dv, hnd, hR, hwz, hv, hd, h => by
    have hiR : i ∉ R := (List.nodup_cons.1 hnd).1
    have h0 : v (zi N i) = 0 := by
      have := h (zi N i)
      rw [vg, loc_zi, xor_self, zero_mul, zero_mul] at this
      rcases mul_eq_zero this.symm with h1 | h1
      · exact h1
      · exact absurd h1 (hwz i (by simp))
    have hdv : ∃ k, dv ≤ k + 1 ∧ k ≤ dv := ⟨dv - 1, by omega, by omega⟩
    obtain ⟨k, hk1, hk2⟩ := hdv
    obtain ⟨g, hg, hgv⟩ := (hv.mono hk1).factor h0
    have hlin : ∀ x, x ^^^ zi N i = mul (zi N i) (1 ^^^ mul (loc N i) x) := fun x => by
      rw [mul_xor, mul_one, mul_assoc, mul_comm (zi N i) (loc N i), loc_zi, one_mul, xor_comm]
    have hv' : ∀ x, v x = mul (1 ^^^ mul (loc N i) x) (mul (zi N i) (g x)) := fun x => by
      rw [hgv, hlin]; simp only [mul_comm, mlc]
    have hP1 := (vg_poly N R).mul hb (k := 255) (by simp at hd; omega)
    have hP2 := (hg.smul (zi N i)).mul hw (k := 255) (by simp at hd; omega)
    have hz := (hP1.xor hP2).zero_but (by omega) (zi N i) (fun x hx => by
      have hx' := h x
      rw [vg, hv', mas, mas] at hx'
      have hne : (1 ^^^ mul (loc N i) x) ≠ 0 := fun e => hx (by
        have e1 := xor_eq_zero e
        have e2 := loc_zi N i
        exact mul_cancel (loc_ne N i) (by rw [← e1, e2]))
      have := mul_cancel hne hx'
      simp only [this, xor_self])
    obtain ⟨m, hm, h1, h2⟩ := common N w dw hw b db hb hN R (fun x => mul (zi N i) (g x)) dv (List.nodup_cons.1 hnd).2 (fun j hj => hR j (by simp [hj])) (fun j hj => hwz j (by simp [hj])) ((hg.smul _).mono hk2) (by simp at hd; omega) (fun z => xor_eq_zero (hz z))
    exact ⟨m, hm, fun z => by rw [hv', h1, vg, mas], h2⟩
/-- Euclid's result, repaired: 'E' the positions of errors, 'M' the erased ones -/
theorem euclid_correct (p c e : List UInt8) (n : Nat) (E M : List Nat) (Gm : List UInt8) (hpc : p.length = c.length) (hpe : p.length = e.length) (he : ∀ i, ix e i = ix p i ^^^ ix c i) (hN : e.length ≤ 255) (hn1 : 1 ≤ n) (hn2 : n ≤ 16)
    (hL : ∀ j, ix e j ≠ 0 → j ∈ E ++ M) (hn : (E ++ M).Nodup) (hb : ∀ j ∈ E ++ M, j < e.length) (hE : ∀ j ∈ E, ix e j ≠ 0) (hs : 2 * E.length + M.length ≤ n) (hG : ∀ z, val Gm z = vg e.length M z) (hGl : Gm.length = M.length + 1) (hsy : synd p n = synd e n) :
    repair p (prod (euc ((n : Int) + M.length) n (List.replicate n 0 ++ [1]) ((prod (synd p n) Gm).take n) [0] [1]).2 Gm) (euc ((n : Int) + M.length) n (List.replicate n 0 ++ [1]) ((prod (synd p n) Gm).take n) [0] [1]).1 = c := by
  rw [hsy]
  obtain ⟨A, hA, hk⟩ := xi_key e n Gm M.length (by omega) hn1
  have hk2 := key e (E ++ M) n hL
  obtain ⟨xi, hxi⟩ : ∃ xi, xi = (prod (synd e n) Gm).take n := ⟨_, rfl⟩
  rw [← hxi] at hk ⊢
  have hxl : xi.length ≤ n := by rw [hxi, List.length_take]; omega
  have hxd := deg_bounds xi
  obtain ⟨a, u, d, hEuc, ht1, ht2⟩ := Euc.loop ((n : Int) + M.length) (by omega) n _ _ _ _ n (Euc.start hxl) (by omega) (by omega)
  obtain ⟨b, hbb⟩ : ∃ b, b = (euc ((n : Int) + M.length) n (List.replicate n 0 ++ [1]) xi [0] [1]).1 := ⟨_, rfl⟩
  obtain ⟨v, hvv⟩ : ∃ v, v = (euc ((n : Int) + M.length) n (List.replicate n 0 ++ [1]) xi [0] [1]).2 := ⟨_, rfl⟩
  rw [← hbb, ← hvv] at hEuc
  rw [← hbb] at ht2
  rw [← hbb, ← hvv]
  have hdn := hEuc.dn
  obtain ⟨Ua, Ub, pa, pb, ca, cb⟩ := hEuc.cong
  have hdb := deg_bounds b
  obtain ⟨db, hdb2⟩ : ∃ db : Nat, (db : Int) = deg b + 1 := ⟨(deg b + 1).toNat, by omega⟩
  have hDb : Dg b db := fun i hi => ix_of_deg (by omega)
  have hlen : (E ++ M).length = E.length + M.length := List.length_append
  -- lambda xi = omega + z^n T
  have hT : ∀ z, mul (vg e.length E z) (val xi z) = om e (E ++ M) z ^^^ mul (pw z n) (tau e (E ++ M) n z ^^^ mul (vg e.length E z) (A z)) := fun z => by
    have h1 := hk z
    have h2 := hk2 z
    rw [vg_append] at h2
    rw [hG] at h1
    have e1 : val xi z = mul (val (synd e n) z) (vg e.length M z) ^^^ mul (pw z n) (A z) := by rw [h1, xor_assoc, xor_self, xor_zero]
    rw [e1, mul_xor]
    have e2 : mul (vg e.length E z) (mul (val (synd e n) z) (vg e.length M z)) = mul (val (synd e n) z) (mul (vg e.length E z) (vg e.length M z)) := mlc _ _ _
    rw [e2, h2, mul_xor, xor_assoc]
    congr 2
    exact mlc _ _ _
  have pT : Poly (E.length + M.length + 1) (fun z => tau e (E ++ M) n z ^^^ mul (vg e.length E z) (A z)) :=
    ((tau_poly e (E ++ M) n hL).mono (by omega)).xor ((vg_poly e.length E).mul hA (by omega))
  have pom : Poly (E.length + M.length) (om e (E ++ M)) := (om_poly e (E ++ M) hL).mono (by omega)
  have pv := hEuc.pv.poly
  have hW : Poly (n + E.length + M.length + 1) (fun z => mul (vg e.length E z) (Ub z) ^^^ mul (val v z) (tau e (E ++ M) n z ^^^ mul (vg e.length E z) (A z))) :=
    ((vg_poly e.length E).mul pb (by omega)).xor (pv.mul pT (by omega))
  have hlow := (((vg_poly e.length E).mul hDb.poly (k := n) (by omega)).xor (pv.mul pom (k := n) (by omega))).low hW (by omega) (fun z => by
      have h1 := cb z
      have h2 := hT z
      generalize tau e (E ++ M) n z ^^^ mul (vg e.length E z) (A z) = T at h2 ⊢
      -- lambda b + v omega = z^n (lambda Ub + v T)
      have e1 : val b z = mul (val v z) (val xi z) ^^^ mul (pw z n) (Ub z) := by rw [h1, xor_assoc, xor_self, xor_zero]
      have e2 : om e (E ++ M) z = mul (vg e.length E z) (val xi z) ^^^ mul (pw z n) T := by rw [h2, xor_assoc, xor_self, xor_zero]
      rw [e1, e2]
      simp only [mul_xor, xor_mul, mas, mul_comm, mlc, xor_comm, xlc, xor_self, zero_xor])
  have hcm : ∀ z, mul (vg e.length E z) (val b z) = mul (val v z) (om e (E ++ M) z) := fun z => xor_eq_zero (hlow z)
  have hnE : E.Nodup := (List.nodup_append.1 hn).1
  obtain ⟨m, hm, hvm, hbm⟩ := common e.length (om e (E ++ M)) _ pom (val b) db hDb.poly hN E (val v) _ hnE (fun j hj => hb j (by simp [hj])) (fun j hj => by
    have hjL : j ∈ E ++ M := by simp [hj]
    rw [om_zi e (E ++ M) hN hL hn hb j hjL]
    exact mul_ne (hE j hj) (vg_erase_ne hN hn hb hjL)) pv (by omega) hcm
  have hm0 : ∀ z, z ≠ 0 → m z ≠ 0 := fun z hz h0 => by
    have hd := hEuc.det z
    rw [hbm, hvm, h0] at hd
    simp only [zero_mul, mul_zero, xor_zero] at hd
    exact pw_ne hz n hd.symm
  exact repair_ok p c e (E ++ M) _ b m _ hpc hpe he hN hL hn hb hm hm0 (fun z => by rw [val_prod, hvm, hG, vg_append]; simp only [mas, mul_comm]) hbm
    ((hEuc.pv.prod (Dg.len Gm) (f := 256) (by omega))) (by omega)
end Go.Proofs.YtflmjdjkfognjaaGreat.G
namespace Go.Proofs.YtflmjdjkfognjaaGreat.G
theorem allN_supp (a b : List UInt8) (h : a.length = b.length) : ∀ k, allN a b k = (supp (xorL a b) k).length
  | 0 => rfl
  | k + 1 => by
    rw [allN, supp_succ, allN_supp a b h k, ix_xorL h]
    congr 1
    by_cases e : ix a k = ix b k
    · rw [if_pos e, if_pos (by rw [e, xor_self])]
    · rw [if_neg e, if_neg (fun h => e (xor_eq_zero h))]
/-- the erased positions as naturals -/
def posL (l : List Int) : List Nat := l.map Int.toNat
theorem posL_length (l : List Int) : (posL l).length = l.length := by simp [posL]
theorem ixI_get {l : List Int} {k : Nat} (h : k < l.length) : ixI l k = l[k] := by unfold ixI; simp [h]
theorem pos_lt {n : Nat} {l : List Int} (h : posB n l = true) {j k : Nat} (hk : k < l.length) (hj : j < k) : ixI l j < ixI l k := by
  induction k with
  | zero => omega
  | succ k ih =>
    have h1 := (posN_at n l hk h).2.2 (by omega)
    rw [Nat.add_sub_cancel] at h1
    by_cases e : j = k
    · subst e; exact h1
    · have := ih (by omega) (by omega); omega
theorem posL_nodup {n : Nat} {l : List Int} (h : posB n l = true) : (posL l).Nodup := by
  unfold List.Nodup
  rw [List.pairwise_iff_getElem]
  intro i j hi hj hij
  rw [posL_length] at hi hj
  have h1 := pos_lt h hj hij
  have h2 := (posN_at n l hi h).1
  rw [ixI_get hi] at h1 h2
  rw [ixI_get hj] at h1
  simp only [posL, List.getElem_map]
  omega
theorem mem_posL {n : Nat} {l : List Int} (h : posB n l = true) (i : Nat) : i ∈ posL l ↔ (i : Int) ∈ l := by
  unfold posL
  rw [List.mem_map]
  constructor
  · rintro ⟨x, hx, rfl⟩
    obtain ⟨k, hk, rfl⟩ := List.getElem_of_mem hx
    have := (posN_at n l hk h).1
    rw [ixI_get hk] at this
    rw [show ((l[k].toNat : Nat) : Int) = l[k] by omega]
    exact hx
  · intro hi
    exact ⟨_, hi, by simp⟩
theorem posL_lt {n : Nat} {l : List Int} (h : posB n l = true) : ∀ j ∈ posL l, j < n := by
  intro j hj
  unfold posL at hj
  rw [List.mem_map] at hj
  obtain ⟨x, hx, rfl⟩ := hj
  obtain ⟨k, hk, rfl⟩ := List.getElem_of_mem hx
  have := posN_at n l hk h
  rw [ixI_get hk] at this
  omega
theorem val_erasI (N : Nat) (l : List Int) (z : UInt8) : ∀ k, k ≤ l.length → val (erasI N l k) z = vg N ((posL l).take k) z
  | 0, _ => by rw [erasI, val_one, List.take_zero, vg]
  | k + 1, h => by
    have hk : k < (posL l).length := by rw [posL_length]; omega
    rw [erasI, val_prod, val_erasI N l z k (by omega), List.take_succ_eq_append_getElem hk, vg_append]
    congr 1
    have e : (posL l)[k] = (ixI l k).toNat := by simp only [posL, List.getElem_map]; rw [ixI_get]
    rw [e, vg, vg, mul_one, val_cons, val_one, xor_comm]
    rfl
theorem val_eras (N : Nat) (l : List Int) (z : UInt8) : val (erasI N l l.length) z = vg N (posL l) z := by
  rw [val_erasI N l z _ (Nat.le_refl _), ← posL_length, List.take_length]
theorem eval_xorL {a b : List UInt8} (h : a.length = b.length) (x : UInt8) : eval (xorL a b) x = eval a x ^^^ eval b x := by
  rw [eval_sum, eval_sum, eval_sum, xorL_length h, ← h, ← sumN_xor]
  exact sumN_congr _ fun j _ => by rw [ix_xorL h, xor_mul]
theorem validB_iff (c : List UInt8) (n : Nat) : validB c n = true ↔ shapedB c n = true ∧ ∀ k, k < n → eval c (exp k) = 0 := by
  unfold validB
  rw [Bool.and_eq_true, Int.toNat_natCast, zeroB_synd]
theorem synd_xorL {p c : List UInt8} {n : Nat} (h : p.length = c.length) (hc : ∀ k, k < n → eval c (exp k) = 0) : synd p n = synd (xorL p c) n := by
  unfold synd
  apply List.map_congr_left
  intro k hk
  rw [eval_xorL h, hc k (by simpa using hk), xor_zero]
theorem shapedB_len {a b : List UInt8} (n : Int) (h : a.length = b.length) : shapedB a n = shapedB b n := by unfold shapedB; rw [h]
/-- the positions that differ and are not erased -/
def errL (x c : List UInt8) (l : List Int) (k : Nat) : List Nat := (List.range k).filter fun i => ix x i != ix c i && !cont l (i : Int)
theorem errL_length (x c : List UInt8) (l : List Int) : ∀ k, (errL x c l k).length = othN x c l k
  | 0 => rfl
  | k + 1 => by
    have h := errL_length x c l k
    unfold errL at h ⊢
    rw [List.range_succ, List.filter_append, List.length_append, h, othN]
    congr 1
    by_cases e : ix x k = ix c k
    · simp [e]
    · cases hc : cont l (k : Int) <;> simp [e, hc]
theorem mem_errL (x c : List UInt8) (l : List Int) (k i : Nat) : i ∈ errL x c l k ↔ i < k ∧ ix x i ≠ ix c i ∧ (i : Int) ∉ l := by
  unfold errL
  rw [List.mem_filter, List.mem_range, Bool.and_eq_true, bne_iff_ne, Bool.not_eq_true', Bool.eq_false_iff, ne_eq, ne_eq, cont_iff]
theorem zeroB_ix {q : List UInt8} (h : zeroB q = true) (k : Nat) : ix q k = 0 := by
  by_cases hk : k < q.length
  · have := (List.all_eq_true.1 h) _ (List.getElem_mem hk)
    simpa [ix, hk] using this
  · exact ix_of_le (by omega)
theorem decode_spec (x c : List UInt8) (n : Nat) (l : List Int) (hxc : x.length = c.length) (hc : validB c n = true) (hp : posB x.length l = true) (hl : 2 * othN x c l x.length + l.length ≤ n) : decode x n l = (c, (allN x c x.length : Int), 0) := by
  obtain ⟨hs, hz⟩ := (validB_iff c n).1 hc
  have hsx : shapedB x n = true := by rw [shapedB_len _ hxc]; exact hs
  obtain ⟨g1, g2, g3, g4, g5⟩ := (shapedB_iff x n).1 hsx
  have hel : (xorL x c).length = x.length := xorL_length hxc
  have hE := errL_length x c l x.length
  have hix : ∀ i, ix (xorL x c) i ≠ 0 ↔ ix x i ≠ ix c i := fun i => by
    rw [ix_xorL hxc]
    exact ⟨fun h e => h (by rw [e, xor_self]), fun h e => h (xor_eq_zero e)⟩
  have hout : decOut x n l = c := by
    unfold decOut xi
    have := euclid_correct x c (xorL x c) n (errL x c l x.length) (posL l) (erasI x.length l l.length) hxc hel.symm (fun i => ix_xorL hxc i) (by omega) (by omega) (by omega) (fun j hj => ?_) ?_ (fun j hj => ?_) (fun j hj => ?_) (by rw [posL_length]; omega) (fun z => by rw [val_eras, hel]) (by rw [erasI_length, posL_length]) (synd_xorL hxc hz)
    · rw [posL_length] at this; exact this
    · have h1 := (hix j).1 hj
      have hjl : j < x.length := by
        by_cases h : j < x.length
        · exact h
        · exact absurd (by rw [ix_of_le (by omega), ix_of_le (by omega)]) h1
      rw [List.mem_append]
      by_cases hm : (j : Int) ∈ l
      · exact .inr ((mem_posL hp j).2 hm)
      · exact .inl ((mem_errL x c l _ j).2 ⟨hjl, h1, hm⟩)
    · rw [List.nodup_append]
      refine ⟨List.Nodup.sublist List.filter_sublist List.nodup_range, posL_nodup hp, fun a ha b hb hab => ?_⟩
      subst hab
      exact ((mem_errL x c l _ a).1 ha).2.2 ((mem_posL hp a).1 hb)
    · rw [hel]
      rcases List.mem_append.1 hj with h | h
      · exact ((mem_errL x c l _ j).1 h).1
      · exact posL_lt hp j h
    · exact (hix j).2 ((mem_errL x c l _ j).1 hj).2.1
  unfold decode
  rw [if_neg (by simp [hsx]), if_neg (by simp [hp]), if_neg (by omega), Int.toNat_natCast]
  by_cases hzz : l = [] ∧ zeroB (xi x n l) = true
  · obtain ⟨rfl, hz0⟩ := hzz
    rw [if_pos ⟨rfl, hz0⟩]
    -- the word is a codeword itself
    have hxi : xi x n [] = (prod (synd x n) [1]).take n := rfl
    have hpr : ∀ k, k < n → ix (prod (synd x n) [1]) k = ix (synd x n) k := fun k hk => by
      apply coef_eq
      · have : (prod (synd x n) [1]).length ≤ (synd x n).length + 1 := by
          unfold prod; split
          · simp
          · rw [addRows_length]; simp
        rw [synd_length] at this; omega
      · rw [synd_length]; omega
      · intro z; rw [val_prod, val_one, mul_one]
    have hx0 : ∀ k, k < n → eval x (exp k) = 0 := fun k hk => by
      rw [← ix_synd x n k hk, ← hpr k hk]
      rw [hxi] at hz0
      have h2 : ix ((prod (synd x n) [1]).take n) k = ix (prod (synd x n) [1]) k := by unfold ix; rw [List.getD_eq_getElem?_getD, List.getD_eq_getElem?_getD, List.getElem?_take, if_pos hk]
      rw [← h2]
      exact zeroB_ix hz0 k
    have hall : allN x c x.length = othN x c [] x.length := by
      have : ∀ k, allN x c k = othN x c [] k := fun k => by
        induction k with
        | zero => rfl
        | succ k ih => rw [allN, othN, ih]; simp [cont]
      exact this _
    have hzero := few_zero (xorL x c) n (by omega) (fun k hk => by rw [eval_xorL hxc, hx0 k hk, hz k hk, xor_self]) (by rw [hel, ← allN_supp x c hxc, hall]; omega)
    have hxe : x = c := ext_ix hxc fun i _ => by
      have := hzero i
      rw [ix_xorL hxc] at this
      exact xor_eq_zero this
    subst hxe
    have h0 : ∀ k, allN x x k = 0 := fun k => by
      induction k with
      | zero => rfl
      | succ k ih => rw [allN, ih, if_pos rfl]
    rw [h0]; rfl
  · rw [if_neg hzz, hout, if_pos ⟨hc, hl⟩]
theorem decOut_length (p : List UInt8) (n : Nat) (l : List Int) : (decOut p n l).length = p.length := by unfold decOut; rw [repair_length]
theorem decode_bad2 (x : List UInt8) (n : Int) (l : List Int) (h : (decode x n l).2.2 ≠ 0) : (decode x n l).1 = [] ∧ (decode x n l).2.1 = 0 := by
  unfold decode at h ⊢
  split at h
  · next h1 => rw [if_pos h1]; exact ⟨rfl, rfl⟩
  next h1 =>
  split at h
  · next h2 => rw [if_neg h1, if_pos h2]; exact ⟨rfl, rfl⟩
  next h2 =>
  split at h
  · next h3 => rw [if_neg h1, if_neg h2, if_pos h3]; exact ⟨rfl, rfl⟩
  next h3 =>
  split at h
  · exact absurd rfl h
  next h4 =>
  split at h
  · exact absurd rfl h
  next h5 =>
  rw [if_neg h1, if_neg h2, if_neg h3, if_neg h4, if_neg h5]; exact ⟨rfl, rfl⟩
/-- what 'Decode' returns without an error -/
theorem decode_sound (x : List UInt8) (n : Int) (l : List Int) (h : (decode x n l).2.2 = 0) : ∃ m : Nat, n = m ∧ (decode x n l).1.length = x.length ∧ validB (decode x n l).1 n = true ∧ posB x.length l = true ∧
    2 * othN x (decode x n l).1 l x.length + l.length ≤ m ∧ (decode x n l).2.1 = allN x (decode x n l).1 x.length := by
  unfold decode at h ⊢
  split at h
  · simp at h
  next h1 =>
  split at h
  · simp at h
  next h2 =>
  split at h
  · simp at h
  next h3 =>
  have hs : shapedB x n = true := by simpa using h1
  have hps : posB x.length l = true := by simpa using h2
  obtain ⟨g1, g2, g3, g4, g5⟩ := (shapedB_iff x n).1 hs
  obtain ⟨m, rfl⟩ : ∃ m : Nat, n = m := ⟨n.toNat, by omega⟩
  split at h
  · next h4 =>
    rw [if_neg h1, if_neg h2, if_neg h3, if_pos h4]
    obtain ⟨rfl, hz⟩ := h4
    have h0 : ∀ k, allN x x k = 0 := fun k => by
      induction k with
      | zero => rfl
      | succ k ih => rw [allN, ih, if_pos rfl]
    have h0' : ∀ k, othN x x [] k = 0 := fun k => by
      induction k with
      | zero => rfl
      | succ k ih => rw [othN, ih, if_pos rfl]
    refine ⟨m, rfl, rfl, ?_, hps, by rw [h0']; simp, by rw [h0]; rfl⟩
    rw [validB_iff]
    refine ⟨hs, fun k hk => ?_⟩
    rw [Int.toNat_natCast] at hz
    have hpr : ix (prod (synd x m) [1]) k = ix (synd x m) k := by
      apply coef_eq
      · have : (prod (synd x m) [1]).length ≤ (synd x m).length + 1 := by
          unfold prod; split
          · simp
          · rw [addRows_length]; simp
        rw [synd_length] at this; omega
      · rw [synd_length]; omega
      · intro z; rw [val_prod, val_one, mul_one]
    rw [← ix_synd x m k hk, ← hpr]
    have h2 : ix (xi x m []) k = ix (prod (synd x m) [1]) k := by
      show ix ((prod (synd x m) [1]).take m) k = _
      unfold ix; rw [List.getD_eq_getElem?_getD, List.getD_eq_getElem?_getD, List.getElem?_take, if_pos hk]
    rw [← h2]
    exact zeroB_ix hz k
  next h4 =>
  split at h
  · next h5 =>
    rw [if_neg h1, if_neg h2, if_neg h3, if_neg h4, if_pos h5]
    rw [Int.toNat_natCast] at h5 ⊢
    exact ⟨m, rfl, decOut_length _ _ _, h5.1, hps, h5.2, rfl⟩
  · simp at h
end Go.Proofs.YtflmjdjkfognjaaGreat.G
