/- Parts: XOwn XScal XProd -/
import Derived.Test.YtflmjdjkfognjaaGreatTe05
import Derived.Test.YtflmjdjkfognjaaGreatChecked
import Derived.Test.YtflmjdjkfognjaaGreatTe00
namespace Go.Proofs.YtflmjdjkfognjaaGreat
open Go.RowKit
set_option linter.unusedVariables false
def atD {α : Type} (d : α) (l : List α) (i : Nat) : α := (l[i]?).getD d
def flD {α : Type} (D : α → List Value) (l : List α) : List Value := l.flatMap D
def RdD {α : Type} (d : α) (D : α → List Value) (sz : Nat) (w : World) (v : Value) (l : List α) : Prop := RdS w sz v l.length fun i => D (atD d l i)
section
variable {α : Type} {d : α} {D : α → List Value} {sz : Nat}
theorem atD_set_eq (l : List α) (x : α) (k : Nat) (h : k < l.length) : atD d (l.set k x) k = x := by simp [atD, h]
theorem atD_set_ne (l : List α) (x : α) (i k : Nat) (h : i ≠ k) : atD d (l.set k x) i = atD d l i := by simp [atD, List.getElem?_set_ne (Ne.symm h)]
theorem atD_mem {l : List α} {i : Nat} (h : i < l.length) : atD d l i ∈ l := by simp [atD, h]
theorem flD_eq (d : α) (l : List α) : (List.range l.length).flatMap (fun i => D (atD d l i)) = flD D l := by
  unfold flD
  have h : l = (List.range l.length).map (atD d l) := by
    apply List.ext_getElem
    · simp
    · intro i h1 h2
      simp [atD, h1]
  conv => rhs; rw [h]
  rw [List.flatMap_map]
theorem flD_append (l m : List α) : flD D (l ++ m) = flD D l ++ flD D m := by simp [flD]
theorem flD_single (x : α) : flD D [x] = D x := by simp [flD]
theorem flD_one (h : ∀ x, ∀ u ∈ D x, u.oneCell' = true) (l : List α) : ∀ u ∈ flD D l, u.oneCell' = true := by
  intro u hu
  simp only [flD, List.mem_flatMap] at hu
  obtain ⟨x, _, hu⟩ := hu
  exact h x u hu
theorem flD_length (hD : ∀ x, (D x).length = sz) (l : List α) : (flD D l).length = l.length * sz := by
  induction l with
  | nil => simp [flD]
  | cons x l ih =>
    have e : flD D (x :: l) = D x ++ flD D l := by simp [flD]
    rw [e, List.length_append, ih, hD, List.length_cons, Nat.succ_mul]; omega
theorem flD_get (hD : ∀ x, (D x).length = sz) (l : List α) (i j : Nat) (hi : i < l.length) (hj : j < sz) : (flD D l)[i * sz + j]? = (D (atD d l i))[j]? := by
  rw [← flD_eq d]; exact get_flat (fun _ => hD _) _ i j hi hj
theorem flD_set (hD : ∀ x, (D x).length = sz) (l : List α) (i j : Nat) (hi : i < l.length) (hj : j < sz) (v : Value) (x : α) (hx : D x = (D (atD d l i)).set j v) : (flD D l).set (i * sz + j) v = flD D (l.set i x) := by
  have hl : (l.set i x).length = l.length := by simp
  have hs : 0 < sz := by omega
  have hij : i * sz + j < l.length * sz := by
    have : (i + 1) * sz ≤ l.length * sz := Nat.mul_le_mul_right _ hi
    rw [Nat.succ_mul] at this; omega
  apply List.ext_getElem?
  intro k
  by_cases hk : k < l.length * sz
  · have e : k / sz * sz + k % sz = k := by rw [Nat.mul_comm]; exact Nat.div_add_mod k sz
    have hki : k / sz < l.length := Nat.div_lt_of_lt_mul (by rw [Nat.mul_comm]; exact hk)
    have hkj : k % sz < sz := Nat.mod_lt _ hs
    have h2 := flD_get (d := d) hD (l.set i x) (k / sz) (k % sz) (by rw [hl]; exact hki) hkj
    rw [e] at h2
    rw [h2, List.getElem?_set]
    by_cases h : i * sz + j = k
    · rw [if_pos h, if_pos (by rw [flD_length hD]; exact hij)]
      have h3 : k / sz = i := by rw [← h, Nat.mul_comm, Nat.mul_add_div hs, Nat.div_eq_of_lt hj, Nat.add_zero]
      have h4 : k % sz = j := by rw [← h, Nat.mul_comm, Nat.mul_add_mod, Nat.mod_eq_of_lt hj]
      rw [h3, h4, atD_set_eq _ _ _ hi, hx, List.getElem?_set, if_pos rfl, if_pos (by rw [hD]; exact hj)]
    · rw [if_neg h]
      have h1 := flD_get (d := d) hD l (k / sz) (k % sz) hki hkj
      rw [e] at h1
      rw [h1]
      by_cases h5 : k / sz = i
      · have h6 : j ≠ k % sz := fun h7 => h (by rw [h7, ← h5]; exact e)
        rw [h5, atD_set_eq _ _ _ hi, hx, List.getElem?_set, if_neg h6]
      · rw [atD_set_ne _ _ _ _ h5]
  · rw [List.getElem?_eq_none (by rw [List.length_set, flD_length hD]; omega), List.getElem?_eq_none (by rw [flD_length hD, hl]; omega)]
variable {w w' : World} {v : Value} {l : List α} {base e : Nat}
theorem RdD.form (h : RdD d D sz w v l) : ∃ a c, v = .slice a l.length c ∧ l.length ≤ c := RdS.form h
theorem RdD.keep (h : RdD d D sz w v l) (hb : Below w.heap.size w w') : RdD d D sz w' v l := RdS.keep h hb
theorem RdD.nil (w : World) : RdD d D sz w (.slice none 0 0) [] := RdS.nil _ _ _
theorem RdD.ofOwn (hD : ∀ x, (D x).length = sz) (h : w.ownsRow base e sz v l.length (flD D l)) : RdD d D sz w v l := by
  rw [← flD_eq d] at h
  exact RdS.ofOwn (fun _ => hD _) h
theorem RdD.reads (hD : ∀ x, (D x).length = sz) (h : RdD d D sz w v l) : Reads w sz v l.length (flD D l) := by
  have := RdS.reads (fun _ => hD _) h
  rwa [flD_eq] at this
theorem RdD.at {a : Option Addr} {n c : Nat} (h : RdD d D sz w (.slice a n c) l) : ∃ b off, ∀ i, i < l.length → a = some ⟨b, off, none⟩ ∧ w.rangeAt b (off + i * sz) (D (atD d l i)) := by
  obtain ⟨a', c', b, off, hv, _, hcell⟩ := h
  injection hv with e1 e2 e3
  subst e1
  exact ⟨b, off, hcell⟩
theorem ownD_addr {n : Nat} {xs : List Value} (h : w.ownsRow base e sz v n xs) (hn : 0 < n) : ∃ g c, v = .slice (some ⟨g, 0, none⟩) n c ∧ base ≤ g ∧ g < w.heap.size := by
  rcases h.2 with ⟨_, h0⟩ | ⟨g, cap, cur, hv, hb, hg, _⟩
  · omega
  · exact ⟨g, cap, hv, hb, (Array.getElem?_eq_some_iff.1 hg).1⟩
theorem ownD_form {n : Nat} {xs : List Value} (h : w.ownsRow base e sz v n xs) : ∃ a c, v = .slice a n c := by
  rcases h.2 with ⟨rfl, h0⟩ | ⟨g, cap, cur, hv, hb, hg, _⟩
  · exact ⟨none, 0, by rw [h0]⟩
  · exact ⟨_, cap, hv⟩
theorem ownD_cells (hD : ∀ x, (D x).length = sz) {g n c : Nat} (h : w.ownsRow base e sz (.slice (some ⟨g, 0, none⟩) n c) n (flD D l)) (i : Nat) (hi : i < l.length) : w.rangeAt g (i * sz) (D (atD d l i)) := fun j u hu => by
  have hj : j < sz := by have := (List.getElem?_eq_some_iff.1 hu).1; rwa [hD] at this
  have hn : l.length * sz = n * sz := by have := h.1; rw [flD_length hD] at this; exact this
  have hij : i * sz + j < l.length * sz := by
    have : (i + 1) * sz ≤ l.length * sz := Nat.mul_le_mul_right _ hi
    rw [Nat.succ_mul] at this; omega
  rw [h.cellAt (i * sz + j) (by omega), flD_get (d := d) hD l i j hi hj]; exact hu
theorem ownD_fld (hD : ∀ x, (D x).length = sz) {g n c : Nat} (h : w.ownsRow base e sz (.slice (some ⟨g, 0, none⟩) n c) n (flD D l)) (i j : Nat) (hi : i < l.length) (hj : j < sz) (u : Value) (x : α) (hx : D x = (D (atD d l i)).set j u) :
    (w.setCell ⟨g, i * sz + j, none⟩ u).ownsRow base e sz (.slice (some ⟨g, 0, none⟩) n c) n (flD D (l.set i x)) := by
  have := (h.stored (i * sz + j) u).1
  rwa [flD_set hD l i j hi hj u x hx] at this
theorem ownD_far {n : Nat} {xs : List Value} (h : w.ownsRow base e sz v n xs) {p : Addr} (hp : p.block < base) (u : Value) : (w.setCell p u).ownsRow base e sz v n xs := by
  refine ⟨h.1, ?_⟩
  rcases h.2 with h | ⟨g, cap, cur, hv, hg, hh, r⟩
  · exact .inl h
  · exact .inr ⟨g, cap, cur, hv, hg, (Below.heap_setCell w p u g (by omega)).trans hh, r⟩
theorem ownD_keep {n : Nat} {xs : List Value} (h : w.ownsRow base e sz v n xs) (hb : Below w.heap.size w w') : w'.ownsRow base e sz v n xs := by
  refine ⟨h.1, ?_⟩
  rcases h.2 with h | ⟨g, cap, cur, hv, hg, hh, r⟩
  · exact .inl h
  · exact .inr ⟨g, cap, cur, hv, hg, (hb.block g (Array.getElem?_eq_some_iff.1 hh).1).trans hh, r⟩
theorem ownD_block {n : Nat} {xs : List Value} (h : w.ownsRow base e sz v n xs) : ∀ k, v.ownBlock = some k → base ≤ k := by
  intro k hk
  rcases h.2 with ⟨rfl, _⟩ | ⟨g, cap, cur, rfl, hb, _⟩
  · simp [Value.ownBlock] at hk
  · have : g = k := by simpa [Value.ownBlock] using hk
    omega
theorem ownD_lt {n : Nat} {xs : List Value} (h : w.ownsRow base e sz v n xs) : ∀ k, v.ownBlock = some k → k < w.heap.size := by
  intro k hk
  rcases h.2 with ⟨rfl, _⟩ | ⟨g, cap, cur, rfl, hb, hg, _⟩
  · simp [Value.ownBlock] at hk
  · have : g = k := by simpa [Value.ownBlock] using hk
    exact this ▸ (Array.getElem?_eq_some_iff.1 hg).1
theorem RdD.one (hs : 0 < sz) (hD : ∀ x, (D x).length = sz) (W : World) (t : TypeId) (y : α) : RdD d D sz (W.alloc (.cells (D y).toArray t)) (.slice (some ⟨W.heap.size, 0, none⟩) 1 1) [y] := by
  refine ⟨some ⟨W.heap.size, 0, none⟩, 1, W.heap.size, 0, rfl, Nat.le_refl _, fun i hi => ⟨rfl, fun j u hu => ?_⟩⟩
  obtain rfl : i = 0 := by simp at hi; omega
  replace hu : (D y)[j]? = some u := hu
  simp only [Nat.zero_mul, Nat.zero_add]
  exact (Bx.new W t (D y)).cell hu
theorem wpList_appD {P : Program} {ops : Array Oper} {rest : List Oper} {o : Oper} {a : Act} {Q : Exit → Act → World → Prop} (hg : o.guard = none) (s x : Operand) {t : TypeId}
    (hop : o.op = .call { callee := .builtin .append, args := #[s, x], argTypes := #[t, t] }) {e : TypeId} {z : Value} {bytes : Nat} (ht : P.underlying t = some (.slice e))
    (hi : (P.info? e).map (fun i => (i.zero, i.size, i.bytes)) = some (some z, sz, bytes)) (hzs : z.cells.size = sz) (hs0 : 0 < sz) (hD : ∀ x, (D x).length = sz) (hone : ∀ x, ∀ u ∈ D x, u.oneCell' = true)
    {n : Nat} (hown : w.ownsRow base e sz v n (flD D l)) (hv : a.eval s = v) {vs : Value} {m : List α} (hs : RdD d D sz w vs m) (hx : a.eval x = vs)
    (h63 : n + m.length ≤ maxLen) (hbytes : (n + m.length) * bytes ≤ 140737488355328) (hbase : base ≤ w.heap.size)
    (hK : ∀ v' w', w'.ownsRow base e sz v' (n + m.length) (flD D (l ++ m)) → w.grownBy w' v.ownBlock → wpList P ops Q rest (a.put o.dst v') w') : wpList P ops Q (o :: rest) a w := by
  obtain ⟨i0, hi, hz0, hz1, hz2⟩ := info_parts hi
  refine wpList_app hg s x hop ht hi hz0 hz1 hz2 hzs hs0 hown hv (hs.reads hD) hx (flD_one hone m) h63 hbytes hbase fun v' w' g1 g2 g3 => ?_
  rw [← flD_append] at g1
  exact hK v' w' g1 g2
end
end Go.Proofs.YtflmjdjkfognjaaGreat
namespace Go.Proofs.YtflmjdjkfognjaaGreat
open Go.RowKit
set_option linter.unusedVariables false
set_option maxRecDepth 100000 in
theorem double_any (a : Nat) (w : World) (ha : a < 256) :
    Calls Tryz.prog 229 #[.int .u8 a] w fun e w' => e = .returned (.int .u8 (Gf.dbl a : Nat)) ∧ w = w' := by
  by_cases h : 128 ≤ a
  · go_enter Tryz.func229, Tryz.ntmps229
    go_wp2_with fail
    go_ret
    refine ⟨retI ((int_xor (2 * a - 256) 29 (by omega) rfl (by omega) (by omega)).trans ?_), rfl⟩
    rw [Gf.dbl, if_pos h]
  · go_enter Tryz.func229, Tryz.ntmps229
    go_wp2_with fail
    go_ret
    refine ⟨retI ?_, rfl⟩
    rw [Gf.dbl, if_neg h]
    omega
set_option maxRecDepth 100000 in
theorem mul_any (a b : Nat) (w : World) (ha : a < 256) (hb : b < 256) :
    Calls Tryz.prog 201 #[.int .u8 a, .int .u8 b] w fun e w' => e = .returned (.int .u8 (Gf.mul a b : Nat)) ∧ w = w' := by
  go_enter Tryz.func201, Tryz.ntmps201
  go_wp2_with fail
  go_loop [0, 1, 5] (fun va vb vo => ∃ k x y o : Nat, k ≤ 8 ∧ x < 256 ∧ y < 2 ^ k ∧ o < 256 ∧ va = .int .u8 x ∧ vb = .int .u8 y ∧ vo = .int .u8 o ∧ o ^^^ Gf.mulN k x y = Gf.mul a b) (fun _ vb _ => (intOf vb).toNat)
  case atStart => exact ⟨8, a, b, 0, by omega, ha, hb, by omega, rfl, rfl, rfl, by simp [Gf.mul]⟩
  case round =>
    obtain ⟨k, x, y, o, hk, hx, hy, ho, rfl, rfl, rfl, hm⟩ := hrel
    have hy8 : y < 256 := Nat.lt_of_lt_of_le hy (Nat.pow_le_pow_right (by omega) hk : 2 ^ k ≤ 2 ^ 8)
    have Hm := Lib.hid hm; clear hm
    have Hy := Lib.hid hy; clear hy
    by_cases h0 : y = 0
    · subst h0
      go_wp2_with fail
      go_ret
      refine ⟨retI ?_, rfl⟩
      rw [← Hm.out, Gf.mulN_zero_right, Nat.xor_zero]
    · obtain ⟨j, rfl⟩ : ∃ j, k = j + 1 := ⟨k - 1, by
        rcases k with _ | k
        · have := Hy.out; simp at this; omega
        · rfl⟩
      have Hj : Hid (y / 2 < 2 ^ j) := Lib.hid (by have := Hy.out; rw [Nat.pow_succ] at this; omega)
      have Ha := Lib.hid (and_one y hy8)
      have hn : ((y : Int) != 0) = true := by rw [bne_iff_ne]; omega
      by_cases h1 : y % 2 = 1
      · have hb1 : (bits .and .u8 (y : Int) 1 == 1) = true := by rw [Ha.out, h1]; rfl
        go_wp2_with (go_at_call 229; refine (double_any _ _ hx).mono ?_; rintro e w' ⟨rfl, rfl⟩)
        go_round
        case rel =>
          refine ⟨j, Gf.dbl x, y / 2, o ^^^ x, by omega, Gf.dbl_lt hx, Hj.out, Gf.xor_lt ho hx, rfl, by simp, ?_, ?_⟩
          · rw [int_xor o x rfl rfl ho hx]
          · rw [← Hm.out, Gf.mulN, if_pos h1, Nat.xor_assoc]
        case measure => simp [intOf]; omega
      · have hb1 : (bits .and .u8 (y : Int) 1 == 1) = false := by rw [Ha.out, beq_eq_false_iff_ne]; omega
        go_wp2_with (go_at_call 229; refine (double_any _ _ hx).mono ?_; rintro e w' ⟨rfl, rfl⟩)
        go_round
        case rel =>
          refine ⟨j, Gf.dbl x, y / 2, o, by omega, Gf.dbl_lt hx, Hj.out, ho, rfl, by simp, rfl, ?_⟩
          rw [← Hm.out, Gf.mulN, if_neg h1, Nat.zero_xor]
        case measure => simp [intOf]; omega
theorem mul_at (x y : Int) (a b : Nat) (w : World) (hx : x = a) (hy : y = b) (ha : a < 256) (hb : b < 256) :
    Calls Tryz.prog 201 #[.int .u8 x, .int .u8 y] w fun e w' => e = .returned (.int .u8 (Gf.mul a b : Nat)) ∧ w = w' := by
  subst hx hy; exact mul_any a b w ha hb
def ex (n : Int) : Nat := (n % 255).toNat
theorem ex_lt (n : Int) : ex n < 255 := by unfold ex; omega
theorem tmod_b (n : Int) : -255 < n.tmod 255 ∧ n.tmod 255 < 255 :=
  ⟨Int.lt_tmod_of_pos n (by omega), Int.tmod_lt_of_pos n (by omega)⟩
theorem tmod_neg (n : Int) (h : n.tmod 255 < 0) : n.tmod 255 + 255 = ex n := by
  have h1 := Int.mul_tdiv_add_tmod n 255
  have h2 := tmod_b n
  unfold ex
  omega
theorem tmod_pos (n : Int) (h : 0 ≤ n.tmod 255) : n.tmod 255 = ex n := by
  have h1 := Int.mul_tdiv_add_tmod n 255
  have h2 := tmod_b n
  unfold ex
  omega
theorem iter_succ (n : Nat) : ∀ a, Gf.iter (n + 1) a = Gf.dbl (Gf.iter n a) := by
  induction n with
  | zero => intro a; rfl
  | succ n ih => intro a; exact ih (Gf.dbl a)
theorem exp_succ (n : Nat) : Gf.exp (n + 1) = Gf.dbl (Gf.exp n) := iter_succ n 1
set_option maxRecDepth 100000 in
theorem exp_any (n : Int) (w : World) (h1 : -9223372036854775808 ≤ n) (h2 : n ≤ 9223372036854775807) :
    Calls Tryz.prog 198 #[.int .i64 n] w fun e w' => e = .returned (.int .u8 (Gf.exp (ex n) : Nat)) ∧ w = w' := by
  obtain ⟨hb1, hb2⟩ := tmod_b n
  have He := ex_lt n
  by_cases h : n.tmod 255 < 0
  · obtain ⟨m, hm⟩ : ∃ m, m = n.tmod 255 := ⟨_, rfl⟩
    have Hn : Hid (n.tmod 255 + 255 = ex n) := Lib.hid (tmod_neg n h)
    go_enter Tryz.func198, Tryz.ntmps198
    go_wp2_with fail
    rw [Hn.out]
    go_loop [3, 11] (fun va vi => ∃ k : Nat, k ≤ ex n ∧ vi = .int .i64 k ∧ va = .int .u8 (Gf.exp k : Nat)) (fun _ vi => ex n - (intOf vi).toNat)
    case atStart => exact ⟨0, by omega, rfl, rfl⟩
    case round =>
      obtain ⟨k, hk, rfl, rfl⟩ := hrel
      have Hs := Lib.hid (exp_succ k)
      by_cases hlt : k < ex n
      · go_wp2_with (go_at_call 229; refine (double_any _ _ (Gf.exp_lt k)).mono ?_; rintro e w' ⟨rfl, rfl⟩)
        go_round
        case rel => exact ⟨k + 1, by omega, by go_num, by rw [Hs.out]⟩
        case measure => simp [intOf]; omega
      · go_wp2_with fail
        go_ret
        exact ⟨retI (by rw [show k = ex n by omega]), rfl⟩
  · have h' : 0 ≤ n.tmod 255 := by omega
    have Hn : Hid (n.tmod 255 = ex n) := Lib.hid (tmod_pos n h')
    go_enter Tryz.func198, Tryz.ntmps198
    go_wp2_with fail
    rw [Hn.out]
    go_loop [3, 11] (fun va vi => ∃ k : Nat, k ≤ ex n ∧ vi = .int .i64 k ∧ va = .int .u8 (Gf.exp k : Nat)) (fun _ vi => ex n - (intOf vi).toNat)
    case atStart => exact ⟨0, by omega, rfl, rfl⟩
    case round =>
      obtain ⟨k, hk, rfl, rfl⟩ := hrel
      have Hs := Lib.hid (exp_succ k)
      by_cases hlt : k < ex n
      · go_wp2_with (go_at_call 229; refine (double_any _ _ (Gf.exp_lt k)).mono ?_; rintro e w' ⟨rfl, rfl⟩)
        go_round
        case rel => exact ⟨k + 1, by omega, by go_num, by rw [Hs.out]⟩
        case measure => simp [intOf]; omega
      · go_wp2_with fail
        go_ret
        exact ⟨retI (by rw [show k = ex n by omega]), rfl⟩
def zrow : Array Value := Array.replicate 255 (.int .u8 0)
def pw : Nat → Array Value
  | 0 => zrow
  | k + 1 => (pw k).setIfInBounds k (.int .u8 (Gf.exp k : Nat))
theorem pw_size (k : Nat) : (pw k).size = 255 := by
  induction k with
  | zero => simp [pw, zrow]
  | succ k ih => simp [pw, ih]
theorem pw_get (k : Nat) : ∀ i, i < k → k ≤ 255 → (pw k)[i]? = some (.int .u8 (Gf.exp i : Nat)) := by
  induction k with
  | zero => intro i h; omega
  | succ k ih =>
    intro i h hk
    simp only [pw]
    by_cases e : i = k
    · subst e
      rw [Array.getElem?_setIfInBounds_self_of_lt (by rw [pw_size]; omega)]
    · rw [Array.getElem?_setIfInBounds_ne (by omega)]
      exact ih i (by omega) (by omega)
theorem pw_some (k i : Nat) (h : i < 255) : ∃ v, (pw k)[i]? = some v := by
  have : i < (pw k).size := by rw [pw_size]; exact h
  exact ⟨_, Array.getElem?_eq_getElem this⟩
theorem pw_one (k : Nat) : ∀ v ∈ (pw k), v.oneCell' = true := by
  induction k with
  | zero => intro v hv; simp [pw, zrow] at hv; subst hv; rfl
  | succ k ih =>
    intro v hv
    rcases Array.mem_or_eq_of_mem_setIfInBounds hv with h | h
    · exact ih v h
    · subst h; rfl
theorem zero_row : ∀ w, (zeroValue 335).run Tryz.prog w = .ok (.agg zrow) w := fun _ => by kernel_rfl
set_option maxRecDepth 100000 in
set_option maxHeartbeats 1000000 in
theorem powers_any (w : World) :
    Calls Tryz.prog 251 #[] w fun e w' => e = .returned (.agg (pw 255)) ∧ Below w.heap.size w w' := by
  have hz := zero_row
  go_enter Tryz.func251, Tryz.ntmps251
  go_wp2_with fail
  have h0 : ((w.alloc (.cells zrow 335)).alloc (.cells zrow 335)).heap[w.heap.size]? = some (.cells (pw 0) 335) := heap_alloc2_old _ _ _
  have h1 : ((w.alloc (.cells zrow 335)).alloc (.cells zrow 335)).heap[w.heap.size + 1]? = some (.cells (pw 0) 335) := heap_alloc2_new _ _ _
  have h2 : Below w.heap.size w ((w.alloc (.cells zrow 335)).alloc (.cells zrow 335)) := ((Below.refl _ _).alloc (Nat.le_refl _) _).alloc (by simp) _
  generalize (w.alloc (.cells zrow 335)).alloc (.cells zrow 335) = w1 at h0 h1 h2 ⊢
  clear hz
  go_loopw [2, 3, 4] (fun va vi vk wr => ∃ k : Nat, k ≤ 255 ∧ va = .int .u8 (Gf.exp k : Nat) ∧ vk = .int .i64 k ∧ wr.heap[w.heap.size]? = some (.cells zrow 335) ∧ wr.heap[w.heap.size + 1]? = some (.cells (pw k) 335) ∧ Below w.heap.size w wr) (fun _ _ vk _ => 255 - (intOf vk).toNat)
  case atStart => exact ⟨0, by omega, rfl, rfl, h0, h1, h2⟩
  case round =>
    obtain ⟨k, hk, rfl, rfl, g0, g1, g2⟩ := hrel
    clear h0 h1 h2
    have Hs := Lib.hid (exp_succ k)
    by_cases hlt : k < 255
    · obtain ⟨v, hv⟩ := pw_some k k hlt
      have hc : wr.cell? ⟨w.heap.size + 1, k, none⟩ = some v := by rw [cell_of_row wr _ k _ _ _ g1]; exact hv
      have hf := frozen_of_row wr _ k _ _ g1
      clear hv
      have G0 := Lib.hid g0; have G1 := Lib.hid g1; clear g0 g1
      go_wp2_with (go_at_call 229; refine (double_any _ _ (Gf.exp_lt k)).mono ?_; rintro e w' ⟨rfl, rfl⟩)
      go_roundw
      case rel =>
        refine ⟨k + 1, by omega, by rw [Hs.out], by go_num, ?_, ?_, g2.setCell (by simp) _⟩
        · rw [heap_setCell_other _ _ _ _ (by simp)]; exact G0.out
        · exact heap_setCell_same _ _ _ _ _ _ G1.out
      case measure => simp [intOf]; omega
    · obtain rfl : k = 255 := by omega
      have G0 := Lib.hid g0; have G1 := Lib.hid g1; clear g0 g1
      have hi : (Tryz.prog.info? 335).map (·.size) = some (pw 255).size := by rw [pw_size]; kernel_rfl
      have h1 : (pw 255).all (·.oneCell') = true := Array.all_eq_true_iff_forall_mem.2 (pw_one 255)
      go_wp2_with (first | (refine wpList_load_row rfl 335 _ rfl _ rfl 335 _ _ _ G1.out Tryz.underlying335 rfl hi ?_) | (refine wpList_store_row rfl 335 _ _ rfl w.heap.size (pw 255) rfl rfl 335 _ G0.out hi (by simp [zrow, pw_size]) h1 ?_))
      exact bodyPost_ret (v := .agg (pw 255)) (results_cell_row rfl _ _ w.heap.size 335 (pw 255) (0, 0) _ rfl (setRow_heap _ _ _ _ _ _ G0.out) Tryz.underlying335 rfl hi) rfl ⟨rfl, Below.setRow g2 (Nat.le_refl _) _⟩
def logV (a : Nat) : Value := .tuple #[.int .i64 ((if a = 0 then 0 else Gf.log a : Nat) : Int), .int .i64 (if a = 0 then 1 else 0)]
set_option maxRecDepth 100000 in
set_option maxHeartbeats 1000000 in
theorem log_any (a : Nat) (w : World) (ha : a < 256) :
    Calls Tryz.prog 230 #[.int .u8 a] w fun e w' => e = .returned (logV a) ∧ Below w.heap.size w w' := by
  go_enter Tryz.func230, Tryz.ntmps230
  go_wp2_with fail
  refine (powers_any _).mono ?_
  rintro e w1 ⟨rfl, hb⟩
  generalize hP : pw 255 = p255
  have HP := Lib.hid hP; clear hP
  go_wp2_with fail
  go_loop [4, 5, 7] (fun _ _ vk => ∃ k : Nat, k ≤ 255 ∧ vk = .int .i64 k ∧ Hid (∀ i, i < k → Gf.exp i ≠ a)) (fun _ _ vk => 255 - (intOf vk).toNat)
  case atStart => exact ⟨0, by omega, rfl, Lib.hid (fun i h => by omega)⟩
  case round =>
    obtain ⟨k, hk, rfl, hno⟩ := hrel
    by_cases hlt : k < 255
    · have hg : Sem.run Tryz.prog (Instr.index 335 (.agg p255) (.int .i64 k)) w1 = .ok (.int .u8 (Gf.exp k : Nat)) w1 :=
        run_index_agg w1 Tryz.underlying335 Tryz.underlying5 rfl (by kernel_rfl) p255 k hlt _ (by rw [← HP.out]; exact pw_get 255 k hlt (by omega))
      have Hl := Lib.hid (Gf.log_exp hlt)
      have Hz := Lib.hid (Gf.exp_ne_zero k)
      by_cases he : Gf.exp k = a
      · have ht : (((Gf.exp k : Nat) : Int) == (a : Int)) = true := by rw [he]; simp
        have He := Lib.hid he; clear he
        go_wp2_with fail
        go_ret2
        refine ⟨?_, hb⟩
        rw [← He.out]
        simp [logV, Hz.out, Hl.out]
      · have ht : (((Gf.exp k : Nat) : Int) == (a : Int)) = false := by rw [beq_eq_false_iff_ne]; omega
        have He := Lib.hid he; clear he
        go_wp2_with fail
        go_round
        case rel =>
          refine ⟨k + 1, by omega, by go_num, Lib.hid fun i hi => ?_⟩
          by_cases e : i = k
          · rw [e]; exact He.out
          · exact hno.out i (by omega)
        case measure => simp [intOf]; omega
    · obtain rfl : k = 255 := by omega
      have h0 : a = 0 := by
        by_cases h0 : a = 0
        · exact h0
        · obtain ⟨h1, h2⟩ := Gf.exp_log ha h0
          exact (hno.out _ h1 h2).elim
      have H0 := Lib.hid h0; clear h0
      go_wp2_with fail
      go_ret2
      refine ⟨?_, hb⟩
      rw [H0.out]; rfl
def invV (a : Nat) : Value := .tuple #[.int .u8 (Gf.inv a : Nat), .int .i64 (if a = 0 then 1 else 0)]
theorem logV_zero : logV 0 = .tuple #[.int .i64 0, .int .i64 1] := rfl
theorem logV_ne {a : Nat} (h : a ≠ 0) : logV a = .tuple #[.int .i64 (Gf.log a : Nat), .int .i64 0] := by simp [logV, h]
theorem invV_ne {a : Nat} (h : a ≠ 0) : invV a = .tuple #[.int .u8 (Gf.inv a : Nat), .int .i64 0] := by simp [invV, h]
theorem exp_at (x n : Int) (w : World) (hx : x = n) (h1 : -9223372036854775808 ≤ n) (h2 : n ≤ 9223372036854775807) :
    Calls Tryz.prog 198 #[.int .i64 x] w fun e w' => e = .returned (.int .u8 (Gf.exp (ex n) : Nat)) ∧ w = w' := by
  subst hx; exact exp_any x w h1 h2
set_option maxRecDepth 100000 in
theorem inv_any (a : Nat) (w : World) (ha : a < 256) :
    Calls Tryz.prog 200 #[.int .u8 a] w fun e w' => e = .returned (invV a) ∧ Below w.heap.size w w' := by
  by_cases h0 : a = 0
  · subst h0
    go_enter Tryz.func200, Tryz.ntmps200
    go_wp2_with (go_at_call 230; refine (log_any 0 _ (by omega)).mono ?_; rintro e w1 ⟨rfl, hb⟩; rw [logV_zero])
    go_ret2
    exact ⟨rfl, hb⟩
  · obtain ⟨h1, h2⟩ := Gf.exp_log ha h0
    have H2 := Lib.hid h2; clear h2
    have H0 := Lib.hid h0; clear h0
    go_enter Tryz.func200, Tryz.ntmps200
    go_wp2_with fail
    refine (log_any a _ ha).mono ?_
    rintro e w1 ⟨rfl, hb⟩
    rw [logV_ne H0.out]
    go_wp2_with fail
    refine (exp_at _ (-(Gf.log a : Nat)) _ rfl (by omega) (by omega)).mono ?_
    rintro e w2 ⟨rfl, rfl⟩
    go_wp2_with fail
    go_ret2
    refine ⟨?_, hb⟩
    rw [invV_ne H0.out, Gf.inv, if_neg H0.out]
    have e : ex (-(Gf.log a : Nat)) = (255 - Gf.log a) % 255 := by unfold ex; omega
    rw [e]
    rfl
end Go.Proofs.YtflmjdjkfognjaaGreat
namespace Go.Proofs.YtflmjdjkfognjaaGreat
open Go.RowKit
set_option linter.unusedVariables false
theorem Tryz.infoU8 : (Tryz.prog.info? 5).map (fun i => (i.zero, i.size, i.bytes)) = some (some (.int .u8 0), 1, 1) := by kernel_rfl
theorem gmul_at (x y : Int) (a b : UInt8) (w : World) (hx : x = a.toNat) (hy : y = b.toNat) :
    Calls Tryz.prog 201 #[.int .u8 x, .int .u8 y] w fun e w' => e = .returned (B (G.mul a b)) ∧ w = w' :=
  (mul_at x y a.toNat b.toNat w hx hy (G.lt a) (G.lt b)).mono fun e w' ⟨h1, h2⟩ => ⟨by rw [h1, ← G.toNat_mul], h2⟩
set_option maxRecDepth 100000 in
set_option maxHeartbeats 1000000 in
theorem product_any (vp vq : Value) (p q : List UInt8) (w : World) (hp : Rd w vp p) (hq : Rd w vq q) :
    Calls Tryz.prog 197 #[vp, vq] w fun e w' => ∃ v, e = .returned v ∧ w'.ownsRow w.heap.size 5 1 v (G.prod p q).length (bs (G.prod p q)) ∧ Below w.heap.size w w' := by
  obtain ⟨i0, hi, hz0, hz1, hz2⟩ := info_parts Tryz.infoU8
  obtain ⟨hpl, ⟨a, cap, rfl, rfl⟩ | ⟨bp, op, cp, rfl, hp0, hpc⟩⟩ := hp.cases
  · obtain ⟨aq, cq, rfl⟩ : ∃ a c, vq = .slice a q.length c := hq.form
    go_enter Tryz.func197, Tryz.ntmps197
    go_wp2_with fail
    go_ret
    rw [G.prod_nil_left]
    exact ⟨_, rfl, World.ownsRow_nil _ _ _ _, Below.refl _ _⟩
  obtain ⟨hql, ⟨a, cap, rfl, rfl⟩ | ⟨bq, oq, cq, rfl, hq0, hqc⟩⟩ := hq.cases
  · have hlp : 0 < p.length := List.length_pos_iff.2 hp0
    have hp1 : ((p.length : Int) == 0) = false := by rw [beq_eq_false_iff_ne]; omega
    clear hpc
    go_enter Tryz.func197, Tryz.ntmps197
    go_wp2_with fail
    go_ret
    rw [G.prod_nil_right]
    exact ⟨_, rfl, World.ownsRow_nil _ _ _ _, Below.refl _ _⟩
  have hlp : 0 < p.length := List.length_pos_iff.2 hp0
  have hlq : 0 < q.length := List.length_pos_iff.2 hq0
  have hp1 : ((p.length : Int) == 0) = false := by rw [beq_eq_false_iff_ne]; omega
  have hq1 : ((q.length : Int) == 0) = false := by rw [beq_eq_false_iff_ne]; omega
  have HP := Lib.hid hpc; clear hpc
  have HQ := Lib.hid hqc; clear hqc
  obtain ⟨n, hn⟩ : ∃ n : Nat, n = p.length + q.length - 1 := ⟨_, rfl⟩
  have hnb : n ≤ 281474976702464 := by omega
  have hn1 : n + 1 ≤ p.length + q.length := by omega
  have hn2 : p.length + q.length ≤ n + 1 := by omega
  have Hn : Hid ((p.length : Int) + (q.length : Int) - 1 = n) := Lib.hid (by omega)
  have Hm := Lib.hid hn; clear hn
  have hbp : bp < w.heap.size := World.block_lt_of_cell? w _ (HP.out 0 hlp)
  have hbq : bq < w.heap.size := World.block_lt_of_cell? w _ (HQ.out 0 hlq)
  go_enter Tryz.func197, Tryz.ntmps197
  go_wp2_with (refine wpList_make_full _ rfl _ _ 123 rfl w.heap.size 5 i0 _ 1 Tryz.underlying123 hi hz0 hz1 .i64 .i64 _ _ n rfl rfl Hn.out Hn.out (by rw [hz2]; omega) (by unfold maxLen; omega) (Nat.le_refl _) ?_; intro w1 hown1 hgr1)
  have hb1 : Below w.heap.size w w1 := (Below.refl _ _).grown hgr1 (Nat.le_refl _) (by simp)
  have hown1' : w1.ownsRow w.heap.size 5 1 (.slice (some ⟨w.heap.size, 0, none⟩) n n) n (bs (G.addRows p q 0)) := by
    have e : (madeCells (Value.int .u8 0).cells (n * 1)).toList = bs (G.addRows p q 0) := by
      simp only [Value.cells, toList_madeCells_one, G.addRows, bs_replicate, ← Hm.out, Nat.mul_one]
      rfl
    rw [← e]; exact hown1
  clear hown1 hgr1
  go_loopw [27] (fun vk wr => ∃ k : Nat, k ≤ p.length ∧ vk = .int .i64 k ∧ wr.ownsRow w.heap.size 5 1 (.slice (some ⟨w.heap.size, 0, none⟩) n n) n (bs (G.addRows p q k)) ∧ Below w.heap.size w wr) (fun vk _ => p.length - (intOf vk).toNat)
  case atStart => exact ⟨0, by omega, rfl, hown1', hb1⟩
  case round =>
    clear hown1' hb1
    obtain ⟨k, hk, rfl, hown, hb⟩ := hrel
    obtain ⟨wo, rfl⟩ : ∃ wo : World, wo = wr := ⟨_, rfl⟩
    by_cases hlt : k < p.length
    · have hcp : wo.cell? ⟨bp, op + k, none⟩ = some (B (G.ix p k)) := by rw [hb.cell hbp]; exact HP.out k hlt
      go_wp2_with fail
      go_loopw [34] (fun vj wr => ∃ j : Nat, j ≤ q.length ∧ vj = .int .i64 j ∧ wr.ownsRow w.heap.size 5 1 (.slice (some ⟨w.heap.size, 0, none⟩) n n) n (bs (G.addRow k (G.ix p k) q j (G.addRows p q k))) ∧ Below w.heap.size w wr) (fun vj _ => q.length - (intOf vj).toNat)
      case atStart => exact ⟨0, by omega, rfl, hown, hb⟩
      case round =>
        clear hown hb hcp
        obtain ⟨j, hj, rfl, hown, hb⟩ := hrel
        by_cases hlj : j < q.length
        · have hcq : wr.cell? ⟨bq, oq + j, none⟩ = some (B (G.ix q j)) := by rw [hb.cell hbq]; exact HQ.out j hlj
          have hcl : (G.addRow k (G.ix p k) q j (G.addRows p q k)).length = n := by rw [G.addRow_length, G.addRows_length, Hm.out]
          have hco : wr.cell? ⟨w.heap.size, k + j, none⟩ = some (B (G.ix (G.addRow k (G.ix p k) q j (G.addRows p q k)) (k + j))) := by
            rw [hown.cellAt _ (by omega), bs_get (by omega)]
          have hfo := hown.frozenAt (k + j)
          have Hcl := Lib.hid hcl; clear hcl
          go_wp2_with fail
          have e1 : IntKind.i64.wrap ((k : Int) + (j : Int)) = (k : Int) + (j : Int) := IntWalk.i64_in _ (by omega)
          have e2 : (0 : Int) ≤ (k : Int) + (j : Int) := by omega
          have e3 : (k : Int) + (j : Int) < (n : Int) := by omega
          have e4 : ((k : Int) + (j : Int)).toNat = k + j := by omega
          go_still_tail 11, (by kernel_rfl)
          still_call (flipW (gmul_at _ _ (G.ix p k) (G.ix q j) _ rfl rfl))
          repeat still_step
          refine wpStill_nil ?_
          clear e1 e2 e3 e4
          change wpList _ _ _ _ _ wr.drew
          go_wp2_with fail
          go_roundw
          case rel =>
            refine ⟨j + 1, by omega, by go_num, ?_, (hb.drew).setCell (Nat.le_refl _) _⟩
            have h := hown.drew.stored (k + j) (B (G.ix (G.addRow k (G.ix p k) q j (G.addRows p q k)) (k + j) ^^^ G.mul (G.ix p k) (G.ix q j)))
            rw [bs_set] at h
            rw [xorB]
            exact h.1
          case measure => simp [intOf]; omega
        · go_wp2_with fail
          go_roundw
          case rel =>
            refine ⟨k + 1, by omega, by go_num, ?_, hb⟩
            obtain rfl : j = q.length := by omega
            exact hown
          case measure => simp [intOf]; omega
    · go_wp2_with fail
      go_ret
      refine ⟨_, rfl, ?_, hb⟩
      obtain rfl : k = p.length := by omega
      have e : (G.prod p q).length = n := by rw [G.prod_length p q hp0 hq0, Hm.out]
      rw [e, G.prod_eq hp0 hq0]
      exact hown
end Go.Proofs.YtflmjdjkfognjaaGreat
