/- Chapter 10: a change within two bytes is seen (plain). -/
import Derived.Test.YtenbafolmmemgaaQz
namespace Go.Proofs.Ytenbafolmmemgaa.C
set_option linter.unusedVariables false

theorem xlc (a b c : Nat) : a ^^^ (b ^^^ c) = b ^^^ (a ^^^ c) := by rw [← Nat.xor_assoc, Nat.xor_comm a b, Nat.xor_assoc]
theorem xsc (a b : Nat) : a ^^^ (a ^^^ b) = b := by rw [← Nat.xor_assoc, Nat.xor_self, Nat.zero_xor]
theorem xor_lt {x y : Nat} (hx : x < 65536) (hy : y < 65536) : x ^^^ y < 65536 := Nat.xor_lt_two_pow (n := 16) hx hy
/-- one step is linear -/
theorem st1_xor {x y : Nat} (hx : x < 65536) (hy : y < 65536) : st1 (x ^^^ y) = st1 x ^^^ st1 y := by
  have hxy := xor_lt hx hy
  have e1 : (x ^^^ y) / 32768 = x / 32768 ^^^ y / 32768 := by
    have := Nat.xor_div_two_pow (a := x) (b := y) (n := 15)
    simpa using this
  have e2 : (x ^^^ y) % 32768 = x % 32768 ^^^ y % 32768 := by
    have := Nat.xor_mod_two_pow (a := x) (b := y) (n := 15)
    simpa using this
  have e3 : ∀ a b : Nat, (a ^^^ b) * 2 = a * 2 ^^^ b * 2 := fun a b => by
    have := Nat.shiftLeft_xor_distrib (a := a) (b := b) (i := 1)
    simpa [Nat.shiftLeft_eq] using this
  unfold st1
  rw [e1, e2, e3]
  have hx2 : x / 32768 = 0 ∨ x / 32768 = 1 := by omega
  have hy2 : y / 32768 = 0 ∨ y / 32768 = 1 := by omega
  generalize x % 32768 * 2 = a
  generalize y % 32768 * 2 = b
  rcases hx2 with h1 | h1 <;> rcases hy2 with h2 | h2 <;> rw [h1, h2] <;> simp [Nat.xor_assoc, Nat.xor_comm, xlc]
theorem stN_xor {x y : Nat} (hx : x < 65536) (hy : y < 65536) : ∀ k, stN k (x ^^^ y) = stN k x ^^^ stN k y
  | 0 => rfl
  | k + 1 => by
    show st1 (stN k (x ^^^ y)) = st1 (stN k x) ^^^ st1 (stN k y)
    rw [stN_xor hx hy k, st1_xor (stN_lt hx k) (stN_lt hy k)]
/-- one step tells registers apart -/
theorem st1_zero {x : Nat} (hx : x < 65536) (h : st1 x = 0) : x = 0 := by
  unfold st1 at h
  split at h
  · rename_i h1
    have : x % 32768 * 2 = 4129 := by
      have := congrArg (· ^^^ 4129) h
      simpa [Nat.xor_assoc] using this
    omega
  · omega
theorem stN_zero {x : Nat} (hx : x < 65536) : ∀ k, stN k x = 0 → x = 0
  | 0, h => h
  | k + 1, h => stN_zero hx k (st1_zero (stN_lt hx k) h)
/-- the difference of two registers -/
theorem reg_xor {x y : Nat} (hx : x < 65536) (hy : y < 65536) (b c : UInt8) : reg (x ^^^ y) (b ^^^ c) = reg x b ^^^ reg y c := by
  have hb := b.toNat_lt
  have hc := c.toNat_lt
  unfold reg st8
  have e : x ^^^ y ^^^ (b ^^^ c).toNat * 256 = (x ^^^ b.toNat * 256) ^^^ (y ^^^ c.toNat * 256) := by
    have h8 : (b.toNat ^^^ c.toNat) * 256 = b.toNat * 256 ^^^ c.toNat * 256 := by
      have := Nat.shiftLeft_xor_distrib (a := b.toNat) (b := c.toNat) (i := 8)
      simpa [Nat.shiftLeft_eq] using this
    rw [UInt8.toNat_xor, h8]
    simp [Nat.xor_assoc, xlc]
  rw [e, stN_xor (xor_lt hx (by omega)) (xor_lt hy (by omega))]
theorem xor_zero8 (b : UInt8) : b ^^^ 0 = b := by simp
/-- the register of a difference: of zero bytes -/
def zs (n : Nat) (x : Nat) : Nat := crc x (List.replicate n 0)
theorem zs_succ (n x : Nat) : zs (n + 1) x = zs n (st8 x) := by
  show crc (reg x 0) (List.replicate n 0) = _
  unfold reg
  simp [zs]
theorem zs_zero {x : Nat} (hx : x < 65536) : ∀ n, zs n x = 0 → x = 0
  | 0, h => h
  | n + 1, h => by
    rw [zs_succ] at h
    have hl : ∀ x, x < 65536 → ∀ n, zs n x = 0 → x = 0 := fun x hx n h => by
      induction n generalizing x with
      | zero => exact h
      | succ n ih => rw [zs_succ] at h; exact stN_zero hx 8 (ih _ (stN_lt hx 8) h)
    exact stN_zero hx 8 (hl _ (stN_lt hx 8) n h)
/-- bytes that agree keep the difference -/
theorem crc_same {x y : Nat} (hx : x < 65536) (hy : y < 65536) : ∀ s : List UInt8, crc (x ^^^ y) s = crc x s ^^^ zs s.length y
  | [] => rfl
  | b :: s => by
    show crc (reg (x ^^^ y) b) s = crc (reg x b) s ^^^ zs (s.length + 1) y
    have e : reg (x ^^^ y) b = reg x b ^^^ st8 y := by
      have := reg_xor hx hy b 0
      rw [xor_zero8] at this
      rw [this]; unfold reg; simp
    rw [e, zs_succ]
    exact crc_same (stN_lt (xor_lt hx (by have := b.toNat_lt; omega)) 8) (stN_lt hy 8) s
theorem tab_low : ∀ b, b < 256 → tab b % 256 = 0 → b = 0 := by decide +kernel
theorem reg_diff {x : Nat} (hx : x < 65536) (b d : UInt8) : reg x (b ^^^ d) = reg x b ^^^ tab d.toNat := by
  have := reg_xor hx (show (0 : Nat) < 65536 by omega) b d
  rw [Nat.xor_zero] at this
  rw [this]; unfold reg tab; simp
/-- two bytes changed: the register differs -/
theorem crc_two {x : Nat} (hx : x < 65536) (b c d e : UInt8) (s : List UInt8) (h : crc x ((b ^^^ d) :: (c ^^^ e) :: s) = crc x (b :: c :: s)) : d = 0 ∧ e = 0 := by
  have h1 : crc (reg (reg x (b ^^^ d)) (c ^^^ e)) s = crc (reg (reg x b) c) s := h
  have hb := b.toNat_lt
  have hd := d.toNat_lt
  have he := e.toNat_lt
  have ht : tab d.toNat < 65536 := stN_lt (by omega) 8
  have hr : reg x b < 65536 := stN_lt (xor_lt hx (by omega)) 8
  have hrc : reg (reg x b) c < 65536 := stN_lt (xor_lt hr (by have := c.toNat_lt; omega)) 8
  rw [reg_diff hx, reg_xor hr ht] at h1
  have hre : reg (tab d.toNat) e < 65536 := stN_lt (xor_lt ht (by omega)) 8
  rw [crc_same hrc hre] at h1
  have hz : zs s.length (reg (tab d.toNat) e) = 0 := by
    have := congrArg (crc (reg (reg x b) c) s ^^^ ·) h1
    simpa [← Nat.xor_assoc] using this
  have h2 := zs_zero hre _ hz
  have h3 : tab d.toNat ^^^ e.toNat * 256 = 0 := stN_zero (xor_lt ht (by omega)) 8 h2
  have h4 : tab d.toNat = e.toNat * 256 := by
    have := congrArg (tab d.toNat ^^^ ·) h3
    simp only [← Nat.xor_assoc, Nat.xor_self, Nat.zero_xor, Nat.xor_zero] at this
    exact this.symm
  have h5 : d.toNat = 0 := tab_low _ hd (by rw [h4]; omega)
  have hd0 : d = 0 := UInt8.toNat_inj.1 (by simpa using h5)
  refine ⟨hd0, ?_⟩
  rw [h5, show tab 0 = 0 by decide +kernel] at h4
  exact UInt8.toNat_inj.1 (by simp; omega)
end Go.Proofs.Ytenbafolmmemgaa.C
namespace Go.Proofs.Ytenbafolmmemgaa.W10
open C
theorem crcB_inj {x y : Nat} (hx : x < 65536) (hy : y < 65536) (h : crcB (65535 - x) = crcB (65535 - y)) : x = y := by
  unfold crcB at h
  simp only [List.cons.injEq, and_true] at h
  have h1 := congrArg UInt8.toNat h.1
  have h2 := congrArg UInt8.toNat h.2
  simp at h1 h2
  omega
/-- two bytes one behind the other changed -/
def upd (l : List UInt8) (k : Nat) (d e : UInt8) : List UInt8 := (l.set k (G.ix l k ^^^ d)).set (k + 1) (G.ix l (k + 1) ^^^ e)
theorem upd_length (l : List UInt8) (k : Nat) (d e : UInt8) : (upd l k d e).length = l.length := by simp [upd]
theorem hbt (a : UInt8) : a.toNat * 256 < 65536 := by have := a.toNat_lt; omega
theorem sub_xor {x : Nat} (h : x < 65536) : 65535 - x = 65535 ^^^ x := by
  have h2 := congrArg BitVec.toNat (BitVec.xor_allOnes (x := BitVec.ofNat 16 x))
  rw [BitVec.toNat_xor, BitVec.toNat_not, BitVec.toNat_allOnes, BitVec.toNat_ofNat, Nat.mod_eq_of_lt (by omega)] at h2
  rw [Nat.xor_comm]
  simpa using h2.symm
theorem xor_ne {a d : UInt8} (h : a ^^^ d = a) : d = 0 := by
  have := congrArg (a ^^^ ·) h
  simpa [← UInt8.xor_assoc] using this
set_option maxHeartbeats 1000000 in
theorem detect (l : List UInt8) (k : Nat) (d e : UInt8) (hlen : l.length = 12) (hk : k < 11) (hne : ¬ (d = 0 ∧ e = 0)) (hl : chk (l.take 10) = l.drop 10) : chk ((upd l k d e).take 10) ≠ (upd l k d e).drop 10 := by
  intro h
  match l, hlen with
  | [a0, a1, a2, a3, a4, a5, a6, a7, a8, a9, a10, a11], _ =>
  replace hl : crcB (65535 - crc 0 [a0, a1, a2, a3, a4, a5, a6, a7, a8, a9]) = [a10, a11] := hl
  match k, hk with
  | 0, _ =>
    have h2 : crc 0 [a0 ^^^ d, a1 ^^^ e, a2, a3, a4, a5, a6, a7, a8, a9] = crc 0 [a0, a1, a2, a3, a4, a5, a6, a7, a8, a9] := crcB_inj (crc_lt (c := 0) (by omega) _) (crc_lt (c := 0) (by omega) _) (h.trans hl.symm)
    exact hne (crc_two (x := 0) (by omega) a0 a1 d e [a2, a3, a4, a5, a6, a7, a8, a9] h2)
  | 1, _ =>
    have h2 : crc 0 [a0, a1 ^^^ d, a2 ^^^ e, a3, a4, a5, a6, a7, a8, a9] = crc 0 [a0, a1, a2, a3, a4, a5, a6, a7, a8, a9] := crcB_inj (crc_lt (c := 0) (by omega) _) (crc_lt (c := 0) (by omega) _) (h.trans hl.symm)
    exact hne (crc_two (x := reg (0) a0) (stN_lt (xor_lt (by omega) (hbt a0)) 8) a1 a2 d e [a3, a4, a5, a6, a7, a8, a9] h2)
  | 2, _ =>
    have h2 : crc 0 [a0, a1, a2 ^^^ d, a3 ^^^ e, a4, a5, a6, a7, a8, a9] = crc 0 [a0, a1, a2, a3, a4, a5, a6, a7, a8, a9] := crcB_inj (crc_lt (c := 0) (by omega) _) (crc_lt (c := 0) (by omega) _) (h.trans hl.symm)
    exact hne (crc_two (x := reg (reg (0) a0) a1) (stN_lt (xor_lt (stN_lt (xor_lt (by omega) (hbt a0)) 8) (hbt a1)) 8) a2 a3 d e [a4, a5, a6, a7, a8, a9] h2)
  | 3, _ =>
    have h2 : crc 0 [a0, a1, a2, a3 ^^^ d, a4 ^^^ e, a5, a6, a7, a8, a9] = crc 0 [a0, a1, a2, a3, a4, a5, a6, a7, a8, a9] := crcB_inj (crc_lt (c := 0) (by omega) _) (crc_lt (c := 0) (by omega) _) (h.trans hl.symm)
    exact hne (crc_two (x := reg (reg (reg (0) a0) a1) a2) (stN_lt (xor_lt (stN_lt (xor_lt (stN_lt (xor_lt (by omega) (hbt a0)) 8) (hbt a1)) 8) (hbt a2)) 8) a3 a4 d e [a5, a6, a7, a8, a9] h2)
  | 4, _ =>
    have h2 : crc 0 [a0, a1, a2, a3, a4 ^^^ d, a5 ^^^ e, a6, a7, a8, a9] = crc 0 [a0, a1, a2, a3, a4, a5, a6, a7, a8, a9] := crcB_inj (crc_lt (c := 0) (by omega) _) (crc_lt (c := 0) (by omega) _) (h.trans hl.symm)
    exact hne (crc_two (x := reg (reg (reg (reg (0) a0) a1) a2) a3) (stN_lt (xor_lt (stN_lt (xor_lt (stN_lt (xor_lt (stN_lt (xor_lt (by omega) (hbt a0)) 8) (hbt a1)) 8) (hbt a2)) 8) (hbt a3)) 8) a4 a5 d e [a6, a7, a8, a9] h2)
  | 5, _ =>
    have h2 : crc 0 [a0, a1, a2, a3, a4, a5 ^^^ d, a6 ^^^ e, a7, a8, a9] = crc 0 [a0, a1, a2, a3, a4, a5, a6, a7, a8, a9] := crcB_inj (crc_lt (c := 0) (by omega) _) (crc_lt (c := 0) (by omega) _) (h.trans hl.symm)
    exact hne (crc_two (x := reg (reg (reg (reg (reg (0) a0) a1) a2) a3) a4) (stN_lt (xor_lt (stN_lt (xor_lt (stN_lt (xor_lt (stN_lt (xor_lt (stN_lt (xor_lt (by omega) (hbt a0)) 8) (hbt a1)) 8) (hbt a2)) 8) (hbt a3)) 8) (hbt a4)) 8) a5 a6 d e [a7, a8, a9] h2)
  | 6, _ =>
    have h2 : crc 0 [a0, a1, a2, a3, a4, a5, a6 ^^^ d, a7 ^^^ e, a8, a9] = crc 0 [a0, a1, a2, a3, a4, a5, a6, a7, a8, a9] := crcB_inj (crc_lt (c := 0) (by omega) _) (crc_lt (c := 0) (by omega) _) (h.trans hl.symm)
    exact hne (crc_two (x := reg (reg (reg (reg (reg (reg (0) a0) a1) a2) a3) a4) a5) (stN_lt (xor_lt (stN_lt (xor_lt (stN_lt (xor_lt (stN_lt (xor_lt (stN_lt (xor_lt (stN_lt (xor_lt (by omega) (hbt a0)) 8) (hbt a1)) 8) (hbt a2)) 8) (hbt a3)) 8) (hbt a4)) 8) (hbt a5)) 8) a6 a7 d e [a8, a9] h2)
  | 7, _ =>
    have h2 : crc 0 [a0, a1, a2, a3, a4, a5, a6, a7 ^^^ d, a8 ^^^ e, a9] = crc 0 [a0, a1, a2, a3, a4, a5, a6, a7, a8, a9] := crcB_inj (crc_lt (c := 0) (by omega) _) (crc_lt (c := 0) (by omega) _) (h.trans hl.symm)
    exact hne (crc_two (x := reg (reg (reg (reg (reg (reg (reg (0) a0) a1) a2) a3) a4) a5) a6) (stN_lt (xor_lt (stN_lt (xor_lt (stN_lt (xor_lt (stN_lt (xor_lt (stN_lt (xor_lt (stN_lt (xor_lt (stN_lt (xor_lt (by omega) (hbt a0)) 8) (hbt a1)) 8) (hbt a2)) 8) (hbt a3)) 8) (hbt a4)) 8) (hbt a5)) 8) (hbt a6)) 8) a7 a8 d e [a9] h2)
  | 8, _ =>
    have h2 : crc 0 [a0, a1, a2, a3, a4, a5, a6, a7, a8 ^^^ d, a9 ^^^ e] = crc 0 [a0, a1, a2, a3, a4, a5, a6, a7, a8, a9] := crcB_inj (crc_lt (c := 0) (by omega) _) (crc_lt (c := 0) (by omega) _) (h.trans hl.symm)
    exact hne (crc_two (x := reg (reg (reg (reg (reg (reg (reg (reg (0) a0) a1) a2) a3) a4) a5) a6) a7) (stN_lt (xor_lt (stN_lt (xor_lt (stN_lt (xor_lt (stN_lt (xor_lt (stN_lt (xor_lt (stN_lt (xor_lt (stN_lt (xor_lt (stN_lt (xor_lt (by omega) (hbt a0)) 8) (hbt a1)) 8) (hbt a2)) 8) (hbt a3)) 8) (hbt a4)) 8) (hbt a5)) 8) (hbt a6)) 8) (hbt a7)) 8) a8 a9 d e [] h2)
  | 9, _ =>
    have h1 : crcB (65535 - crc 0 [a0, a1, a2, a3, a4, a5, a6, a7, a8, a9 ^^^ d]) = [a10 ^^^ e, a11] := h
    have hx : reg (reg (reg (reg (reg (reg (reg (reg (reg (0) a0) a1) a2) a3) a4) a5) a6) a7) a8 < 65536 := (stN_lt (xor_lt (stN_lt (xor_lt (stN_lt (xor_lt (stN_lt (xor_lt (stN_lt (xor_lt (stN_lt (xor_lt (stN_lt (xor_lt (stN_lt (xor_lt (stN_lt (xor_lt (by omega) (hbt a0)) 8) (hbt a1)) 8) (hbt a2)) 8) (hbt a3)) 8) (hbt a4)) 8) (hbt a5)) 8) (hbt a6)) 8) (hbt a7)) 8) (hbt a8)) 8)
    have hd : reg (reg (reg (reg (reg (reg (reg (reg (reg (reg (0) a0) a1) a2) a3) a4) a5) a6) a7) a8) (a9 ^^^ d) = reg (reg (reg (reg (reg (reg (reg (reg (reg (reg (0) a0) a1) a2) a3) a4) a5) a6) a7) a8) a9 ^^^ tab d.toNat := reg_diff hx a9 d
    have hc : crc 0 [a0, a1, a2, a3, a4, a5, a6, a7, a8, a9] < 65536 := crc_lt (c := 0) (by omega) _
    have hd2 : crc 0 [a0, a1, a2, a3, a4, a5, a6, a7, a8, a9 ^^^ d] = crc 0 [a0, a1, a2, a3, a4, a5, a6, a7, a8, a9] ^^^ tab d.toNat := hd
    rw [hd2] at h1
    clear hd hd2 hx h
    generalize crc 0 [a0, a1, a2, a3, a4, a5, a6, a7, a8, a9] = X at hl h1 hc
    have ht : tab d.toNat < 65536 := stN_lt (by have := d.toNat_lt; omega) 8
    have hb := d.toNat_lt
    have hq : ∀ T, T < 65536 → T = tab d.toNat → d = 0 ∧ e = 0 := by
      intro T hT hTd
      rw [← hTd] at h1
      rw [sub_xor (xor_lt hc hT), ← Nat.xor_assoc, ← sub_xor hc] at h1
      have hY : 65535 - X < 65536 := by omega
      generalize 65535 - X = Y at hl h1 hY
      unfold crcB at hl h1
      simp only [List.cons.injEq, and_true] at hl h1
      have g1 := congrArg UInt8.toNat hl.1
      have g2 := congrArg UInt8.toNat hl.2
      have g3 := congrArg UInt8.toNat h1.1
      have g4 := congrArg UInt8.toNat h1.2
      have m8 : (Y ^^^ T) % 256 = Y % 256 ^^^ T % 256 := by
        have := Nat.xor_mod_two_pow (a := Y) (b := T) (n := 8)
        simpa using this
      have d8 : (Y ^^^ T) / 256 = Y / 256 ^^^ T / 256 := by
        have := Nat.xor_div_two_pow (a := Y) (b := T) (n := 8)
        simpa using this
      rw [UInt8.toNat_ofNat', Nat.mod_eq_of_lt (by omega)] at g1 g2
      have l1 : (Y ^^^ T) / 256 < 256 := by have := xor_lt hY hT; omega
      rw [UInt8.toNat_ofNat', Nat.mod_eq_of_lt (by omega)] at g3 g4
      rw [d8, g1, UInt8.toNat_xor] at g3
      rw [m8, g2] at g4
      have z1 : T % 256 = 0 := by
        have := congrArg (a11.toNat ^^^ ·) g4
        simpa [xsc] using this
      have z2 : T / 256 = e.toNat := by
        have := congrArg (a10.toNat ^^^ ·) g3
        simpa [xsc] using this
      have hd0 : d.toNat = 0 := tab_low _ hb (by rw [← hTd]; exact z1)
      rw [hd0, show tab 0 = 0 by decide +kernel] at hTd
      exact ⟨UInt8.toNat_inj.1 (by simpa using hd0), UInt8.toNat_inj.1 (by simp; omega)⟩
    exact hne (hq _ ht rfl)
  | 10, _ =>
    have h1 : crcB (65535 - crc 0 [a0, a1, a2, a3, a4, a5, a6, a7, a8, a9]) = [a10 ^^^ d, a11 ^^^ e] := h
    rw [hl] at h1
    simp only [List.cons.injEq, and_true] at h1
    exact hne ⟨xor_ne h1.1.symm, xor_ne h1.2.symm⟩
end Go.Proofs.Ytenbafolmmemgaa.W10
