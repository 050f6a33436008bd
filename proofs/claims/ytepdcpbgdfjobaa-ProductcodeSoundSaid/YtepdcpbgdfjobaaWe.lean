/- Chapter 8, plain: the encoding, word for word. -/
import Derived.Test.YtepdcpbgdfjobaaWt
import Derived.Test.YtepdcpbgdfjobaaWn
namespace Go.Proofs.Ytepdcpbgdfjobaa.W8
open Go.RowKit
set_option linter.unusedVariables false

/-- the codeword of a word's data -/
def cwd (raw : List UInt8) (ws : List Int) (f : Int) : List UInt8 := G.enc (takeL raw (ws.take (ws.length - 2)) f) 2
/-- the parity of one word is written -/
def stepW (raw : List UInt8) (ws : List Int) (f : Int) : List UInt8 :=
  (raw.set (ixI ws (ws.length - 2)).toNat (G.ix (cwd raw ws f) (ws.length - 2))).set (ixI ws (ws.length - 1)).toNat (G.ix (cwd raw ws f) (ws.length - 1))
theorem stepW_length (raw : List UInt8) (ws : List Int) (f : Int) : (stepW raw ws f).length = raw.length := by simp [stepW]
theorem cwd_length (raw : List UInt8) (ws : List Int) (f : Int) (h : 2 ≤ ws.length) : (cwd raw ws f).length = ws.length := by
  unfold cwd
  rw [G.enc_length, takeL_length, List.length_take]
  omega
theorem ix_append_left {l m : List UInt8} {i : Nat} (h : i < l.length) : G.ix (l ++ m) i = G.ix l i := by
  unfold G.ix
  rw [List.getD_eq_getElem?_getD, List.getD_eq_getElem?_getD, List.getElem?_append_left h]
theorem ixI_take {l : List Int} {k i : Nat} (h : i < k) : ixI (l.take k) i = ixI l i := by simp [ixI, h]
theorem ix_cwd (raw : List UInt8) (ws : List Int) (f : Int) (i : Nat) (h : i < ws.length - 2) : G.ix (cwd raw ws f) i = sym raw f (ixI ws i) := by
  have hl : i < (takeL raw (ws.take (ws.length - 2)) f).length := by rw [takeL_length, List.length_take]; omega
  unfold cwd G.enc
  rw [ix_append_left hl, ix_takeL _ _ _ _ (by rw [takeL_length] at hl; exact hl), ixI_take h]
theorem set_self (l : List UInt8) (i : Nat) : l.set i (G.ix l i) = l := by
  apply G.ext_ix
  · simp
  · intro j hj
    by_cases h : i < l.length
    · rw [ix_set _ _ _ _ h]; split
      · next e => rw [e]
      · rfl
    · rw [List.set_eq_of_length_le (by omega)]
theorem pk_same (raw : List UInt8) (ws : List Int) (f : Int) (s : List UInt8) : ∀ k, (∀ i, i < k → G.ix s i = sym raw f (ixI ws i)) → pkL raw ws f s k = raw
  | 0, _ => rfl
  | k + 1, h => by
    have ih := pk_same raw ws f s k (fun i hi => h i (by omega))
    unfold pkL
    rw [ih]
    split
    · rfl
    · next hf =>
      rw [h k (by omega)]
      unfold sym
      rw [if_neg hf]
      exact set_self _ _
theorem put_enc (raw : List UInt8) (ws : List Int) (f : Int) (hL : 2 ≤ ws.length) (h1 : f ≤ ixI ws (ws.length - 2)) (h2 : f ≤ ixI ws (ws.length - 1)) : putL raw ws f (cwd raw ws f) = stepW raw ws f := by
  have hs := pk_same raw ws f (cwd raw ws f) (ws.length - 2) (fun i hi => ix_cwd raw ws f i hi)
  obtain ⟨n, hn⟩ : ∃ n, ws.length = n + 2 := ⟨ws.length - 2, by omega⟩
  have e1 : ws.length - 2 = n := by omega
  have e2 : ws.length - 1 = n + 1 := by omega
  rw [e1] at hs h1
  rw [e2] at h2
  unfold putL stepW
  rw [e1, e2, hn]
  show (if ixI ws (n + 1) < f then pkL raw ws f (cwd raw ws f) (n + 1) else (pkL raw ws f (cwd raw ws f) (n + 1)).set (ixI ws (n + 1)).toNat (G.ix (cwd raw ws f) (n + 1))) = _
  rw [if_neg (by omega)]
  congr 1
  show (if ixI ws n < f then pkL raw ws f (cwd raw ws f) n else (pkL raw ws f (cwd raw ws f) n).set (ixI ws n).toNat (G.ix (cwd raw ws f) n)) = _
  rw [if_neg (by omega), hs]
/-- the parity of a word lies behind the header -/
theorem wd_last {k : Nat} (hk : k < 138) : 16 ≤ ixI (wd k) ((wd k).length - 2) ∧ 16 ≤ ixI (wd k) ((wd k).length - 1) := by
  rw [wd_length]
  unfold wd
  by_cases h : k < 86
  · rw [if_pos h, if_pos h]
    show 16 ≤ ixI (pw k) 24 ∧ 16 ≤ ixI (pw k) 25
    rw [ixI_pw _ _ (by omega), ixI_pw _ _ (by omega)]
    unfold pf; omega
  · rw [if_neg h, if_neg h]
    show 16 ≤ ixI (qw (k - 86)) 43 ∧ 16 ≤ ixI (qw (k - 86)) 44
    rw [ixI_qw43, ixI_qw44]
    omega
def encN (raw : List UInt8) (f : Int) : Nat → List UInt8
  | 0 => raw
  | k + 1 => stepW (encN raw f k) (wd k) f
theorem encN_length (raw : List UInt8) (f : Int) : ∀ k, (encN raw f k).length = raw.length
  | 0 => rfl
  | k + 1 => by rw [encN, stepW_length, encN_length raw f k]
theorem encN_put (raw : List UInt8) (f : Int) (k : Nat) (hk : k < 138) (hf : f ≤ 16) : putL (encN raw f k) (wd k) f (cwd (encN raw f k) (wd k) f) = encN raw f (k + 1) := by
  have h := wd_last hk
  have hl := wd_length k
  exact put_enc _ _ _ (by rw [hl]; split <;> omega) (by omega) (by omega)

/-- 'v[:hi]' of ints -/
theorem run_cutI {P : Program} {t e : TypeId} (ht : P.underlying t = some (.slice e)) (hs : (P.info? e).map (·.size) = some 1) {v : Value} {l : List Int} {w : World} (h : RdI w v l) (hi : Nat) (h2 : hi ≤ l.length) :
    ∃ v', (∀ W, RdI W v l → RdI W v' (l.take hi)) ∧ ∀ (y : Int) (w' : World), y = hi → (Instr.slice t v none (some (.int .i64 y)) none).run P w' = .ok v' w' := by
  obtain ⟨h0, ⟨a, c, b, off, rfl, hc, hcell⟩, hr⟩ := h
  cases hq : P.info? e with
  | none => simp [hq] at hs
  | some i =>
    have hs1 : i.size = 1 := by simpa [hq] using hs
    refine ⟨.slice (if c = 0 then a else a.map (·.add (0 * 1))) hi c, fun W hW => ?_, ?_⟩
    · obtain ⟨_, ⟨a', c', b', off', e1, hc', hcell'⟩, hr'⟩ := hW
      injection e1 with e1 e2 e3
      subst e1 e3
      have hL : (l.take hi).length = hi := by rw [List.length_take]; omega
      refine ⟨by rw [hL]; omega, ⟨_, c, b', off', by rw [hL], by rw [hL]; omega, fun j hj => ?_⟩, fun j hj => ?_⟩
      · rw [hL] at hj
        obtain ⟨g1, g2⟩ := hcell' j (by omega)
        exact ⟨by rw [g1]; split <;> simp [Addr.add], by rw [ixI_take hj]; exact g2⟩
      · rw [hL] at hj
        rw [ixI_take hj]
        exact hr' j (by omega)
    · rintro y w' rfl
      simp [Instr.slice, run_underlying ht, Instr.sliceBounds, run_sliceBound, sizeOf, typeInfo, hq, (by omega : hi ≤ c)]
end Go.Proofs.Ytepdcpbgdfjobaa.W8
