/- Chapter 9: collect of the package with the closure of Encode walked. -/
import Derived.Test.YtkebnmmcogkldaaD2
import Derived.Test.YtkebnmmcogkldaaCb
import Derived.Test.YtkebnmmcogkldaaChg
namespace Go.Proofs.Ytkebnmmcogkldaa.C9
open Go.RowKit W8
set_option linter.unusedVariables false

/-- 'N' rows of 28 bytes, one behind the other -/
def fl28 (N : Nat) (p : Nat → Nat → UInt8) : List UInt8 := (List.range (N * 28)).map fun x => p (x / 28) (x % 28)
theorem fl28_length (N : Nat) (p : Nat → Nat → UInt8) : (fl28 N p).length = N * 28 := by simp [fl28]
theorem fl28_get {N g i : Nat} (p : Nat → Nat → UInt8) (hg : g < N) (hi : i < 28) : (fl28 N p)[g * 28 + i]? = some (p g i) := by
  have e1 : (g * 28 + i) / 28 = g := by omega
  have e2 : (g * 28 + i) % 28 = i := by omega
  have e3 : g * 28 + i < N * 28 := by omega
  simp [fl28, e1, e2, e3]
theorem fl28_congr {N : Nat} {p q : Nat → Nat → UInt8} (h : ∀ g i, g < N → i < 28 → p g i = q g i) : fl28 N p = fl28 N q := List.map_congr_left fun x hx => by
  have := List.mem_range.1 hx
  exact h _ _ (by omega) (by omega)
theorem fl28_set {N g i : Nat} (p : Nat → Nat → UInt8) (hi : i < 28) (c : UInt8) : (fl28 N p).set (g * 28 + i) c = fl28 N (fun g' i' => if g' = g ∧ i' = i then c else p g' i') := by
  apply List.ext_getElem?
  intro x
  rw [List.getElem?_set, fl28_length]
  by_cases hx : x < N * 28
  · have e : x / 28 * 28 + x % 28 = x := by omega
    have h1 := fl28_get (N := N) (g := x / 28) (i := x % 28) p (by omega) (by omega)
    have h2 := fl28_get (N := N) (g := x / 28) (i := x % 28) (fun g' i' => if g' = g ∧ i' = i then c else p g' i') (by omega) (by omega)
    rw [e] at h1 h2
    rw [h1, h2]
    by_cases hh : g * 28 + i = x
    · rw [if_pos hh, if_pos (by omega), if_pos (by omega)]
    · rw [if_neg hh, if_neg (by omega)]
  · rw [List.getElem?_eq_none (l := fl28 N p) (by rw [fl28_length]; omega), List.getElem?_eq_none (l := fl28 N _) (by rw [fl28_length]; omega)]
    split
    · rw [if_neg (by omega)]
    · rfl
/-- what of the rows is written when 'f' words are done and of the next one 'k' symbols -/
def symX (d : List UInt8) (f k g i : Nat) : UInt8 := if 4 * i ≤ g ∧ (g - 4 * i < f ∨ (g - 4 * i = f ∧ i < k)) then G.ix (wrd d (g - 4 * i)) i else 0
theorem symX_zero (d : List UInt8) (g i : Nat) : symX d 0 0 g i = 0 := by unfold symX; rw [if_neg (by omega)]
theorem symX_step (d : List UInt8) (N f k : Nat) (hk : k < 28) : (fl28 N (symX d f k)).set ((f + 4 * k) * 28 + k) (G.ix (wrd d f) k) = fl28 N (symX d f (k + 1)) := by
  rw [fl28_set _ hk]
  refine fl28_congr fun g i _ hi => ?_
  unfold symX
  by_cases h : g = f + 4 * k ∧ i = k
  · obtain ⟨rfl, rfl⟩ := h
    rw [if_pos ⟨rfl, rfl⟩, if_pos ⟨by omega, .inr ⟨by omega, by omega⟩⟩, Nat.add_sub_cancel]
  · rw [if_neg h]
    by_cases h2 : 4 * i ≤ g ∧ (g - 4 * i < f ∨ (g - 4 * i = f ∧ i < k))
    · rw [if_pos h2, if_pos ⟨h2.1, by omega⟩]
    · rw [if_neg h2, if_neg]
      intro h3
      omega
theorem symX_next (d : List UInt8) (N f : Nat) : fl28 N (symX d f 28) = fl28 N (symX d (f + 1) 0) := fl28_congr fun g i _ hi => by
  unfold symX
  by_cases h : 4 * i ≤ g ∧ (g - 4 * i < f ∨ (g - 4 * i = f ∧ i < 28))
  · rw [if_pos h, if_pos ⟨h.1, by omega⟩]
  · rw [if_neg h, if_neg (by omega)]
theorem symX_all (d : List UInt8) (n g i : Nat) : symX d n 0 g i = sym d n g i := by
  unfold symX sym
  by_cases h : 4 * i ≤ g ∧ g - 4 * i < n
  · rw [if_pos h, if_pos ⟨h.1, .inl h.2⟩]
  · rw [if_neg h, if_neg (by omega)]
theorem fl28_zero (N : Nat) (p : Nat → Nat → UInt8) (h : ∀ g i, p g i = 0) : fl28 N p = List.replicate (N * 28) 0 := by
  apply List.ext_getElem
  · simp [fl28]
  · intro x h1 h2
    simp [fl28, h]
theorem Try.sizeRow28 : (Try.prog.info? 72).map (·.size) = some 28 := by kernel_rfl
set_option maxRecDepth 100000 in
set_option maxHeartbeats 1000000 in
theorem enc1_any (i fr wb rb gr N : Nat) (wd : List UInt8) (R : List UInt8) (w : World) (hw : w.cell? ⟨wb, 0, none⟩ = some (.string (str wd))) (hr : w.cell? ⟨rb, 0, none⟩ = some (.slice (some ⟨gr, 0, none⟩) N N))
    (hb : Bx w gr 72 (bs R)) (hR : R.length = N * 28) (hi : i < 28) (hwl : wd.length = 28) (hfr : fr < N) (x : Int) (hx : x = fr) :
    Calls Try.prog 37 #[.int .i64 i, .int .i64 x, .pointer (some ⟨wb, 0, none⟩), .pointer (some ⟨rb, 0, none⟩)] w fun e w' => e = .returned (.tuple #[]) ∧ w' = w.drew.setCell ⟨gr, fr * 28 + i, none⟩ (B (G.ix wd i)) := by
  have hix := fun w' => run_idxS Try.underlying69 Try.sizeRow28 (a := some ⟨gr, 0, none⟩) (cap := N) rfl hfr x hx w'
  simp only [Nat.zero_add] at hix
  have Hx := Lib.hid hx; clear hx
  have hs := str_size wd
  have hcl : w.cell? ⟨gr, fr * 28 + i, none⟩ = some (B (G.ix R (fr * 28 + i))) := hb.cell (bs_get (by omega))
  have hfz := hb.free (fr * 28 + i)
  have hi' : (i : Int) < 28 := by omega
  have hstr : ∀ W, (Instr.index 9 (.string (str wd)) (.int .i64 (i : Int))).run Try.prog W = .ok (B (G.ix wd i)) W := fun W => run_sidx Try.underlying9 wd i (by omega) _ rfl W
  clear hb
  go_enter Try.func37, Try.ntmps37
  go_wp2_with fail
  go_still_tail 8, (by kernel_rfl)
  repeat still_step
  change wpList _ _ _ _ _ w.drew
  go_wp2_with fail
  go_end0
  exact ⟨rfl, rfl⟩
/-- what a closure leaves that writes into the rows alone -/
def EncS (gr : Nat) (R : List UInt8) (w : World) (e : Ending) (w' : World) : Prop := e = .returned (.tuple #[]) ∧ Bx w' gr 72 (bs R) ∧ Below gr w w' ∧ ∀ k, k < w.heap.size → k ≠ gr → w'.heap[k]? = w.heap[k]?
set_option maxRecDepth 100000 in
set_option maxHeartbeats 1000000 in
theorem collect_enc (d : List UInt8) (f n N wb rb gr : Nat) (w : World) (hd : d.length = 24 * n) (hf : f < n) (hn : n ≤ 784) (hN : N = n + 108) (hwb : wb ≠ gr) (hrb : rb ≠ gr) (hw : w.cell? ⟨wb, 0, none⟩ = some (.string (str (wrd d f)))) (hr : w.cell? ⟨rb, 0, none⟩ = some (.slice (some ⟨gr, 0, none⟩) N N))
    (hb : Bx w gr 72 (bs (fl28 N (symX d f 0)))) :
    Calls Try.prog 32 #[.int .i64 f, .func (.func 37) #[] #[.pointer (some ⟨wb, 0, none⟩), .pointer (some ⟨rb, 0, none⟩)]] w (EncS gr (fl28 N (symX d f 28)) w) := by
  have hwl := wrd_length hd hf
  have hbl1 := World.block_lt_of_cell? w _ hw
  have hbl2 := World.block_lt_of_cell? w _ hr
  have HW := Lib.hid hw
  have HR := Lib.hid hr
  have HB := Lib.hid hb
  have HS := Lib.hid (fun k hk => symX_step d N f k hk)
  have HL := Lib.hid (fun k => fl28_length N (symX d f k))
  generalize wrd d f = wd at *
  have hN1 : n + 108 ≤ N := by omega
  have hN2 : N ≤ n + 108 := by omega
  have HWL := Lib.hid hwl
  clear hw hr hb hd hN hwl
  simp only at hbl1 hbl2
  go_enter Try.func32, Try.ntmps32
  go_wp2_with fail
  go_loopw [5] (fun vi wr => ∃ i : Nat, i ≤ 28 ∧ vi = .int .i64 i ∧ Bx wr gr 72 (bs (fl28 N (symX d f i))) ∧ Below gr w wr ∧ Hid (∀ k, k < w.heap.size → k ≠ gr → wr.heap[k]? = w.heap[k]?)) (fun vi _ => 28 - (intOf vi).toNat)
  case atStart => exact ⟨0, by omega, rfl, HB.out, Below.refl _ _, Lib.hid fun k _ _ => rfl⟩
  case round =>
    obtain ⟨i, hi, rfl, hbx, hbe, HK⟩ := hrel
    by_cases hit : i < 28
    · have hit' : (i : Int) < 28 := by omega
      have hcw : wr.cell? ⟨wb, 0, none⟩ = some (.string (str wd)) := (World.cell?_of_block (w := w) (a := ⟨wb, 0, none⟩) (HK.out wb hbl1 hwb)).trans HW.out
      have hcr : wr.cell? ⟨rb, 0, none⟩ = some (.slice (some ⟨gr, 0, none⟩) N N) := (World.cell?_of_block (w := w) (a := ⟨rb, 0, none⟩) (HK.out rb hbl2 hrb)).trans HR.out
      have HC := Lib.hid (enc1_any i (f + 4 * i) wb rb gr N wd _ wr hcw hcr hbx (HL.out i) hit HWL.out (by omega) ((f : Int) + 4 * i) (by omega))
      have hset := hbx.set ((f + 4 * i) * 28 + i) (B (G.ix wd i))
      rw [bs_set, HS.out i hit] at hset
      have HSET := Lib.hid hset
      have HBX := Lib.hid hbx
      clear hcw hcr hset hbx
      go_wp2_with fail
      refine HC.out.mono ?_
      rintro e w1 ⟨rfl, rfl⟩
      go_wp2_with fail
      go_roundw
      case rel =>
        refine ⟨i + 1, by omega, by go_num, HSET.out, (hbe.drew).setCell (Nat.le_refl _) _, Lib.hid fun k hk hkb => ?_⟩
        exact (Below.heap_setCell wr ⟨gr, (f + 4 * i) * 28 + i, none⟩ (B (G.ix wd i)) k hkb).trans (HK.out k hk hkb)
      case measure => simp [intOf]; omega
    · obtain rfl : i = 28 := by omega
      go_wp2_with fail
      go_end0
      exact ⟨rfl, hbx, hbe, HK.out⟩
end Go.Proofs.Ytkebnmmcogkldaa.C9
