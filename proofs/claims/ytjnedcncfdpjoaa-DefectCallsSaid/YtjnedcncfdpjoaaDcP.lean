/- 'append' to a row that the call owns: the row lies in the block where it lay, or in a new one. No program is named here. -/
import Derived.Test.YtjnedcncfdpjoaaEn3
import Derived.Test.YtjnedcncfdpjoaaQc
import Derived.Test.YtjnedcncfdpjoaaTk
import Derived.Test.YtjnedcncfdpjoaaTocApp
import Derived.Outline
import Derived.Test.YtjnedcncfdpjoaaChecked
import Derived.Maps.OwnOps
import Derived.Maps.OwnSet
import Derived.Maps.Views
import Derived.WideKeyEntry
import Derived.Below
import Derived.ProofKit
import Derived.WalkKit
import Derived.Test.YtjnedcncfdpjoaaEk
import Derived.Test.YtjnedcncfdpjoaaOwn
/- Chapter 1: the number of some bytes, plain. -/
namespace Go.Proofs.Ytjnedcncfdpjoaa.E1
open Go.RowKit
set_option linter.unusedVariables false

/-- the number of bytes, the greatest first -/
def beV (l : List UInt8) : Nat := l.foldl (fun a c => 256 * a + c.toNat) 0
theorem beV_snoc (l : List UInt8) (c : UInt8) : beV (l ++ [c]) = 256 * beV l + c.toNat := by simp [beV]
theorem beV_fold : ∀ (l : List UInt8) (a : Nat), l.foldl (fun a c => 256 * a + c.toNat) a = a * 256 ^ l.length + beV l
  | [], a => by simp [beV]
  | c :: l, a => by
    have e : beV (c :: l) = (256 * 0 + c.toNat) * 256 ^ l.length + beV l := beV_fold l _
    rw [e, List.foldl_cons, beV_fold l, List.length_cons, Nat.pow_succ, Nat.mul_zero, Nat.zero_add, Nat.add_mul, Nat.add_assoc]
    congr 1
    rw [Nat.mul_comm 256 a, Nat.mul_assoc, Nat.mul_comm 256]
theorem beV_cons (c : UInt8) (l : List UInt8) : beV (c :: l) = c.toNat * 256 ^ l.length + beV l := by
  have e : beV (c :: l) = (256 * 0 + c.toNat) * 256 ^ l.length + beV l := beV_fold l _
  rw [e, Nat.mul_zero, Nat.zero_add]
theorem beV_beN (n : Nat) : ∀ k, beV (beN n k) = n % 256 ^ k
  | 0 => by simp [beN, leN, beV, Nat.mod_one]
  | k + 1 => by
    have e : beN n (k + 1) = leB n k :: beN n k := by simp [beN, leN]
    have e2 : (leB n k).toNat = n / 256 ^ k % 256 := by
      unfold leB; rw [UInt8.toNat_ofNat']; omega
    rw [e, beV_cons, beN_length, beV_beN n k, e2, Nat.mod_pow_succ, Nat.add_comm, Nat.mul_comm]
theorem beV_lt : ∀ l : List UInt8, beV l < 256 ^ l.length
  | [] => by simp [beV]
  | c :: l => by
    have h1 := beV_lt l
    have h2 := c.toNat_lt
    rw [beV_cons, List.length_cons, Nat.pow_succ]
    have h3 : c.toNat * 256 ^ l.length ≤ 255 * 256 ^ l.length := Nat.mul_le_mul_right _ (by omega)
    omega
/-- the number at an offset, 0 if it is not there -/
def rdE (s : List UInt8) (at' size : Nat) : Nat := if at' + size ≤ s.length then beV ((s.drop at').take size) else 0
theorem rdE_at (a b c : List UInt8) {o k : Nat} (ha : a.length = o) (hb : b.length = k) : rdE (a ++ b ++ c) o k = beV b := by
  subst ha hb
  unfold rdE
  rw [if_pos (by simp), List.append_assoc, List.drop_left, List.take_left]
theorem rdE_lt (s : List UInt8) (o k : Nat) (hk : 0 < k) : rdE s o k < 256 ^ k := by
  unfold rdE
  split
  · have := beV_lt ((s.drop o).take k)
    have e : ((s.drop o).take k).length = k := by rw [List.length_take, List.length_drop]; omega
    rwa [e] at this
  · exact Nat.pos_of_ne_zero (by simp)
theorem big_le (n : Int) (k : Nat) : (bigR n k).1.length ≤ k := by
  unfold bigR; split
  · rw [beN_length]; omega
  · simp

end Go.Proofs.Ytjnedcncfdpjoaa.E1
/- The encoding of a table, and what is read back: plain (chapter 14). -/
namespace Go.Proofs.Ytjnedcncfdpjoaa.E1
open Go.RowKit W10
set_option linter.unusedVariables false

def b2 (n : Int) : List UInt8 := (bigR n 2).1
def b4 (n : Int) : List UInt8 := (bigR n 4).1
theorem big_ok {n : Int} {k : Nat} (h : fitE n k = true) : (bigR n k).1.length = k ∧ (beV (bigR n k).1 : Int) = n := by
  unfold bigR
  rw [if_pos h]
  unfold fitE at h
  rw [Bool.and_eq_true, decide_eq_true_eq, decide_eq_true_eq] at h
  refine ⟨beN_length _ _, ?_⟩
  simp only
  rw [beV_beN, Nat.mod_eq_of_lt]
  · omega
  · have := h.2
    rw [Nat.div_eq_zero_iff] at this
    rcases this with h0 | h0
    · exact absurd h0 (by simp)
    · exact h0
theorem b2_ok {n : Int} (h0 : 0 ≤ n) (h1 : n < 65536) : (b2 n).length = 2 ∧ (beV (b2 n) : Int) = n := big_ok (by rw [fitE_2]; exact decide_eq_true ⟨h0, h1⟩)
theorem b4_ok {n : Int} (h0 : 0 ≤ n) (h1 : n < 4294967296) : (b4 n).length = 4 ∧ (beV (b4 n) : Int) = n := big_ok (by rw [fitE_4]; exact decide_eq_true ⟨h0, h1⟩)
/-- a track, a table -/
def trkE (x : T.Trk) : List UInt8 := b2 x.num ++ b2 x.ses ++ b4 x.st ++ b4 x.len ++ b4 x.nx ++ b2 x.sta ++ b2 x.pk
def fn (f : Bool) : Int := if f = true then 1 else 0
def headE (q cl : Int) (f : Bool) (n : Int) : List UInt8 := [80, 77, 65, 49] ++ b4 q ++ b2 cl ++ b2 (fn f) ++ b2 n
def bodyE (q cl : Int) (f : Bool) (l : List T.Trk) : List UInt8 := headE q cl f l.length ++ l.flatMap trkE
def encE (q cl : Int) (f : Bool) (l : List T.Trk) : List UInt8 := bodyE q cl f l ++ crcB (C.crc 0 (bodyE q cl f l))
theorem trkE_le (x : T.Trk) : (trkE x).length ≤ 20 := by
  have h1 := big_le x.num 2; have h2 := big_le x.ses 2; have h3 := big_le x.st 4; have h4 := big_le x.len 4; have h5 := big_le x.nx 4; have h6 := big_le x.sta 2; have h7 := big_le x.pk 2
  unfold trkE b2 b4
  simp only [List.length_append]
  omega
theorem flat_le (l : List T.Trk) : (l.flatMap trkE).length ≤ 20 * l.length := by
  induction l with
  | nil => simp
  | cons x l ih =>
    rw [List.flatMap_cons, List.length_append, List.length_cons]
    have := trkE_le x
    omega
theorem head_le (q cl : Int) (f : Bool) (n : Int) : (headE q cl f n).length ≤ 14 := by
  have h1 := big_le q 4; have h2 := big_le cl 2; have h3 := big_le (fn f) 2; have h4 := big_le n 2
  unfold headE b2 b4
  simp only [List.length_append, List.length_cons, List.length_nil]
  omega
theorem body_le (q cl : Int) (f : Bool) (l : List T.Trk) : (bodyE q cl f l).length ≤ 14 + 20 * l.length := by
  have := head_le q cl f l.length; have := flat_le l
  unfold bodyE
  rw [List.length_append]; omega

/-- numbers that have place -/
structure FitT (x : T.Trk) : Prop where
  a : 0 ≤ x.num ∧ x.num < 65536
  b : 0 ≤ x.ses ∧ x.ses < 65536
  c : 0 ≤ x.st ∧ x.st < 4294967296
  d : 0 ≤ x.len ∧ x.len < 4294967296
  e : 0 ≤ x.nx ∧ x.nx < 4294967296
  f : 0 ≤ x.sta ∧ x.sta < 65536
  g : 0 ≤ x.pk ∧ x.pk < 65536
theorem FitT.length {x : T.Trk} (h : FitT x) : (trkE x).length = 20 := by
  unfold trkE
  simp only [List.length_append, (b2_ok h.a.1 h.a.2).1, (b2_ok h.b.1 h.b.2).1, (b4_ok h.c.1 h.c.2).1, (b4_ok h.d.1 h.d.2).1, (b4_ok h.e.1 h.e.2).1, (b2_ok h.f.1 h.f.2).1, (b2_ok h.g.1 h.g.2).1]
/-- the track at an offset -/
def trkD (s : List UInt8) (o : Nat) : T.Trk := ⟨rdE s o 2, rdE s (o + 2) 2, rdE s (o + 4) 4, rdE s (o + 8) 4, rdE s (o + 12) 4, rdE s (o + 16) 2, rdE s (o + 18) 2⟩
theorem trkD_at {x : T.Trk} (h : FitT x) (a c : List UInt8) {o : Nat} (ha : a.length = o) : trkD (a ++ trkE x ++ c) o = x := by
  obtain ⟨a1, a2⟩ := b2_ok h.a.1 h.a.2
  obtain ⟨b1, b2'⟩ := b2_ok h.b.1 h.b.2
  obtain ⟨c1, c2⟩ := b4_ok h.c.1 h.c.2
  obtain ⟨d1, d2⟩ := b4_ok h.d.1 h.d.2
  obtain ⟨e1, e2⟩ := b4_ok h.e.1 h.e.2
  obtain ⟨f1, f2⟩ := b2_ok h.f.1 h.f.2
  obtain ⟨g1, g2⟩ := b2_ok h.g.1 h.g.2
  unfold trkD trkE
  generalize b2 x.num = A at *
  generalize b2 x.ses = B at *
  generalize b4 x.st = C at *
  generalize b4 x.len = D at *
  generalize b4 x.nx = E at *
  generalize b2 x.sta = F at *
  generalize b2 x.pk = G at *
  have r1 : rdE (a ++ (A ++ B ++ C ++ D ++ E ++ F ++ G) ++ c) o 2 = beV A := by
    have := rdE_at a A (B ++ C ++ D ++ E ++ F ++ G ++ c) ha a1
    simpa only [List.append_assoc] using this
  have r2 : rdE (a ++ (A ++ B ++ C ++ D ++ E ++ F ++ G) ++ c) (o + 2) 2 = beV B := by
    have := rdE_at (a ++ A) B (C ++ D ++ E ++ F ++ G ++ c) (o := o + 2) (by simp only [List.length_append]; omega) b1
    simpa only [List.append_assoc] using this
  have r3 : rdE (a ++ (A ++ B ++ C ++ D ++ E ++ F ++ G) ++ c) (o + 4) 4 = beV C := by
    have := rdE_at (a ++ A ++ B) C (D ++ E ++ F ++ G ++ c) (o := o + 4) (by simp only [List.length_append]; omega) c1
    simpa only [List.append_assoc] using this
  have r4 : rdE (a ++ (A ++ B ++ C ++ D ++ E ++ F ++ G) ++ c) (o + 8) 4 = beV D := by
    have := rdE_at (a ++ A ++ B ++ C) D (E ++ F ++ G ++ c) (o := o + 8) (by simp only [List.length_append]; omega) d1
    simpa only [List.append_assoc] using this
  have r5 : rdE (a ++ (A ++ B ++ C ++ D ++ E ++ F ++ G) ++ c) (o + 12) 4 = beV E := by
    have := rdE_at (a ++ A ++ B ++ C ++ D) E (F ++ G ++ c) (o := o + 12) (by simp only [List.length_append]; omega) e1
    simpa only [List.append_assoc] using this
  have r6 : rdE (a ++ (A ++ B ++ C ++ D ++ E ++ F ++ G) ++ c) (o + 16) 2 = beV F := by
    have := rdE_at (a ++ A ++ B ++ C ++ D ++ E) F (G ++ c) (o := o + 16) (by simp only [List.length_append]; omega) f1
    simpa only [List.append_assoc] using this
  have r7 : rdE (a ++ (A ++ B ++ C ++ D ++ E ++ F ++ G) ++ c) (o + 18) 2 = beV G := by
    have := rdE_at (a ++ A ++ B ++ C ++ D ++ E ++ F) G c (o := o + 18) (by simp only [List.length_append]; omega) g1
    simpa only [List.append_assoc] using this
  rw [r1, r2, r3, r4, r5, r6, r7, a2, b2', c2, d2, e2, f2, g2]
theorem flat_len {l : List T.Trk} (h : ∀ x ∈ l, FitT x) : (l.flatMap trkE).length = 20 * l.length := by
  induction l with
  | nil => simp
  | cons x l ih =>
    rw [List.flatMap_cons, List.length_append, List.length_cons, (h x (by simp)).length, ih fun y hy => h y (by simp [hy])]
    omega
/-- what is read back -/
def seqD (s : List UInt8) : Nat := rdE s 4 4
def clD (s : List UInt8) : Nat := rdE s 8 2
def finD (s : List UInt8) : Bool := rdE s 10 2 == 1
def cntD (s : List UInt8) : Nat := rdE s 12 2
def tksD (s : List UInt8) (n : Nat) : List T.Trk := (List.range n).map fun k => trkD s (14 + 20 * k)
theorem tksD_length (s : List UInt8) (n : Nat) : (tksD s n).length = n := by simp [tksD]
theorem tksD_succ (s : List UInt8) (n : Nat) : tksD s (n + 1) = tksD s n ++ [trkD s (14 + 20 * n)] := by simp [tksD, List.range_succ]
/-- whether a string is the encoding of a table -/
def okD (cap : Int) (s : List UInt8) : Bool :=
  decide (16 ≤ s.length ∧ s.length = 16 + 20 * cntD s) && T.validB cap (clD s) (finD s) (tksD s (cntD s)) && decide (seqD s ≤ 2147483647) && decide (encE (seqD s) (clD s) (finD s) (tksD s (cntD s)) = s)
theorem okD_iff {cap : Int} {s : List UInt8} : okD cap s = true ↔ (16 ≤ s.length ∧ s.length = 16 + 20 * cntD s) ∧ T.validR cap (clD s) (finD s) (tksD s (cntD s)) ∧ seqD s ≤ 2147483647 ∧ encE (seqD s) (clD s) (finD s) (tksD s (cntD s)) = s := by
  unfold okD
  simp only [Bool.and_eq_true, decide_eq_true_eq, T.validB_true, and_assoc]
theorem fit_of_valid {cap cl : Int} {fin : Bool} {l : List T.Trk} (hv : T.validR cap cl fin l) : ∀ x ∈ l, FitT x := by
  intro x hx
  obtain ⟨i, hi, rfl⟩ := List.getElem_of_mem hx
  have e : l[i] = T.tr l i := by simp [T.tr, hi]
  rw [e]
  have h1 := T.validR.at hv hi
  have h2 := hv.2.1
  have h0 := hv.2.2.1
  obtain ⟨o1, o2, o3, o4, o5, o6, o7, o8, o9, o10, o11, o12, o13, o14⟩ := hv.2.2.2.2.2.1 i hi
  have hs : 1 ≤ (T.tr l i).ses := by
    have := T.okR.mono hv.2.2.2.2.2.1 0 (i + 1) (by omega)
    rw [Nat.zero_add, T.sB_zero, T.sB_succ] at this
    exact this
  exact ⟨by omega, by omega, by omega, by omega, by omega, by omega, by omega⟩
theorem tr_mem {l : List T.Trk} {i : Nat} (h : i < l.length) : T.tr l i ∈ l := by simp [T.tr, h]
theorem split_at {l : List T.Trk} {k : Nat} (hk : k < l.length) : l = l.take k ++ T.tr l k :: l.drop (k + 1) := by
  have e : T.tr l k = l[k] := by simp [T.tr, hk]
  rw [e, ← List.drop_eq_getElem_cons hk, List.take_append_drop]
/-- what was encoded is read back -/
theorem enc_read {q cl : Int} {fin : Bool} {l : List T.Trk} (hq : 0 ≤ q ∧ q < 4294967296) (hc : 0 ≤ cl ∧ cl < 65536) (hn : l.length < 65536) (hl : ∀ x ∈ l, FitT x) :
    (encE q cl fin l).length = 16 + 20 * l.length ∧ (seqD (encE q cl fin l) : Int) = q ∧ (clD (encE q cl fin l) : Int) = cl ∧ finD (encE q cl fin l) = fin ∧ cntD (encE q cl fin l) = l.length ∧ tksD (encE q cl fin l) l.length = l := by
  obtain ⟨a1, a2⟩ := b4_ok hq.1 hq.2
  obtain ⟨b1, b2'⟩ := b2_ok hc.1 hc.2
  obtain ⟨c1, c2⟩ := b2_ok (n := fn fin) (by unfold fn; split <;> omega) (by unfold fn; split <;> omega)
  obtain ⟨d1, d2⟩ := b2_ok (n := (l.length : Int)) (by omega) (by omega)
  have hlen := flat_len hl
  have he : encE q cl fin l = [80, 77, 65, 49] ++ b4 q ++ b2 cl ++ b2 (fn fin) ++ b2 l.length ++ (l.flatMap trkE ++ crcB (C.crc 0 (bodyE q cl fin l))) := by
    simp only [encE, bodyE, headE, List.append_assoc]
  have hcr : (crcB (C.crc 0 (bodyE q cl fin l))).length = 2 := rfl
  generalize crcB (C.crc 0 (bodyE q cl fin l)) = Z at he hcr
  have htr : ∀ k, k < l.length → trkD (encE q cl fin l) (14 + 20 * k) = T.tr l k := fun k hk => by
    have hx := hl _ (tr_mem hk)
    have e1 : l.flatMap trkE = (l.take k).flatMap trkE ++ trkE (T.tr l k) ++ (l.drop (k + 1)).flatMap trkE := by
      conv => lhs; rw [split_at hk]
      rw [List.flatMap_append, List.flatMap_cons, List.append_assoc]
    have e2 : ((l.take k).flatMap trkE).length = 20 * k := by
      rw [flat_len fun x hx => hl x (List.mem_of_mem_take hx), List.length_take]; omega
    have := trkD_at hx ([80, 77, 65, 49] ++ b4 q ++ b2 cl ++ b2 (fn fin) ++ b2 l.length ++ (l.take k).flatMap trkE) ((l.drop (k + 1)).flatMap trkE ++ Z) (o := 14 + 20 * k) (by simp only [List.length_append, List.length_cons, List.length_nil]; omega)
    rw [he, e1]
    simpa only [List.append_assoc] using this
  have r1 : rdE (encE q cl fin l) 4 4 = beV (b4 q) := by
    have := rdE_at [80, 77, 65, 49] (b4 q) (b2 cl ++ b2 (fn fin) ++ b2 l.length ++ (l.flatMap trkE ++ Z)) (o := 4) rfl a1
    rw [he]
    simpa only [List.append_assoc] using this
  have r2 : rdE (encE q cl fin l) 8 2 = beV (b2 cl) := by
    have := rdE_at ([80, 77, 65, 49] ++ b4 q) (b2 cl) (b2 (fn fin) ++ b2 l.length ++ (l.flatMap trkE ++ Z)) (o := 8) (by simp only [List.length_append, List.length_cons, List.length_nil]; omega) b1
    rw [he]
    simpa only [List.append_assoc] using this
  have r3 : rdE (encE q cl fin l) 10 2 = beV (b2 (fn fin)) := by
    have := rdE_at ([80, 77, 65, 49] ++ b4 q ++ b2 cl) (b2 (fn fin)) (b2 l.length ++ (l.flatMap trkE ++ Z)) (o := 10) (by simp only [List.length_append, List.length_cons, List.length_nil]; omega) c1
    rw [he]
    simpa only [List.append_assoc] using this
  have r4 : rdE (encE q cl fin l) 12 2 = beV (b2 l.length) := by
    have := rdE_at ([80, 77, 65, 49] ++ b4 q ++ b2 cl ++ b2 (fn fin)) (b2 l.length) (l.flatMap trkE ++ Z) (o := 12) (by simp only [List.length_append, List.length_cons, List.length_nil]; omega) d1
    rw [he]
    simpa only [List.append_assoc] using this
  refine ⟨?_, ?_, ?_, ?_, ?_, ?_⟩
  · rw [he]
    simp only [List.length_append, List.length_cons, List.length_nil]
    omega
  · unfold seqD; rw [r1]; exact a2
  · unfold clD; rw [r2]; exact b2'
  · unfold finD; rw [r3]
    have : beV (b2 (fn fin)) = if fin = true then 1 else 0 := by
      have h := c2
      generalize beV (b2 (fn fin)) = z at h ⊢
      unfold fn at h
      by_cases hf : fin = true
      · rw [if_pos hf] at h ⊢; omega
      · rw [if_neg hf] at h ⊢; omega
    rw [this]
    cases fin <;> rfl
  · unfold cntD; rw [r4]; omega
  · apply List.ext_getElem
    · simp [tksD]
    · intro i h1 h2
      simp only [tksD, List.getElem_map, List.getElem_range]
      rw [htr i h2]
      simp [T.tr, h2]
theorem okD_enc {cap q cl : Int} {fin : Bool} {l : List T.Trk} (hv : T.validR cap cl fin l) (hq : 0 ≤ q) (hq2 : q ≤ 2147483647) :
    okD cap (encE q cl fin l) = true ∧ (seqD (encE q cl fin l) : Int) = q ∧ (clD (encE q cl fin l) : Int) = cl ∧ finD (encE q cl fin l) = fin ∧ cntD (encE q cl fin l) = l.length ∧ tksD (encE q cl fin l) (cntD (encE q cl fin l)) = l ∧ (encE q cl fin l).length = 16 + 20 * l.length := by
  have hl := fit_of_valid hv
  obtain ⟨h1, h2, h3, h4, h5, h6⟩ := enc_read (fin := fin) ⟨hq, by omega⟩ (show 0 ≤ cl ∧ cl < 65536 by have := hv.2.2.2; omega) (by have := hv.2.2.1; omega) hl
  refine ⟨okD_iff.2 ?_, h2, h3, h4, h5, by rw [h5, h6], h1⟩
  rw [h2, h3, h4, h5, h6]
  refine ⟨⟨by omega, h1⟩, hv, by omega, rfl⟩
/-- half of an encoding is none -/
theorem half_bad {cap : Int} {s : List UInt8} {n : Nat} (h : s.length = 16 + 20 * n) : okD cap (s.take (s.length / 2)) = false := by
  rw [Bool.eq_false_iff]
  intro h1
  have h2 := (okD_iff.1 h1).1.2
  rw [List.length_take] at h2
  generalize cntD _ = m at h2
  omega
end Go.Proofs.Ytjnedcncfdpjoaa.E1
/- Chapter 1: reading numbers, the package walked. -/
namespace Go.Proofs.Ytjnedcncfdpjoaa.E1
open Go.RowKit
set_option linter.unusedVariables false

/-- the last 'k' of 'size' bytes from 'o' on -/
def seg (l : List UInt8) (o size k : Nat) : List UInt8 := (l.drop (o + size - k)).take k
theorem seg_all (l : List UInt8) (o size : Nat) : seg l o size size = (l.drop o).take size := by unfold seg; rw [Nat.add_sub_cancel]
theorem seg_succ {l : List UInt8} {o size k : Nat} (h : k < size) (hl : o + size ≤ l.length) : seg l o size (k + 1) = G.ix l (o + (size - 1 - k)) :: seg l o size k := by
  unfold seg
  have e1 : o + size - (k + 1) = o + (size - 1 - k) := by omega
  have e2 : o + size - k = o + (size - 1 - k) + 1 := by omega
  rw [e1, e2, List.drop_eq_getElem_cons (show o + (size - 1 - k) < l.length by omega), List.take_succ_cons]
  simp [G.ix, List.getElem?_eq_getElem (show o + (size - 1 - k) < l.length by omega)]
theorem seg_length {l : List UInt8} {o size k : Nat} (h : k ≤ size) (hl : o + size ≤ l.length) : (seg l o size k).length = k := by
  unfold seg; rw [List.length_take, List.length_drop]; omega
theorem inside_any (s : ByteArray) (o c : Int) (w : World) (h0 : 0 ≤ o) (h1 : 0 ≤ c) (h2 : o ≤ 1000000) (h3 : c ≤ 8) (hs : s.size ≤ 1000000) :
    Calls Try.prog 92 #[.string s, .int .i64 o, .int .i64 c] w fun e w' => e = .returned (.bool (decide (o + c ≤ s.size))) ∧ w = w' := by
  by_cases h : o + c ≤ s.size
  · rw [decide_eq_true h]
    have hx : o ≤ (s.size : Int) - c := by omega
    go_enter Try.func92, Try.ntmps92
    go_wp2_with fail
    go_ret
    exact ⟨rfl, rfl⟩
  · rw [decide_eq_false h]
    have hx : ¬ o ≤ (s.size : Int) - c := by omega
    go_enter Try.func92, Try.ntmps92
    go_wp2_with fail
    go_ret
    exact ⟨rfl, rfl⟩
theorem or64 {a c k : Nat} (ha : a < 256 ^ k) (hc : c < 256) (hk : k ≤ 6) : bits .or .u64 (a : Int) ((c * 2 ^ (8 * k) : Nat) : Int) = ((c * 256 ^ k + a : Nat) : Int) := by
  have e : (256 : Nat) ^ k = 2 ^ (8 * k) := by rw [Nat.pow_mul]
  rw [e] at ha ⊢
  have hb : c * 2 ^ (8 * k) + a = a ||| c * 2 ^ (8 * k) := by
    rw [Nat.mul_comm, Nat.two_pow_add_eq_or_of_lt ha, Nat.or_comm]
  have hp : (2 : Nat) ^ (8 * k) ≤ 2 ^ 48 := Nat.pow_le_pow_right (by omega) (by omega)
  have hq : c * 2 ^ (8 * k) ≤ 255 * 2 ^ 48 := Nat.mul_le_mul (by omega) hp
  rw [hb]
  generalize c * 2 ^ (8 * k) = q at *
  have hz : a ||| q < 2 ^ 62 := by rw [← hb]; omega
  show IntKind.u64.wrap ((BitVec.ofInt 64 (a : Int) ||| BitVec.ofInt 64 (q : Int)).toNat : Int) = _
  rw [BitVec.toNat_or, ofInt_u64 a (by omega), ofInt_u64 q (by omega)]
  generalize a ||| q = z at *
  simp [IntKind.wrap, IntKind.bits, IntKind.signed]
  omega
theorem wrapS (c k : Nat) (hc : c < 256) (hk : k ≤ 6) : IntKind.u64.wrap (IntKind.u64.wrap (c : Int) * 2 ^ (8 * k)) = ((c * 2 ^ (8 * k) : Nat) : Int) := by
  have hp : (2 : Nat) ^ (8 * k) ≤ 2 ^ 48 := Nat.pow_le_pow_right (by omega) (by omega)
  have hq : c * 2 ^ (8 * k) ≤ 255 * 2 ^ 48 := Nat.mul_le_mul (by omega) hp
  have e1 : IntKind.u64.wrap (c : Int) = (c : Int) := by
    simp [IntKind.wrap, IntKind.bits, IntKind.signed]; omega
  have e2 : (c : Int) * 2 ^ (8 * k) = ((c * 2 ^ (8 * k) : Nat) : Int) := by simp
  rw [e1, e2]
  generalize c * 2 ^ (8 * k) = q at *
  simp [IntKind.wrap, IntKind.bits, IntKind.signed]
  omega
set_option maxRecDepth 100000 in
set_option maxHeartbeats 1000000 in
theorem read_any (l : List UInt8) (o size : Nat) (x y : Int) (b : Nat) (w : World) (hy : y = o) (hx : x = size) (h1 : 1 ≤ size) (hs : size ≤ 4) (ho : o ≤ 1000000) (hl : l.length ≤ 1000000) (hc : w.cell? ⟨b, 0, none⟩ = some (.int .i64 x)) (hin : o + size ≤ l.length) :
    Calls Try.prog 80 #[.string (str l), .int .i64 y, .int .i64 x, .func (.func 82) #[] #[.pointer (some ⟨b, 0, none⟩)]] w fun e w' => e = .returned (.tuple #[.int .i64 (rdE l o size), .int .i64 0]) ∧ w = w' := by
  have HI := Lib.hid (fun W => inside_any (str l) y x W (by omega) (by omega) (by omega) (by omega) (by rw [str_size]; exact hl))
  have hd : decide (y + x ≤ ((str l).size : Int)) = true := by rw [str_size]; simp; omega
  rw [hd] at HI
  subst hx hy
  have HR : Hid (rdE l o size = beV (seg l o size size)) := Lib.hid (by unfold rdE; rw [if_pos hin, seg_all])
  clear hd
  go_enter Try.func80, Try.ntmps80
  go_wp2_with fail
  refine (HI.out _).mono ?_
  rintro e w' ⟨rfl, rfl⟩
  go_wp2_with fail
  go_loop [10, 26] (fun vn vk => ∃ k n : Nat, k ≤ size ∧ vk = .int .i64 k ∧ vn = .int .u64 n ∧ Hid (n = beV (seg l o size k)) ∧ n < 256 ^ 4) (fun _ vk => size - (intOf vk).toNat)
  case atStart => exact ⟨0, 0, by omega, rfl, rfl, Lib.hid (by simp [seg, beV]), by omega⟩
  case round =>
    obtain ⟨k, n, hk, rfl, rfl, HN, hnb⟩ := hrel
    by_cases hlt : k < size
    · have hix := fun W => run_sidxE (P := Try.prog) Try.underlying9 l (o + (size - 1 - k)) (by omega) ((o : Int) + ((size : Int) - 1 - (k : Int))) (by omega) W
      go_wp2_with (go_at_call 82; refine (down1_any b size k _ hc (by omega) (by omega) (by omega)).mono ?_; rintro e w1 ⟨rfl, rfl⟩)
      go_round
      case rel =>
        have hz := HN.out
        have hkk : n < 256 ^ k := by have := beV_lt (seg l o size k); rw [seg_length hk hin] at this; rw [hz]; exact this
        have hc8 := (G.ix l (o + (size - 1 - k))).toNat_lt
        have hsz : beV (seg l o size (k + 1)) = (G.ix l (o + (size - 1 - k))).toNat * 256 ^ k + n := by rw [seg_succ hlt hin, beV_cons, seg_length hk hin, ← hz]
        have hlt2 : beV (seg l o size (k + 1)) < 256 ^ 4 := by
          have := beV_lt (seg l o size (k + 1)); rw [seg_length (by omega) hin] at this
          exact Nat.lt_of_lt_of_le this (Nat.pow_le_pow_right (by omega) (by omega))
        refine ⟨k + 1, beV (seg l o size (k + 1)), by omega, by go_num, congrArg (Value.int .u64) ?_, Lib.hid rfl, hlt2⟩
        rw [hsz]
        generalize (G.ix l (o + (size - 1 - k))).toNat = c at *
        rw [← or64 hkk hc8 (by omega), wrapS c k hc8 (by omega)]
      case measure => simp [intOf]; omega
    · obtain rfl : k = size := by omega
      have hnb' : n ≤ 9223372036854775807 := by omega
      have hcv : IntKind.i64.wrap (n : Int) = n := IntWalk.i64_in _ (by omega)
      have HZ : Hid (n = rdE l o k) := Lib.hid (by rw [HR.out]; exact HN.out)
      clear HN HR
      go_wp2_with fail
      go_ret2
      rw [← HZ.out]
      exact ⟨rfl, rfl⟩
end Go.Proofs.Ytjnedcncfdpjoaa.E1
/- Chapter 1: ReadBig of the package and of the reference walked. -/
namespace Go.Proofs.Ytjnedcncfdpjoaa.E1
open Go.RowKit
set_option linter.unusedVariables false

def rdC (l : List UInt8) (o size : Nat) : Int := if o + size ≤ l.length then 0 else 2
set_option maxRecDepth 100000 in
theorem read_out (l : List UInt8) (o size : Nat) (x y : Int) (f : Value) (w : World) (hy : y = o) (hx : x = size) (h1 : 1 ≤ size) (hs : size ≤ 4) (ho : o ≤ 1000000) (hl : l.length ≤ 1000000) (hin : ¬ o + size ≤ l.length) :
    Calls Try.prog 80 #[.string (str l), .int .i64 y, .int .i64 x, f] w fun e w' => e = .returned (.tuple #[.int .i64 0, .int .i64 2]) ∧ w = w' := by
  have HI := Lib.hid (fun W => inside_any (str l) y x W (by omega) (by omega) (by omega) (by omega) (by rw [str_size]; exact hl))
  have hd : decide (y + x ≤ ((str l).size : Int)) = false := by rw [str_size]; simp; omega
  rw [hd] at HI
  subst hx hy
  clear hd
  go_enter Try.func80, Try.ntmps80
  go_wp2_with fail
  refine (HI.out _).mono ?_
  rintro e w' ⟨rfl, rfl⟩
  go_wp2_with fail
  go_ret2
  exact ⟨rfl, rfl⟩
set_option maxRecDepth 100000 in
theorem readbig_any (l : List UInt8) (o size : Nat) (x y : Int) (w : World) (hy : y = o) (hx : x = size) (h1 : 1 ≤ size) (hs : size ≤ 4) (ho : o ≤ 1000000) (hl : l.length ≤ 1000000) :
    Calls Try.prog 60 #[.string (str l), .int .i64 y, .int .i64 x] w fun e w' => e = .returned (.tuple #[.int .i64 (rdE l o size), .int .i64 (rdC l o size)]) ∧ Below w.heap.size w w' := by
  have HD := Lib.hid (fun W => down_any x W)
  by_cases hin : o + size ≤ l.length
  · have HR := Lib.hid (fun b W hc => read_any l o size x y b W hy hx h1 hs ho hl hc hin)
    have e : rdC l o size = 0 := by unfold rdC; rw [if_pos hin]
    rw [e]
    clear e hy hx
    go_enter Try.func60, Try.ntmps60
    go_wp2_with fail
    refine (HD.out _).mono ?_
    rintro e w1 ⟨b, rfl, hc1, hbs, hb1⟩
    go_wp2_with fail
    refine (HR.out b _ hc1).mono ?_
    rintro e w2 ⟨rfl, rfl⟩
    clear hc1
    go_wp2_with fail
    go_ret2
    exact ⟨rfl, hb1⟩
  · have HR := Lib.hid (fun f W => read_out l o size x y f W hy hx h1 hs ho hl hin)
    have e : rdC l o size = 2 := by unfold rdC; rw [if_neg hin]
    have e2 : rdE l o size = 0 := by unfold rdE; rw [if_neg hin]
    rw [e, e2]
    clear e e2 hy hx
    go_enter Try.func60, Try.ntmps60
    go_wp2_with fail
    refine (HD.out _).mono ?_
    rintro e w1 ⟨b, rfl, hc1, hbs, hb1⟩
    go_wp2_with fail
    refine (HR.out _ _).mono ?_
    rintro e w2 ⟨rfl, rfl⟩
    clear hc1
    go_wp2_with fail
    go_ret2
    exact ⟨rfl, hb1⟩

/-- 's[:k]' of a string -/
theorem run_stoE {P : Program} {t : TypeId} (ht : P.underlying t = some .string) (l : List UInt8) (k : Nat) (hk : k ≤ l.length) (x : Int) (hx : x = k) (w : World) : (Instr.slice t (.string (str l)) none (some (.int .i64 x)) none).run P w = .ok (.string (str (l.take k))) w := by
  subst hx
  have hs := str_size l
  have he : (str l).extract 0 k = str (l.take k) := by
    apply ByteArray.ext
    rw [ByteArray.data_extract]
    simp [str]
  simp [Instr.slice, run_underlying ht, Instr.sliceBounds, run_sliceBound, hs, hk, he]
/-- a part of a string -/
theorem run_scutE {P : Program} {t : TypeId} (ht : P.underlying t = some .string) (l : List UInt8) (lo hi : Nat) (h1 : lo ≤ hi) (h2 : hi ≤ l.length) (x y : Int) (hx : x = lo) (hy : y = hi) (w : World) :
    (Instr.slice t (.string (str l)) (some (.int .i64 x)) (some (.int .i64 y)) none).run P w = .ok (.string (str ((l.drop lo).take (hi - lo)))) w := by
  subst hx hy
  have e : (str l).extract lo hi = str ((l.drop lo).take (hi - lo)) := by
    apply ByteArray.ext
    rw [ByteArray.data_extract]
    simp [str]
  simp [Instr.slice, run_underlying ht, Instr.sliceBounds, run_sliceBound, str_size, h2, h1, e]
end Go.Proofs.Ytjnedcncfdpjoaa.E1
/- 'm[k] op= x' on a map: the entry is looked up or made, then stored; a map of ints as a set. No program is named here but by its numbers. -/
namespace Go.Proofs.Ytjnedcncfdpjoaa.Mp
open Go.RowKit Go.Maps Go.MapKept Go.WideElems Go.ChangeMaps
set_option linter.unusedVariables false

section
variable {H : Type} {P : Program} {k e t : TypeId} {R : Value → Option (DataW H × List MemPlace)} {w : World} {b n : Nat} {D : DataW H}
theorem setBlock_twice (w : World) (b : Nat) (o o' : Obj) : setBlock (setBlock w b o) b o' = setBlock w b o' := by simp [setBlock]
theorem run_entryStore {w1 : World} {es1 : Array MapEntry} {c1 j : Nat} {st : Nat} {val : Value} (hw : w1.heap[b]? = some (.map es1 c1)) (hidx : es1.findIdx? (fun e => ((e.born : Nat) : Int) == ((st : Nat) : Int)) = some j) :
    (Instr.entryStore t (.map (some b)) (.int .i64 st) val).run P w1 = .ok () (setBlock w1 b (.map (es1.modify j fun e => { e with val := val }) c1)) := by
  simp [Instr.entryStore, MapKept.run_getObj_map hw, asInt, asIntOf, hidx, MapKept.run_setObj_map _ hw, Result.andThen, setBlock]
/-- the entry of a key: what it holds, and what storing to it does -/
theorem entry_store (h : w.ownsMap P k R b n D) (K : Keyed P k) (ht : P.underlying t = some (.map k e)) {z : Value} (hz : ∀ u : World, (zeroValue e).run P u = .ok z u) (hn : n < maxLen) {key : Value} {kl : Lit} (hkey : keyOf P k key = some kl) {zd : DataW H} {zp : List MemPlace} (hzd : R z = some (zd, zp)) :
    ∃ (v0 : Value) (st : Nat) (w1 : World), (Instr.mapEntry t (.map (some b)) key).run P w = .ok (.tuple #[v0, .int .i64 st]) w1 ∧ w.grownBy w1 (some b) ∧ (∃ ps, R v0 = some (D.atKey kl zd, ps)) ∧
      ∀ (val : Value) (d : DataW H) (ps : List MemPlace), R val = some (d, ps) → ∃ w2, (Instr.entryStore t (.map (some b)) (.int .i64 st) val).run P w1 = .ok () w2 ∧ w2.ownsMap P k R b (n + 1) (D.put kl d) ∧ w.grownBy w2 (some b) := by
  have hstore := fun (val : Value) (d : DataW H) (ps : List MemPlace) (hv : R val = some (d, ps)) => h.store K ht hn hkey hv
  obtain ⟨v1, p1, hl1, hl2⟩ := h.lookup K ht (hz w) hzd hkey
  obtain ⟨es, clock, hb, F, hs, hD⟩ := h
  obtain ⟨s1, s2, _⟩ := F.stamped
  have hgrow : ∀ o, w.grownBy (setBlock w b o) (some b) := fun o => ⟨rfl, rfl, rfl, by simp [setBlock], fun i _ hi => heap_setBlock_other hb o (fun e => hi (by rw [e]))⟩
  rcases K.find w hkey es.toList F.keys with ⟨h1, h2⟩ | ⟨j, e0, h1, h2, h3⟩
  · have hrun : (Instr.mapEntry t (.map (some b)) key).run P w = .ok (.tuple #[z, .int .i64 clock]) (setBlock w b (.map (es.push ⟨key, z, clock⟩) (clock + 1))) := by
      simp [Instr.mapEntry, run_underlying ht, MapKept.run_getObj_map hb, K.check w false hkey, h1, hz, MapKept.run_setObj_map _ hb, Result.andThen, setBlock, goInt]
    have hlk : (Instr.lookup t (.map (some b)) key false).run P w = .ok z w := by
      simp [Instr.lookup, run_underlying ht, MapKept.run_getObj_map hb, K.check w es.isEmpty hkey, h1, hz, Result.andThen]
    rw [hlk] at hl1
    have hv1 : v1 = z := by simpa using hl1.symm
    subst hv1
    refine ⟨v1, clock, _, hrun, hgrow _, ⟨p1, hl2⟩, fun val d ps hv => ?_⟩
    have hw2 := heap_setBlock_same hb (.map (es.push ⟨key, v1, clock⟩) (clock + 1))
    have hidx : (es.push ⟨key, v1, clock⟩).findIdx? (fun e => ((e.born : Nat) : Int) == ((clock : Nat) : Int)) = some es.size := by
      rw [findIdx_arr]
      exact findIdx_born (l := (es.push ⟨key, v1, clock⟩).toList) (j := es.size) (e0 := ⟨key, v1, clock⟩) (by
        simp only [Array.toList_push, List.map_append, List.map_cons, List.map_nil]
        refine List.nodup_append.2 ⟨s2, by simp, fun a ha c hc e1 => ?_⟩
        simp only [List.mem_singleton] at hc
        obtain ⟨x, hx, rfl⟩ := List.mem_map.1 ha
        have := s1 x hx
        omega) (by simp)
    have hmod : (es.push ⟨key, v1, clock⟩).modify es.size (fun e => { e with val := val }) = es.push ⟨key, val, clock⟩ := by
      apply Array.ext'
      rw [Array.toList_modify, Array.toList_push, Array.toList_push, ← Array.length_toList, modify_last]
    have hes := run_entryStore (P := P) (t := t) (val := val) hw2 hidx
    rw [setBlock_twice, hmod] at hes
    have hup : (Instr.mapUpdate t (.map (some b)) key val).run P w = .ok () (setBlock w b (.map (es.push ⟨key, val, clock⟩) (clock + 1))) := by
      simp [Instr.mapUpdate, run_underlying ht, MapKept.run_getObj_map hb, K.check w false hkey, h1, MapKept.run_setObj_map _ hb, Result.andThen, setBlock]
    obtain ⟨w', hr, ho, hg⟩ := hstore val d ps hv
    rw [hup] at hr
    have e : setBlock w b (.map (es.push ⟨key, val, clock⟩) (clock + 1)) = w' := by simpa using hr
    exact ⟨_, hes, by rw [e]; exact ho, hgrow _⟩
  · have hj : es[j]? = some e0 := by simpa using h2
    have hsame : es.modify j (fun e => { e with key := key }) = es := by
      apply Array.ext'
      rw [Array.toList_modify, modify_eq_set _ _ _ _ h2]
      have : ({ e0 with key := key } : MapEntry) = e0 := by rw [← h3]
      rw [this]
      exact set_self _ _ _ h2
    have hrun : (Instr.mapEntry t (.map (some b)) key).run P w = .ok (.tuple #[e0.val, .int .i64 e0.born]) (setBlock w b (.map es clock)) := by
      simp [Instr.mapEntry, run_underlying ht, MapKept.run_getObj_map hb, K.check w false hkey, h1, hj, h3, K.stays w hkey, hsame, MapKept.run_setObj_map _ hb, Result.andThen, setBlock, goInt]
    have hlk : (Instr.lookup t (.map (some b)) key false).run P w = .ok e0.val w := by
      simp [Instr.lookup, run_underlying ht, MapKept.run_getObj_map hb, K.check w es.isEmpty hkey, h1, Result.andThen]
    rw [hlk] at hl1
    have hv1 : v1 = e0.val := by simpa using hl1.symm
    subst hv1
    refine ⟨e0.val, e0.born, _, hrun, hgrow _, ⟨p1, hl2⟩, fun val d ps hv => ?_⟩
    have hw2 := heap_setBlock_same hb (.map es clock)
    have hidx : es.findIdx? (fun e => ((e.born : Nat) : Int) == ((e0.born : Nat) : Int)) = some j := by
      rw [findIdx_arr]
      exact findIdx_born s2 h2
    have hmod : es.modify j (fun e => { e with val := val }) = es.modify j (fun e' => { e' with key := key, val := val }) := by
      apply Array.ext'
      rw [Array.toList_modify, Array.toList_modify, modify_eq_set _ _ _ _ h2, modify_eq_set _ _ _ _ h2, ← h3]
    have hes := run_entryStore (P := P) (t := t) (val := val) hw2 hidx
    rw [setBlock_twice, hmod] at hes
    have hup : (Instr.mapUpdate t (.map (some b)) key val).run P w = .ok () (setBlock w b (.map (es.modify j (fun e' => { e' with key := key, val := val })) clock)) := by
      simp [Instr.mapUpdate, run_underlying ht, MapKept.run_getObj_map hb, K.check w false hkey, h1, hj, h3, K.stays w hkey, MapKept.run_setObj_map _ hb, Result.andThen, setBlock]
    obtain ⟨w', hr, ho, hg⟩ := hstore val d ps hv
    rw [hup] at hr
    have e : setBlock w b (.map (es.modify j (fun e' => { e' with key := key, val := val })) clock) = w' := by simpa using hr
    exact ⟨_, hes, by rw [e]; exact ho, hgrow _⟩
end
end Go.Proofs.Ytjnedcncfdpjoaa.Mp
/- A map from int to bool that the call made: read as a function. -/
namespace Go.Proofs.Ytjnedcncfdpjoaa.Mp
open Go.RowKit Go.Maps
set_option linter.unusedVariables false

theorem lawInt : Keyed Try.prog 3 := int_keyed Try.underlying3
theorem zeroBool : ∀ w, (zeroValue 4).run Try.prog w = .ok (.bool false) w := fun _ => by kernel_rfl
theorem wfI {x : Int} (h1 : -9223372036854775808 ≤ x) (h2 : x ≤ 9223372036854775807) : (Lit.int .i64 x).wf = true := by simp [Lit.wf, IntKind.min, IntKind.max, IntKind.signed, IntKind.bits]; omega
theorem plainElem_bool_inv {H : Type} {P : Program} {e : TypeId} (he : P.underlying e = some .bool) {v : Value} {z : DataW H × List MemPlace} (h : plainElem P e v = some z) : ∃ a, v = .bool a ∧ z = (.lit (.bool a), []) := by
  unfold plainElem at h
  rw [he] at h
  cases v <;> simp at h
  exact ⟨_, rfl, h.symm⟩

/-- block 'b' is a map of at most 'n' entries; at the int 'x' it reads 'f x' -/
def SetI (w : World) (b n : Nat) (f : Int → Bool) : Prop :=
  ∃ D : DataW Unit, w.ownsMap Try.prog 3 (plainElem Try.prog 4) b n D ∧ ∀ x, -9223372036854775808 ≤ x → x ≤ 9223372036854775807 → D.atKey (.int .i64 x) (.lit (.bool false)) = .lit (.bool (f x))
theorem SetI.made (w : World) : SetI (w.alloc (.map #[] 0)) w.heap.size 0 (fun _ => false) := ⟨.map [], World.ownsMap_made _ _ _ _, fun x _ _ => rfl⟩
theorem SetI.lt {w : World} {b n : Nat} {f : Int → Bool} (h : SetI w b n f) : b < w.heap.size := by
  obtain ⟨D, h, _⟩ := h; exact h.lt
theorem SetI.kept {w w' : World} {b n : Nat} {f : Int → Bool} (h : SetI w b n f) (hk : w'.heap[b]? = w.heap[b]?) : SetI w' b n f := by
  obtain ⟨D, ⟨es, clock, hb, F, hs, hD⟩, hf⟩ := h
  exact ⟨D, ⟨es, clock, hk.trans hb, F, hs, hD⟩, hf⟩
theorem SetI.below {w w' : World} {b n : Nat} {f : Int → Bool} (h : SetI w b n f) (hb : Below w.heap.size w w') : SetI w' b n f := h.kept (hb.block b h.lt)
theorem SetI.run {w : World} {b n : Nat} {f : Int → Bool} (h : SetI w b n f) (x : Int) (h1 : -9223372036854775808 ≤ x) (h2 : x ≤ 9223372036854775807) :
    (Instr.lookup 78 (.map (some b)) (.int .i64 x) false).run Try.prog w = .ok (.bool (f x)) w := by
  obtain ⟨D, hown, hf⟩ := h
  obtain ⟨v, ps, hrun, hv⟩ := hown.lookup lawInt Try.underlying78 (zeroBool w) (plainElem_bool Try.underlying4 false) (keyOf_int_mk Try.underlying3 (wfI h1 h2))
  obtain ⟨c, rfl, hc⟩ := plainElem_bool_inv Try.underlying4 hv
  simp only [Prod.mk.injEq] at hc
  rw [hf x h1 h2] at hc
  have : c = f x := by simpa using hc.1.symm
  rw [hrun, this]
def setF (f : Int → Bool) (x : Int) (v : Bool) : Int → Bool := fun y => if y = x then v else f y
/-- 'm[x] = v' -/
theorem wpList_setI {w : World} {ops : Array Oper} {rest : List Oper} {o : Oper} {a : Act} {Q : Exit → Act → World → Prop}
    (hg : o.guard = none) (m x v : Operand) (hop : o.op = Op.mapUpdate 78 m x v) {b n : Nat} {f : Int → Bool} (hown : SetI w b n f) (hm : a.eval m = .map (some b)) {X : Int} (hx : a.eval x = .int .i64 X) {V : Bool} (hv : a.eval v = .bool V)
    (h1 : -9223372036854775808 ≤ X) (h2 : X ≤ 9223372036854775807) (hn : n < 1000000)
    (hK : ∀ w', SetI w' b (n + 1) (setF f X V) → w.grownBy w' (some b) → wpList Try.prog ops Q rest (a.put o.dst undef) w') : wpList Try.prog ops Q (o :: rest) a w := by
  obtain ⟨D, hown, hf⟩ := hown
  refine wpList_mapUpdate_own _ hg m x v 78 hop 3 4 lawInt Try.underlying78 _ b n D hm hown (by unfold maxLen; omega) _ _ _ hx hv (keyOf_int_mk Try.underlying3 (wfI h1 h2)) _ [] (plainElem_bool Try.underlying4 V) ?_
  intro w' ho hgr
  refine hK w' ⟨_, ho, fun y g1 g2 => ?_⟩ hgr
  unfold setF
  by_cases e : y = X
  · subst e
    rw [if_pos rfl, atKey_put_same hown.isMap]
    trivial
  · rw [if_neg e, atKey_put_other (by simpa using e), hf y g1 g2]
end Go.Proofs.Ytjnedcncfdpjoaa.Mp
/- Chapter 13: the encoding's numbers in plain words. -/
namespace Go.Proofs.Ytjnedcncfdpjoaa.D13
open Go.RowKit Go.Maps
set_option linter.unusedVariables false

def nums13 (T : Tab) : List Int := head13 T ++ T.prim ++ T.reps.flatMap fun p => [p.1, p.2]
theorem encL_pairs (l : List (Int × Int)) : l.flatMap repB = encL (l.flatMap fun p => [p.1, p.2]) := by
  induction l with
  | nil => rfl
  | cons p r ih =>
    rw [List.flatMap_cons, List.flatMap_cons, encL_append, ih]
    simp [encL, repB]
theorem body_nums (T : Tab) : body13 T = magic13 ++ encL (nums13 T) := by
  unfold body13 nums13
  rw [encL_append, encL_append, encL_pairs]
  simp only [List.append_assoc]
theorem encL_len {l : List Int} (h : ∀ x ∈ l, 0 ≤ x ∧ x < 65536) : (encL l).length = 2 * l.length := by
  induction l with
  | nil => rfl
  | cons x r ih =>
    have hx := h x (by simp)
    have e := (E1.b2_ok hx.1 hx.2).1
    have e2 : encL (x :: r) = b2 x ++ encL r := by simp [encL]
    rw [e2, List.length_append, ih fun y hy => h y (by simp [hy]), List.length_cons]
    have e3 : (b2 x).length = 2 := e
    omega
theorem rd_nums {l : List Int} (h : ∀ x ∈ l, 0 ≤ x ∧ x < 65536) (a c : List UInt8) {i : Nat} (hi : i < l.length) : ((E1.rdE (a ++ encL l ++ c) (a.length + 2 * i) 2 : Nat) : Int) = ixI l i := by
  have hx := h _ (ixI_mem hi)
  have hb : (b2 (ixI l i)).length = 2 ∧ ((E1.beV (b2 (ixI l i)) : Nat) : Int) = ixI l i := E1.b2_ok hx.1 hx.2
  have e : l = l.take i ++ [ixI l i] ++ l.drop (i + 1) := by
    rw [← ixI_append_take l i hi, List.take_append_drop]
  have e2 : encL l = encL (l.take i) ++ b2 (ixI l i) ++ encL (l.drop (i + 1)) := by
    rw [show encL l = encL (l.take i ++ [ixI l i] ++ l.drop (i + 1)) from congrArg encL e, encL_append, encL_append]
    simp [encL]
  have e3 : a ++ encL l ++ c = (a ++ encL (l.take i)) ++ b2 (ixI l i) ++ (encL (l.drop (i + 1)) ++ c) := by
    rw [e2]; simp only [List.append_assoc]
  rw [e3, E1.rdE_at _ _ _ (by
    rw [List.length_append, encL_len fun x hx => h x (List.mem_of_mem_take hx), List.length_take, Nat.min_eq_left (by omega)]) hb.1]
  exact hb.2
section
variable {T : Tab}
theorem Tab.Ok.keys_le (h : T.Ok) : ∀ p ∈ T.reps, 0 ≤ p.1 ∧ p.1 < T.blocks ∧ 0 ≤ p.2 ∧ p.2 < T.used := by
  intro p hp
  simp only [Tab.reps, List.mem_map] at hp
  obtain ⟨x, hx, rfl⟩ := hp
  have hk := ((h.mem_keys x).1 hx).2
  cases e : T.mv x with
  | none => rw [e] at hk; cases hk
  | some s =>
    have h1 := h.mr x s e
    have e2 : (T.pair x).2 = (s : Int) := by unfold Tab.pair; rw [e]; rfl
    rw [e2]
    show 0 ≤ x ∧ x < _ ∧ _
    omega
theorem Tab.Ok.nums (h : T.Ok) (hk : T.keys.length ≤ T.used) : ∀ x ∈ nums13 T, 0 ≤ x ∧ x < 65536 := by
  have h1 := h.b2
  have h2 := h.sp
  have h3 := h.pl
  have h4 := h.us
  intro x hx
  simp only [nums13, List.mem_append, head13, List.mem_cons, List.not_mem_nil, or_false, List.mem_flatMap] at hx
  rcases hx with (hx | hx) | ⟨p, hp, hx⟩
  · rcases hx with rfl | rfl | rfl | rfl | rfl <;> omega
  · have := h.pr x hx
    have := first_int T
    omega
  · have := h.keys_le p hp
    rcases hx with rfl | rfl <;> omega
theorem nums_length (T : Tab) : (nums13 T).length = 5 + T.prim.length + 2 * T.keys.length := by
  have e : ∀ l : List (Int × Int), (l.flatMap fun p => [p.1, p.2]).length = 2 * l.length := by
    intro l
    induction l with
    | nil => rfl
    | cons p r ih => rw [List.flatMap_cons, List.length_append, ih, List.length_cons]; simp; omega
  unfold nums13
  rw [List.length_append, List.length_append, e, Tab.reps_length]
  rfl
theorem Tab.Ok.enc_length (h : T.Ok) (hk : T.keys.length ≤ T.used) : (body13 T).length = 14 + 2 * T.prim.length + 4 * T.keys.length := by
  rw [body_nums, List.length_append, encL_len (h.nums hk), nums_length]
  show 4 + _ = _
  omega
/-- the number 'i' of an encoding -/
theorem Tab.Ok.rd (h : T.Ok) (hk : T.keys.length ≤ T.used) {i : Nat} (hi : i < (nums13 T).length) : ((E1.rdE (enc13 T) (4 + 2 * i) 2 : Nat) : Int) = ixI (nums13 T) i := by
  unfold enc13
  rw [body_nums]
  exact rd_nums (h.nums hk) magic13 _ hi
theorem flat_pairs (l : List (Int × Int)) {k : Nat} (h : k < l.length) : ixI (l.flatMap fun p => [p.1, p.2]) (2 * k) = (atD ((0 : Int), (0 : Int)) l k).1 ∧ ixI (l.flatMap fun p => [p.1, p.2]) (2 * k + 1) = (atD ((0 : Int), (0 : Int)) l k).2 := by
  induction l generalizing k with
  | nil => simp at h
  | cons p r ih =>
    cases k with
    | zero => exact ⟨rfl, rfl⟩
    | succ k =>
      have := ih (k := k) (by simpa using h)
      exact this
theorem ixI_left (a b : List Int) {i : Nat} (h : i < a.length) : ixI (a ++ b) i = ixI a i := by simp [ixI, List.getElem?_append_left h]
theorem ixI_right (a b : List Int) (i : Nat) : ixI (a ++ b) (a.length + i) = ixI b i := by simp [ixI, List.getElem?_append_right]
theorem nums_head (T : Tab) {i : Nat} (h : i < 5) : ixI (nums13 T) i = ixI (head13 T) i := by
  unfold nums13
  have e : (head13 T).length = 5 := rfl
  rw [ixI_left _ _ (by rw [List.length_append]; omega), ixI_left _ _ (by omega)]
theorem nums_prim (T : Tab) {i : Nat} (h : i < T.prim.length) : ixI (nums13 T) (5 + i) = ixI T.prim i := by
  unfold nums13
  have e : (head13 T).length = 5 := rfl
  rw [ixI_left _ _ (by rw [List.length_append]; omega), ← e, ixI_right]
theorem nums_reps (T : Tab) {k : Nat} (h : k < T.reps.length) : ixI (nums13 T) (5 + T.prim.length + 2 * k) = (atD ((0 : Int), (0 : Int)) T.reps k).1 ∧ ixI (nums13 T) (5 + T.prim.length + 2 * k + 1) = (atD ((0 : Int), (0 : Int)) T.reps k).2 := by
  unfold nums13
  have e : (head13 T ++ T.prim).length = 5 + T.prim.length := by rw [List.length_append]; rfl
  rw [← e, Nat.add_assoc, ixI_right, ixI_right]
  exact flat_pairs T.reps h
end
end Go.Proofs.Ytjnedcncfdpjoaa.D13
/- Chapter 13: next, Decode walked, at an encoding. -/
namespace Go.Proofs.Ytjnedcncfdpjoaa.D13
open Go.RowKit Go.Maps
set_option linter.unusedVariables false

/-- the reader at an offset -/
abbrev RdrW (w : World) (gr : Nat) (l : List UInt8) (o : Nat) : Prop := Bx w gr 77 [.string (str l), .int .i64 o]
def nxtV (gr : Nat) (l : List UInt8) (o : Nat) (i : Nat) (v : Value) (W : World) : Prop := match i with
  | 0 => v = .pointer (some ⟨gr, 0, none⟩)
  | 1 => v = .pointer (some ⟨gr, 0, none⟩)
  | 2 => v = .pointer (some ⟨gr, 0, none⟩)
  | 3 => v = .string (str l)
  | 4 => v = .pointer (some ⟨gr, 0, none⟩)
  | 5 => v = .pointer (some ⟨gr, 0, none⟩)
  | 6 => v = .pointer (some ⟨gr, 1, none⟩)
  | 7 => v = .int .i64 (o : Nat)
  | 8 => v = .tuple #[.int .i64 (E1.rdE l o 2 : Nat), .int .i64 (E1.rdC l o 2)]
  | 9 => v = .tuple #[.int .i64 (E1.rdE l o 2 : Nat), .int .i64 (E1.rdC l o 2)]
  | 10 => v = .int .i64 (E1.rdE l o 2 : Nat)
  | 11 => v = .int .i64 (E1.rdC l o 2)
  | 12 => v = .int .i64 (E1.rdE l o 2 : Nat)
  | 13 => v = .int .i64 (E1.rdC l o 2)
  | _ => True
theorem nxtV_keep (gr : Nat) (l : List UInt8) (o : Nat) (i : Nat) (v : Value) (W W' : World) (hR : (fun w W => Below w.heap.size w W) W W') (h : nxtV gr l o i v W) : nxtV gr l o i v W' := by
  unfold nxtV at h ⊢
  split at h <;> first | exact h
set_option maxRecDepth 100000 in
set_option maxHeartbeats 4000000 in
theorem next_any {w : World} {gr o : Nat} {l : List UInt8} (h : RdrW w gr l o) (ho : o ≤ 1000000) (hl : l.length ≤ 1000000) :
    Calls Try.prog 45 #[.pointer (some ⟨gr, 0, none⟩)] w fun e w' => e = .returned (.int .i64 (E1.rdE l o 2 : Nat)) ∧ RdrW w' gr l (o + 2) ∧ Turn1 gr w w' := by
  have HO := Lib.hid ho
  have HL := Lib.hid hl
  have HX := Lib.hid h
  clear h ho hl
  go_enter Try.func45, Try.ntmps45
  go_upto_region 1 with (fail)
  refine wp_region_inr (by kernel_rfl) (fun w W => Below w.heap.size w W) (fun W => Bx W gr 77 [.string (str l), .int .i64 o] ∧ Below w.drew.heap.size w.drew W) (nxtV gr l o) (fun _ => false) (by kernel_rfl) (fun _ _ hR hc => ⟨hc.1.call hR, hc.2.trans (hR.mono hc.2.size)⟩) (nxtV_keep gr l o) (⟨HX.out.call ((Below.refl _ _).drew), Below.refl _ _⟩) ⟨?_, ?_, ?_, ?_, ?_, ?_, ?_, ?_, ?_, ?_, ?_, ?_, ?_, ?_, trivial⟩ ?_
  · intro a W hc hsz hold hdep
    have o0 : a.tmps.getD 0 undef = .pointer (some ⟨gr, 0, none⟩) := hold 0 (by kernel_rfl)
    clear hsz hold hdep
    refine stepR_do rfl (wanted_none rfl) ?_
    refine stepR_val (v := .pointer (some ⟨gr, 0, none⟩)) (Below.refl _ _) rfl fun K hK => ?_
    go_simp
    exact hK
  · intro a W hc hsz hold hdep
    have d0 : a.tmps.getD 6 undef = .pointer (some ⟨gr, 0, none⟩) := hdep 0 (by kernel_rfl) rfl _ rfl
    clear hsz hold hdep
    refine stepR_do rfl (wanted_none rfl) ?_
    refine stepR_val (v := .pointer (some ⟨gr, 0, none⟩)) (Below.refl _ _) rfl fun K hK => ?_
    go_simp
    exact hK
  · intro a W hc hsz hold hdep
    have d1 : a.tmps.getD 7 undef = .pointer (some ⟨gr, 0, none⟩) := hdep 1 (by kernel_rfl) rfl _ rfl
    clear hsz hold hdep
    refine stepR_do rfl (wanted_none rfl) ?_
    refine stepR_val (v := .pointer (some ⟨gr, 0, none⟩)) (Below.refl _ _) rfl fun K hK => ?_
    go_simp
    exact hK
  · intro a W hc hsz hold hdep
    have d2 : a.tmps.getD 8 undef = .pointer (some ⟨gr, 0, none⟩) := hdep 2 (by kernel_rfl) rfl _ rfl
    have q0 := hc.1.cell (i := 0) rfl
    clear hsz hold hdep
    refine stepR_do rfl (wanted_none rfl) ?_
    refine stepR_val (v := .string (str l)) (Below.refl _ _) rfl fun K hK => ?_
    go_simp
    exact hK
  · intro a W hc hsz hold hdep
    have o0 : a.tmps.getD 0 undef = .pointer (some ⟨gr, 0, none⟩) := hold 0 (by kernel_rfl)
    clear hsz hold hdep
    refine stepR_do rfl (wanted_none rfl) ?_
    refine stepR_val (v := .pointer (some ⟨gr, 0, none⟩)) (Below.refl _ _) rfl fun K hK => ?_
    go_simp
    exact hK
  · intro a W hc hsz hold hdep
    have d4 : a.tmps.getD 10 undef = .pointer (some ⟨gr, 0, none⟩) := hdep 4 (by kernel_rfl) rfl _ rfl
    clear hsz hold hdep
    refine stepR_do rfl (wanted_none rfl) ?_
    refine stepR_val (v := .pointer (some ⟨gr, 0, none⟩)) (Below.refl _ _) rfl fun K hK => ?_
    go_simp
    exact hK
  · intro a W hc hsz hold hdep
    have d5 : a.tmps.getD 11 undef = .pointer (some ⟨gr, 0, none⟩) := hdep 5 (by kernel_rfl) rfl _ rfl
    clear hsz hold hdep
    refine stepR_do rfl (wanted_none rfl) ?_
    refine stepR_val (v := .pointer (some ⟨gr, 1, none⟩)) (Below.refl _ _) rfl fun K hK => ?_
    go_simp
    exact hK
  · intro a W hc hsz hold hdep
    have d6 : a.tmps.getD 12 undef = .pointer (some ⟨gr, 1, none⟩) := hdep 6 (by kernel_rfl) rfl _ rfl
    have q1 := hc.1.cell (i := 1) rfl
    clear hsz hold hdep
    refine stepR_do rfl (wanted_none rfl) ?_
    refine stepR_val (v := .int .i64 (o : Nat)) (Below.refl _ _) rfl fun K hK => ?_
    go_simp
    exact hK
  · intro a W hc hsz hold hdep
    have d3 : a.tmps.getD 9 undef = .string (str l) := hdep 3 (by kernel_rfl) rfl _ rfl
    have e3 : a.tmps[9]?.getD undef = .string (str l) := by rw [← Array.getD_eq_getD_getElem?]; exact d3
    have d7 : a.tmps.getD 13 undef = .int .i64 (o : Nat) := hdep 7 (by kernel_rfl) rfl _ rfl
    have e7 : a.tmps[13]?.getD undef = .int .i64 (o : Nat) := by rw [← Array.getD_eq_getD_getElem?]; exact d7
    clear hsz hold hdep
    refine stepR_do rfl (wanted_none rfl) ?_
    refine stepR_call (v := .tuple #[.int .i64 (E1.rdE l o 2 : Nat), .int .i64 (E1.rdC l o 2)]) (fun W' hb => hb) (fun _ => rfl) fun K hK => ?_
    go_simp
    refine ((E1.readbig_any l o 2 2 o _ rfl rfl (by omega) (by omega) HO.out HL.out)).mono ?_
    rintro e w' ⟨rfl, hb'⟩
    exact hK _ hb'
  · intro a W hc hsz hold hdep
    have d8 : a.tmps.getD 14 undef = .tuple #[.int .i64 (E1.rdE l o 2 : Nat), .int .i64 (E1.rdC l o 2)] := hdep 8 (by kernel_rfl) rfl _ rfl
    clear hsz hold hdep
    refine stepR_do rfl (wanted_none rfl) ?_
    refine stepR_val (v := .tuple #[.int .i64 (E1.rdE l o 2 : Nat), .int .i64 (E1.rdC l o 2)]) (Below.refl _ _) rfl fun K hK => ?_
    go_simp
    exact hK
  · intro a W hc hsz hold hdep
    have d9 : a.tmps.getD 5 undef = .tuple #[.int .i64 (E1.rdE l o 2 : Nat), .int .i64 (E1.rdC l o 2)] := hdep 9 (by kernel_rfl) rfl _ rfl
    clear hsz hold hdep
    refine stepR_do rfl (wanted_none rfl) ?_
    refine stepR_val (v := .int .i64 (E1.rdE l o 2 : Nat)) (Below.refl _ _) rfl fun K hK => ?_
    go_simp
    exact hK
  · intro a W hc hsz hold hdep
    have d9 : a.tmps.getD 5 undef = .tuple #[.int .i64 (E1.rdE l o 2 : Nat), .int .i64 (E1.rdC l o 2)] := hdep 9 (by kernel_rfl) rfl _ rfl
    clear hsz hold hdep
    refine stepR_do rfl (wanted_none rfl) ?_
    refine stepR_val (v := .int .i64 (E1.rdC l o 2)) (Below.refl _ _) rfl fun K hK => ?_
    go_simp
    exact hK
  · intro a W hc hsz hold hdep
    have d10 : a.tmps.getD 15 undef = .int .i64 (E1.rdE l o 2 : Nat) := hdep 10 (by kernel_rfl) rfl _ rfl
    clear hsz hold hdep
    refine stepR_do rfl (wanted_none rfl) ?_
    refine stepR_val (v := .int .i64 (E1.rdE l o 2 : Nat)) (Below.refl _ _) rfl fun K hK => ?_
    go_simp
    exact hK
  · intro a W hc hsz hold hdep
    have d11 : a.tmps.getD 16 undef = .int .i64 (E1.rdC l o 2) := hdep 11 (by kernel_rfl) rfl _ rfl
    clear hsz hold hdep
    refine stepR_do rfl (wanted_none rfl) ?_
    refine stepR_val (v := .int .i64 (E1.rdC l o 2)) (Below.refl _ _) rfl fun K hK => ?_
    go_simp
    exact hK
  · intro a W hC hd hsz hold hval
    have d0 : a.tmps.getD 0 undef = .pointer (some ⟨gr, 0, none⟩) := hold 0 (by kernel_rfl)
    have d3 : a.tmps.getD 3 undef = .int .i64 (E1.rdE l o 2 : Nat) := hval 12 _ rfl rfl
    clear hold
    obtain ⟨tm, df⟩ := a
    replace hd : df = [] := hd
    replace hsz : tm.size = 25 := hsz
    replace d0 : tm.getD 0 undef = .pointer (some ⟨gr, 0, none⟩) := d0
    replace d3 : tm.getD 3 undef = .int .i64 (E1.rdE l o 2 : Nat) := d3
    subst hd
    have e : tm = #[tm.getD 0 undef, tm.getD 1 undef, tm.getD 2 undef, tm.getD 3 undef, tm.getD 4 undef, tm.getD 5 undef, tm.getD 6 undef, tm.getD 7 undef, tm.getD 8 undef, tm.getD 9 undef, tm.getD 10 undef, tm.getD 11 undef, tm.getD 12 undef, tm.getD 13 undef, tm.getD 14 undef, tm.getD 15 undef, tm.getD 16 undef, tm.getD 17 undef, tm.getD 18 undef, tm.getD 19 undef, tm.getD 20 undef, tm.getD 21 undef, tm.getD 22 undef, tm.getD 23 undef, tm.getD 24 undef] := arr_eq tm 25 hsz
    rw [d0, d3] at e
    clear d0 d3 hsz
    generalize tm.getD 1 undef = v1 at e
    generalize tm.getD 2 undef = v2 at e
    generalize tm.getD 4 undef = v4 at e
    generalize tm.getD 5 undef = v5 at e
    generalize tm.getD 6 undef = v6 at e
    generalize tm.getD 7 undef = v7 at e
    generalize tm.getD 8 undef = v8 at e
    generalize tm.getD 9 undef = v9 at e
    generalize tm.getD 10 undef = v10 at e
    generalize tm.getD 11 undef = v11 at e
    generalize tm.getD 12 undef = v12 at e
    generalize tm.getD 13 undef = v13 at e
    generalize tm.getD 14 undef = v14 at e
    generalize tm.getD 15 undef = v15 at e
    generalize tm.getD 16 undef = v16 at e
    generalize tm.getD 17 undef = v17 at e
    generalize tm.getD 18 undef = v18 at e
    generalize tm.getD 19 undef = v19 at e
    generalize tm.getD 20 undef = v20 at e
    generalize tm.getD 21 undef = v21 at e
    generalize tm.getD 22 undef = v22 at e
    generalize tm.getD 23 undef = v23 at e
    generalize tm.getD 24 undef = v24 at e
    subst e
    have hle : Below w.heap.size w W := (Below.refl w.heap.size w).drew.trans (hC.2.mono (by simp))
    have c1 := hC.1.cell (i := 1) rfl
    have f1 := hC.1.free 1
    have HX2 := Lib.hid hC.1
    have HLE := Lib.hid hle
    have ho := HO.out
    clear hC hval hle
    go_wp2_with fail
    go_ret
    exact ⟨rfl, HX2.out.set 1 _, (Turn1.of HLE.out).trans (Turn1.set gr W 1 _)⟩
theorem enc13_body (T : Tab) : (enc13 T).take (body13 T).length = body13 T := by unfold enc13; rw [List.take_left]
theorem enc13_crc (T : Tab) : (enc13 T).drop (body13 T).length = W10.crcB (C.crc 0 (body13 T)) := by unfold enc13; rw [List.drop_left]
theorem run_sfrom13 {P : Program} {t : TypeId} (ht : P.underlying t = some .string) (l : List UInt8) (k : Nat) (hk : k ≤ l.length) (x : Int) (hx : x = k) (w : World) : (Instr.slice t (.string (str l)) (some (.int .i64 x)) none none).run P w = .ok (.string (str (l.drop k))) w := by
  subst hx
  have hs := str_size l
  have he : (str l).extract k l.length = str (l.drop k) := by
    apply ByteArray.ext
    rw [ByteArray.data_extract]
    apply Array.ext'
    simp [str]
    exact List.take_of_length_le (by simp)
  simp [Instr.slice, run_underlying ht, Instr.sliceBounds, run_sliceBound, hs, hk, he]
def decV (T : Tab) (i : Nat) (v : Value) (W : World) : Prop := match i with
  | 0 => v = .string (str (enc13 T))
  | 1 => v = .int .i64 (enc13 T).length
  | 2 => v = .bool false
  | 3 => v = .bool false
  | 4 => v = .string (str (enc13 T))
  | 5 => v = .string (str (enc13 T))
  | 6 => v = .int .i64 (enc13 T).length
  | 7 => v = .int .i64 (body13 T).length
  | 8 => v = .string (str (body13 T))
  | 9 => v = .int .u16 (C.crc 0 (body13 T) : Nat)
  | 10 => v = .string (str (W10.crcB (C.crc 0 (body13 T))))
  | 11 => v = .string (str (enc13 T))
  | 12 => v = .string (str (enc13 T))
  | 13 => v = .int .i64 (enc13 T).length
  | 14 => v = .int .i64 (body13 T).length
  | 15 => v = .string (str (W10.crcB (C.crc 0 (body13 T))))
  | 16 => v = .bool false
  | 17 => v = .bool false
  | _ => True
theorem decV_keep (T : Tab) (i : Nat) (v : Value) (W W' : World) (hR : (fun w W => Below w.heap.size w W) W W') (h : decV T i v W) : decV T i v W' := by
  unfold decV at h ⊢
  split at h <;> first | exact h
/-- Decode's table and reader, behind the first 'k' replacements -/
structure DecW (w0 w : World) (g gm gr gt : Nat) (vp : Value) (T : Tab) (k o : Nat) : Prop where
  box : Bx w g 57 [.int .i64 T.blocks, .int .i64 T.spares, .int .i64 T.used, vp, .map (some gm)]
  pri : w.ownsRow 0 3 1 vp T.prim.length (is T.prim)
  map : MapO w gm k (fun x => if x ∈ T.keys.take k then (T.mv x).map Int.ofNat else none)
  rdr : RdrW w gr (enc13 T) o
  tk : Mp.SetI w gt k (fun x => decide (x ∈ (T.reps.take k).map (·.2)))
  le : Below w0.heap.size w0 w
  ge : w0.heap.size ≤ g ∧ w0.heap.size ≤ gm ∧ w0.heap.size ≤ gr ∧ w0.heap.size ≤ gt
  ne : g ≠ gm ∧ g ≠ gr ∧ g ≠ gt ∧ gm ≠ gr ∧ gm ≠ gt ∧ gr ≠ gt
section
variable {w0 w w' : World} {g gm gr gt : Nat} {vp : Value} {T : Tab} {k o : Nat}
theorem set13 {b e sz n m q : Nat} {v : Value} {xs : List Value} {f : Int → Bool} (h : w.ownsRow b e sz v n xs) (hm : Mp.SetI w m q f) : v.ownBlock ≠ some m := by
  intro hk
  rcases h.2 with ⟨rfl, _⟩ | ⟨g', cap, cur, rfl, _, hg, _⟩
  · simp [Value.ownBlock] at hk
  have e1 : g' = m := by simpa [Value.ownBlock] using hk
  subst e1
  obtain ⟨D, ⟨es, clock, hb, _⟩, _⟩ := hm
  rw [hg] at hb
  cases hb
theorem own_turn1 {b e sz n q : Nat} {v : Value} {xs : List Value} (ht : Turn1 q w w') (h : w.ownsRow b e sz v n xs) (hq : v.ownBlock ≠ some q) : w'.ownsRow b e sz v n xs :=
  Turn.own (g := q) (gm := q) ⟨ht.os, ht.tape, ht.output, ht.size, fun k hk h1 _ => ht.block k hk h1⟩ h hq hq
/-- the reader goes on -/
theorem DecW.next (h : DecW w0 w g gm gr gt vp T k o) (ht : Turn1 gr w w') (hr : RdrW w' gr (enc13 T) (o + 2)) : DecW w0 w' g gm gr gt vp T k (o + 2) where
  box := (ht.block g h.box.lt h.ne.2.1).trans h.box
  pri := own_turn1 ht h.pri (block13 h.pri h.rdr (by decide))
  map := h.map.kept (ht.block gm h.map.lt h.ne.2.2.2.1)
  rdr := hr
  tk := h.tk.kept (ht.block gt h.tk.lt (Ne.symm h.ne.2.2.2.2.2))
  le := h.le.trans (ht.below h.ge.2.2.1 h.le.size)
  ge := h.ge
  ne := h.ne
theorem Turn1.ofGrown {q : Nat} (h : w.grownBy w' (some q)) : Turn1 q w w' := ⟨h.os, h.tape, h.output, h.size, fun j hj h2 => h.block j hj (fun e => h2 (Option.some.inj e))⟩
end
theorem MapO.entry {w : World} {b n : Nat} {f : Int → Option Int} (h : MapO w b n f) (x : Int) (hx : In64 x) (hn : n < 1000000) :
    ∃ (v0 : Value) (st : Nat) (w1 : World), (Instr.mapEntry 36 (.map (some b)) (.int .i64 x)).run Try.prog w = .ok (.tuple #[v0, .int .i64 st]) w1 ∧ w.grownBy w1 (some b) ∧
      ∀ V, In64 V → ∃ w2, (Instr.entryStore 36 (.map (some b)) (.int .i64 st) (.int .i64 V)).run Try.prog w1 = .ok () w2 ∧ MapO w2 b (n + 1) (setO f x V) ∧ w.grownBy w2 (some b) := by
  obtain ⟨D, hown, hf⟩ := h
  obtain ⟨v0, st, w1, h1, h2, _, h3⟩ := Mp.entry_store hown lawI Try.underlying36 zeroI (by unfold maxLen; omega) (keyOf_int_mk Try.underlying3 (wfI hx)) (plainElem_int Try.underlying3 (a := 0) (by decide))
  refine ⟨v0, st, w1, h1, h2, fun V hV => ?_⟩
  obtain ⟨w2, h4, ho, hg⟩ := h3 _ _ _ (plainElem_int Try.underlying3 (wfI hV))
  refine ⟨w2, h4, ⟨_, ho, fun y hy => ?_⟩, hg⟩
  unfold setO
  by_cases e : y = x
  · subst e
    rw [if_pos rfl, atKey_put_same hown.isMap, has_put_same hown.isMap]
    · exact ⟨rfl, rfl⟩
    · trivial
    · trivial
  · rw [if_neg e, atKey_put_other (by simpa using e), has_put_other (by simpa using e)]
    exact hf y hy
theorem Tab.keys_get (T : Tab) {k : Nat} (h : k < T.keys.length) : atD ((0 : Int), (0 : Int)) T.reps k = T.pair (ixI T.keys k) := by
  simp [atD, Tab.reps, ixI, h]
section
variable {T : Tab}
theorem Tab.Ok.key_mv (h : T.Ok) {x : Int} (hx : x ∈ T.keys) : ∃ s : Nat, T.mv x = some s ∧ T.pair x = (x, (s : Int)) := by
  have hk := ((h.mem_keys x).1 hx).2
  cases e : T.mv x with
  | none => rw [e] at hk; cases hk
  | some s => exact ⟨s, rfl, by unfold Tab.pair; rw [e]; rfl⟩
theorem Tab.Ok.mapK (h : T.Ok) {k : Nat} (hk : k < T.keys.length) : (fun x => if x ∈ T.keys.take (k + 1) then (T.mv x).map Int.ofNat else none) = setO (fun x => if x ∈ T.keys.take k then (T.mv x).map Int.ofNat else none) (T.pair (ixI T.keys k)).1 (T.pair (ixI T.keys k)).2 := by
  obtain ⟨s, hs, hp⟩ := h.key_mv (ixI_mem hk)
  funext x
  rw [hp, ixI_append_take _ _ hk]
  unfold setO
  by_cases e : x = ixI T.keys k
  · subst e
    rw [if_pos (by simp), if_pos rfl, hs]; rfl
  · rw [if_neg e]
    have : x ∈ T.keys.take k ++ [ixI T.keys k] ↔ x ∈ T.keys.take k := by simp [e]
    simp only [this]
theorem Tab.Ok.mapAll (h : T.Ok) : (fun x => if x ∈ T.keys.take T.keys.length then (T.mv x).map Int.ofNat else none) = fun x => (T.mv x).map Int.ofNat := by
  funext x
  rw [List.take_length]
  by_cases hx : x ∈ T.keys
  · rw [if_pos hx]
  · rw [if_neg hx]
    cases e : T.mv x with
    | none => rfl
    | some s =>
      refine absurd ((h.mem_keys x).2 ⟨?_, by rw [e]; rfl⟩) hx
      have := h.mr x s e
      have := h.b2
      unfold In64; omega
theorem Tab.Ok.takenK (h : T.Ok) {k : Nat} (hk : k < T.keys.length) : decide ((T.pair (ixI T.keys k)).2 ∈ (T.reps.take k).map (·.2)) = false := by
  refine decide_eq_false fun hm => ?_
  rw [List.mem_map] at hm
  obtain ⟨p, hp, he⟩ := hm
  obtain ⟨j, hj, e⟩ := List.getElem_of_mem hp
  rw [List.length_take, Tab.reps_length] at hj
  rw [List.getElem_take] at e
  have hjk : j < k := by omega
  have e3 : T.reps[j]'(by rw [Tab.reps_length]; omega) = T.pair (ixI T.keys j) := by simp [Tab.reps, ixI, show j < T.keys.length by omega]
  rw [e3] at e
  subst e
  obtain ⟨s, hs, hp1⟩ := h.key_mv (ixI_mem (show j < T.keys.length by omega))
  obtain ⟨t, ht, hp2⟩ := h.key_mv (ixI_mem hk)
  rw [hp1, hp2] at he
  have hst : s = t := by
    have : ((s : Nat) : Int) = t := he
    omega
  subst hst
  have h4 := h.mi _ _ _ hs ht
  have h5 := List.pairwise_iff_getElem.1 T.keys_sorted j k (by omega) hk hjk
  rw [ixI_get hk, ixI_get (show j < T.keys.length by omega)] at h4
  omega
theorem Tab.takeS (T : Tab) {k : Nat} (hk : k < T.keys.length) : (fun x => decide (x ∈ (T.reps.take (k + 1)).map (·.2))) = Mp.setF (fun x => decide (x ∈ (T.reps.take k).map (·.2))) (T.pair (ixI T.keys k)).2 true := by
  have hr : k < T.reps.length := by rw [Tab.reps_length]; exact hk
  have e3 : T.reps[k] = T.pair (ixI T.keys k) := by simp [Tab.reps, ixI, hk]
  funext x
  rw [List.take_succ_eq_append_getElem hr, e3]
  unfold Mp.setF
  by_cases e : x = (T.pair (ixI T.keys k)).2
  · subst e; simp
  · rw [if_neg e]
    simp [e]
end
set_option maxRecDepth 100000 in
set_option maxHeartbeats 8000000 in
theorem decode13 {w1 w : World} {g1 gm1 : Nat} {vp1 : Value} {T : Tab} (h : TabW w1 g1 gm1 vp1 T) :
    Calls Try.prog 22 #[.string (str (enc13 T))] w fun e w' => ∃ g gm vp, e = .returned (.tuple #[.pointer (some ⟨g, 0, none⟩), .int .i64 0]) ∧ TabW w' g gm vp T ∧ w.heap.size ≤ g ∧ w.heap.size ≤ gm ∧ Below w.heap.size w w' := by
  have hok := h.ok
  have hkl := (replaced_any h).1
  have HOK := Lib.hid hok
  have hk64 : T.keys.length ≤ 64 := by have := hok.us; have := hok.sp; omega
  have hp := hok.pl
  have HLN : Hid ((enc13 T).length = (body13 T).length + 2 ∧ (body13 T).length = 14 + 2 * T.prim.length + 4 * T.keys.length ∧ (body13 T).length ≤ 1000) := Lib.hid (by
    have := hok.enc_length hkl
    refine ⟨?_, this, by omega⟩
    unfold enc13
    rw [List.length_append]
    rfl)
  have HRD : Hid (∀ i, i < (nums13 T).length → ((E1.rdE (enc13 T) (4 + 2 * i) 2 : Nat) : Int) = ixI (nums13 T) i) := Lib.hid (fun i hi => hok.rd hkl hi)
  have HKL := Lib.hid hkl
  have HNX := Lib.hid (fun W gr o (hr : RdrW W gr (enc13 T) o) (ho : o ≤ 1000000) => next_any hr ho (by have := HLN.out; omega))
  clear h hok hkl
  go_enter Try.func22, Try.ntmps22
  go_upto_region 1 with (fail)
  refine wp_region_inr (by kernel_rfl) (fun w W => Below w.heap.size w W) (fun W => Below w.heap.size w W) (decV T) (fun _ => false) (by kernel_rfl) (fun _ _ hR hc => hc.trans (hR.mono hc.size)) (decV_keep T) ((Below.refl _ _).drew) ⟨?_, ?_, ?_, ?_, ?_, ?_, ?_, ?_, ?_, ?_, ?_, ?_, ?_, ?_, ?_, ?_, ?_, ?_, trivial⟩ ?_
  · intro a W hc hsz hold hdep
    have o0 : a.tmps.getD 0 undef = .string (str (enc13 T)) := hold 0 (by kernel_rfl)
    clear hsz hold hdep
    refine stepR_do rfl (wanted_none rfl) ?_
    refine stepR_val (v := .string (str (enc13 T))) (Below.refl _ _) rfl fun K hK => ?_
    go_simp
    exact hK
  · intro a W hc hsz hold hdep
    have d0 : a.tmps.getD 16 undef = .string (str (enc13 T)) := hdep 0 (by kernel_rfl) rfl _ rfl
    have e0 : a.tmps[16]?.getD undef = .string (str (enc13 T)) := by rw [← Array.getD_eq_getD_getElem?]; exact d0
    have q0 := str_size (enc13 T)
    clear hsz hold hdep
    refine stepR_do rfl (wanted_none rfl) ?_
    refine stepR_val (v := .int .i64 (enc13 T).length) (Below.refl _ _) rfl fun K hK => ?_
    go_simp
    exact hK
  · intro a W hc hsz hold hdep
    have d1 : a.tmps.getD 17 undef = .int .i64 (enc13 T).length := hdep 1 (by kernel_rfl) rfl _ rfl
    have q1 : decide ((((enc13 T).length : Nat) : Int) < 16) = false := decide_eq_false (by have := HLN.out; omega)
    clear hsz hold hdep
    refine stepR_do rfl (wanted_none rfl) ?_
    refine stepR_val (v := .bool false) (Below.refl _ _) rfl fun K hK => ?_
    go_simp
    exact hK
  · intro a W hc hsz hold hdep
    have d2 : a.tmps.getD 18 undef = .bool false := hdep 2 (by kernel_rfl) rfl _ rfl
    clear hsz hold hdep
    refine stepR_do rfl (wanted_none rfl) ?_
    refine stepR_val (v := .bool false) (Below.refl _ _) rfl fun K hK => ?_
    go_simp
    exact hK
  · intro a W hc hsz hold hdep
    have o0 : a.tmps.getD 0 undef = .string (str (enc13 T)) := hold 0 (by kernel_rfl)
    have g4 : a.tmps.getD 19 undef = .bool false := hdep 3 (by kernel_rfl) rfl _ rfl
    clear hsz hold hdep
    refine stepR_do rfl ((wanted_of (want := false) rfl rfl g4).trans rfl) ?_
    clear g4
    refine stepR_val (v := .string (str (enc13 T))) (Below.refl _ _) rfl fun K hK => ?_
    go_simp
    exact hK
  · intro a W hc hsz hold hdep
    have o0 : a.tmps.getD 0 undef = .string (str (enc13 T)) := hold 0 (by kernel_rfl)
    have g5 : a.tmps.getD 19 undef = .bool false := hdep 3 (by kernel_rfl) rfl _ rfl
    clear hsz hold hdep
    refine stepR_do rfl ((wanted_of (want := false) rfl rfl g5).trans rfl) ?_
    clear g5
    refine stepR_val (v := .string (str (enc13 T))) (Below.refl _ _) rfl fun K hK => ?_
    go_simp
    exact hK
  · intro a W hc hsz hold hdep
    have d5 : a.tmps.getD 21 undef = .string (str (enc13 T)) := hdep 5 (by kernel_rfl) rfl _ rfl
    have e5 : a.tmps[21]?.getD undef = .string (str (enc13 T)) := by rw [← Array.getD_eq_getD_getElem?]; exact d5
    have g6 : a.tmps.getD 19 undef = .bool false := hdep 3 (by kernel_rfl) rfl _ rfl
    have q0 := str_size (enc13 T)
    clear hsz hold hdep
    refine stepR_do rfl ((wanted_of (want := false) rfl rfl g6).trans rfl) ?_
    clear g6
    refine stepR_val (v := .int .i64 (enc13 T).length) (Below.refl _ _) rfl fun K hK => ?_
    go_simp
    exact hK
  · intro a W hc hsz hold hdep
    have d6 : a.tmps.getD 22 undef = .int .i64 (enc13 T).length := hdep 6 (by kernel_rfl) rfl _ rfl
    have g7 : a.tmps.getD 19 undef = .bool false := hdep 3 (by kernel_rfl) rfl _ rfl
    have q0 : (((enc13 T).length : Nat) : Int) - 2 = (body13 T).length := by have := HLN.out; omega
    have q1 : IntKind.i64.wrap (((body13 T).length : Nat) : Int) = (body13 T).length := IntWalk.i64_in _ (by have := HLN.out; omega)
    clear hsz hold hdep
    refine stepR_do rfl ((wanted_of (want := false) rfl rfl g7).trans rfl) ?_
    clear g7
    refine stepR_val (v := .int .i64 (body13 T).length) (Below.refl _ _) rfl fun K hK => ?_
    go_simp
    exact hK
  · intro a W hc hsz hold hdep
    have d4 : a.tmps.getD 20 undef = .string (str (enc13 T)) := hdep 4 (by kernel_rfl) rfl _ rfl
    have d7 : a.tmps.getD 23 undef = .int .i64 (body13 T).length := hdep 7 (by kernel_rfl) rfl _ rfl
    have g8 : a.tmps.getD 19 undef = .bool false := hdep 3 (by kernel_rfl) rfl _ rfl
    have q0 := fun W => E1.run_stoE Try.underlying9 (enc13 T) (body13 T).length (by have := HLN.out; omega) _ rfl W
    rw [enc13_body] at q0
    clear hsz hold hdep
    refine stepR_do rfl ((wanted_of (want := false) rfl rfl g8).trans rfl) ?_
    clear g8
    refine stepR_val (v := .string (str (body13 T))) (Below.refl _ _) rfl fun K hK => ?_
    go_simp
    exact hK
  · intro a W hc hsz hold hdep
    have d8 : a.tmps.getD 24 undef = .string (str (body13 T)) := hdep 8 (by kernel_rfl) rfl _ rfl
    have e8 : a.tmps[24]?.getD undef = .string (str (body13 T)) := by rw [← Array.getD_eq_getD_getElem?]; exact d8
    have g9 : a.tmps.getD 19 undef = .bool false := hdep 3 (by kernel_rfl) rfl _ rfl
    clear hsz hold hdep
    refine stepR_do rfl ((wanted_of (want := false) rfl rfl g9).trans rfl) ?_
    clear g9
    refine stepR_call (v := .int .u16 (C.crc 0 (body13 T) : Nat)) (fun W' hb => hb) (fun _ => rfl) fun K hK => ?_
    go_simp
    refine ((W10.crc_any (str (body13 T)) _ (by rw [str_size]; have := HLN.out; omega))).mono ?_
    rintro e w' ⟨rfl, hb'⟩
    exact hK _ hb'
  · intro a W hc hsz hold hdep
    have d9 : a.tmps.getD 25 undef = .int .u16 (C.crc 0 (body13 T) : Nat) := hdep 9 (by kernel_rfl) rfl _ rfl
    have e9 : a.tmps[25]?.getD undef = .int .u16 (C.crc 0 (body13 T) : Nat) := by rw [← Array.getD_eq_getD_getElem?]; exact d9
    have g10 : a.tmps.getD 19 undef = .bool false := hdep 3 (by kernel_rfl) rfl _ rfl
    clear hsz hold hdep
    refine stepR_do rfl ((wanted_of (want := false) rfl rfl g10).trans rfl) ?_
    clear g10
    refine stepR_call (v := .string (str (W10.crcB (C.crc 0 (body13 T))))) (fun W' hb => hb) (fun _ => rfl) fun K hK => ?_
    go_simp
    refine ((W10.crcbytes_any _ _ (C.crc_lt (by omega) _))).mono ?_
    rintro e w' ⟨rfl, hb'⟩
    exact hK _ hb'
  · intro a W hc hsz hold hdep
    have o0 : a.tmps.getD 0 undef = .string (str (enc13 T)) := hold 0 (by kernel_rfl)
    have g11 : a.tmps.getD 19 undef = .bool false := hdep 3 (by kernel_rfl) rfl _ rfl
    clear hsz hold hdep
    refine stepR_do rfl ((wanted_of (want := false) rfl rfl g11).trans rfl) ?_
    clear g11
    refine stepR_val (v := .string (str (enc13 T))) (Below.refl _ _) rfl fun K hK => ?_
    go_simp
    exact hK
  · intro a W hc hsz hold hdep
    have o0 : a.tmps.getD 0 undef = .string (str (enc13 T)) := hold 0 (by kernel_rfl)
    have g12 : a.tmps.getD 19 undef = .bool false := hdep 3 (by kernel_rfl) rfl _ rfl
    clear hsz hold hdep
    refine stepR_do rfl ((wanted_of (want := false) rfl rfl g12).trans rfl) ?_
    clear g12
    refine stepR_val (v := .string (str (enc13 T))) (Below.refl _ _) rfl fun K hK => ?_
    go_simp
    exact hK
  · intro a W hc hsz hold hdep
    have d12 : a.tmps.getD 28 undef = .string (str (enc13 T)) := hdep 12 (by kernel_rfl) rfl _ rfl
    have e12 : a.tmps[28]?.getD undef = .string (str (enc13 T)) := by rw [← Array.getD_eq_getD_getElem?]; exact d12
    have g13 : a.tmps.getD 19 undef = .bool false := hdep 3 (by kernel_rfl) rfl _ rfl
    have q0 := str_size (enc13 T)
    clear hsz hold hdep
    refine stepR_do rfl ((wanted_of (want := false) rfl rfl g13).trans rfl) ?_
    clear g13
    refine stepR_val (v := .int .i64 (enc13 T).length) (Below.refl _ _) rfl fun K hK => ?_
    go_simp
    exact hK
  · intro a W hc hsz hold hdep
    have d13 : a.tmps.getD 29 undef = .int .i64 (enc13 T).length := hdep 13 (by kernel_rfl) rfl _ rfl
    have g14 : a.tmps.getD 19 undef = .bool false := hdep 3 (by kernel_rfl) rfl _ rfl
    have q0 : (((enc13 T).length : Nat) : Int) - 2 = (body13 T).length := by have := HLN.out; omega
    have q1 : IntKind.i64.wrap (((body13 T).length : Nat) : Int) = (body13 T).length := IntWalk.i64_in _ (by have := HLN.out; omega)
    clear hsz hold hdep
    refine stepR_do rfl ((wanted_of (want := false) rfl rfl g14).trans rfl) ?_
    clear g14
    refine stepR_val (v := .int .i64 (body13 T).length) (Below.refl _ _) rfl fun K hK => ?_
    go_simp
    exact hK
  · intro a W hc hsz hold hdep
    have d11 : a.tmps.getD 27 undef = .string (str (enc13 T)) := hdep 11 (by kernel_rfl) rfl _ rfl
    have d14 : a.tmps.getD 30 undef = .int .i64 (body13 T).length := hdep 14 (by kernel_rfl) rfl _ rfl
    have g15 : a.tmps.getD 19 undef = .bool false := hdep 3 (by kernel_rfl) rfl _ rfl
    have q0 := fun W => run_sfrom13 Try.underlying9 (enc13 T) (body13 T).length (by have := HLN.out; omega) _ rfl W
    rw [enc13_crc] at q0
    clear hsz hold hdep
    refine stepR_do rfl ((wanted_of (want := false) rfl rfl g15).trans rfl) ?_
    clear g15
    refine stepR_val (v := .string (str (W10.crcB (C.crc 0 (body13 T))))) (Below.refl _ _) rfl fun K hK => ?_
    go_simp
    exact hK
  · intro a W hc hsz hold hdep
    have d10 : a.tmps.getD 26 undef = .string (str (W10.crcB (C.crc 0 (body13 T)))) := hdep 10 (by kernel_rfl) rfl _ rfl
    have d15 : a.tmps.getD 31 undef = .string (str (W10.crcB (C.crc 0 (body13 T)))) := hdep 15 (by kernel_rfl) rfl _ rfl
    have g16 : a.tmps.getD 19 undef = .bool false := hdep 3 (by kernel_rfl) rfl _ rfl
    clear hsz hold hdep
    refine stepR_do rfl ((wanted_of (want := false) rfl rfl g16).trans rfl) ?_
    clear g16
    refine stepR_val (v := .bool false) (Below.refl _ _) rfl fun K hK => ?_
    go_simp
    exact hK
  · intro a W hc hsz hold hdep
    have d3 : a.tmps.getD 19 undef = .bool false := hdep 3 (by kernel_rfl) rfl _ rfl
    have d16 : a.tmps.getD 32 undef = .bool false := hdep 16 (by kernel_rfl) rfl _ rfl
    clear hsz hold hdep
    refine stepR_do rfl (wanted_none rfl) ?_
    refine stepR_val (v := .bool false) (Below.refl _ _) rfl fun K hK => ?_
    go_simp
    exact hK
  · intro a W hC hd hsz hold hval
    have d0 : a.tmps.getD 0 undef = .string (str (enc13 T)) := hold 0 (by kernel_rfl)
    have d17 : a.tmps.getD 17 undef = .int .i64 (enc13 T).length := hval 1 _ rfl rfl
    have d33 : a.tmps.getD 33 undef = .bool false := hval 17 _ rfl rfl
    clear hold
    obtain ⟨tm, df⟩ := a
    replace hd : df = [] := hd
    replace hsz : tm.size = 120 := hsz
    replace d0 : tm.getD 0 undef = .string (str (enc13 T)) := d0
    replace d17 : tm.getD 17 undef = .int .i64 (enc13 T).length := d17
    replace d33 : tm.getD 33 undef = .bool false := d33
    subst hd
    have e : tm = List.toArray (tm.getD 0 undef :: tm.getD 1 undef :: tm.getD 2 undef :: tm.getD 3 undef :: tm.getD 4 undef :: tm.getD 5 undef :: tm.getD 6 undef :: tm.getD 7 undef :: tm.getD 8 undef :: tm.getD 9 undef :: tm.getD 10 undef :: tm.getD 11 undef :: tm.getD 12 undef :: tm.getD 13 undef :: tm.getD 14 undef :: tm.getD 15 undef :: tm.getD 16 undef :: tm.getD 17 undef :: tm.getD 18 undef :: tm.getD 19 undef :: tm.getD 20 undef :: tm.getD 21 undef :: tm.getD 22 undef :: tm.getD 23 undef :: tm.getD 24 undef :: tm.getD 25 undef :: tm.getD 26 undef :: tm.getD 27 undef :: tm.getD 28 undef :: tm.getD 29 undef :: tm.getD 30 undef :: tm.getD 31 undef :: tm.getD 32 undef :: tm.getD 33 undef :: tm.getD 34 undef :: tm.getD 35 undef :: tm.getD 36 undef :: tm.getD 37 undef :: tm.getD 38 undef :: tm.getD 39 undef :: tm.getD 40 undef :: tm.getD 41 undef :: tm.getD 42 undef :: tm.getD 43 undef :: tm.getD 44 undef :: tm.getD 45 undef :: tm.getD 46 undef :: tm.getD 47 undef :: tm.getD 48 undef :: tm.getD 49 undef :: tm.getD 50 undef :: tm.getD 51 undef :: tm.getD 52 undef :: tm.getD 53 undef :: tm.getD 54 undef :: tm.getD 55 undef :: tm.getD 56 undef :: tm.getD 57 undef :: tm.getD 58 undef :: tm.getD 59 undef :: tm.getD 60 undef :: tm.getD 61 undef :: tm.getD 62 undef :: tm.getD 63 undef :: tm.getD 64 undef :: tm.getD 65 undef :: tm.getD 66 undef :: tm.getD 67 undef :: tm.getD 68 undef :: tm.getD 69 undef :: tm.getD 70 undef :: tm.getD 71 undef :: tm.getD 72 undef :: tm.getD 73 undef :: tm.getD 74 undef :: tm.getD 75 undef :: tm.getD 76 undef :: tm.getD 77 undef :: tm.getD 78 undef :: tm.getD 79 undef :: tm.getD 80 undef :: tm.getD 81 undef :: tm.getD 82 undef :: tm.getD 83 undef :: tm.getD 84 undef :: tm.getD 85 undef :: tm.getD 86 undef :: tm.getD 87 undef :: tm.getD 88 undef :: tm.getD 89 undef :: tm.getD 90 undef :: tm.getD 91 undef :: tm.getD 92 undef :: tm.getD 93 undef :: tm.getD 94 undef :: tm.getD 95 undef :: tm.getD 96 undef :: tm.getD 97 undef :: tm.getD 98 undef :: tm.getD 99 undef :: tm.getD 100 undef :: tm.getD 101 undef :: tm.getD 102 undef :: tm.getD 103 undef :: tm.getD 104 undef :: tm.getD 105 undef :: tm.getD 106 undef :: tm.getD 107 undef :: tm.getD 108 undef :: tm.getD 109 undef :: tm.getD 110 undef :: tm.getD 111 undef :: tm.getD 112 undef :: tm.getD 113 undef :: tm.getD 114 undef :: tm.getD 115 undef :: tm.getD 116 undef :: tm.getD 117 undef :: tm.getD 118 undef :: tm.getD 119 undef :: []) := arr_eq tm 120 hsz
    rw [d0, d17, d33] at e
    clear d0 d17 d33 hsz
    generalize tm.getD 1 undef = v1 at e
    generalize tm.getD 2 undef = v2 at e
    generalize tm.getD 3 undef = v3 at e
    generalize tm.getD 4 undef = v4 at e
    generalize tm.getD 5 undef = v5 at e
    generalize tm.getD 6 undef = v6 at e
    generalize tm.getD 7 undef = v7 at e
    generalize tm.getD 8 undef = v8 at e
    generalize tm.getD 9 undef = v9 at e
    generalize tm.getD 10 undef = v10 at e
    generalize tm.getD 11 undef = v11 at e
    generalize tm.getD 12 undef = v12 at e
    generalize tm.getD 13 undef = v13 at e
    generalize tm.getD 14 undef = v14 at e
    generalize tm.getD 15 undef = v15 at e
    generalize tm.getD 16 undef = v16 at e
    generalize tm.getD 18 undef = v18 at e
    generalize tm.getD 19 undef = v19 at e
    generalize tm.getD 20 undef = v20 at e
    generalize tm.getD 21 undef = v21 at e
    generalize tm.getD 22 undef = v22 at e
    generalize tm.getD 23 undef = v23 at e
    generalize tm.getD 24 undef = v24 at e
    generalize tm.getD 25 undef = v25 at e
    generalize tm.getD 26 undef = v26 at e
    generalize tm.getD 27 undef = v27 at e
    generalize tm.getD 28 undef = v28 at e
    generalize tm.getD 29 undef = v29 at e
    generalize tm.getD 30 undef = v30 at e
    generalize tm.getD 31 undef = v31 at e
    generalize tm.getD 32 undef = v32 at e
    generalize tm.getD 34 undef = v34 at e
    generalize tm.getD 35 undef = v35 at e
    generalize tm.getD 36 undef = v36 at e
    generalize tm.getD 37 undef = v37 at e
    generalize tm.getD 38 undef = v38 at e
    generalize tm.getD 39 undef = v39 at e
    generalize tm.getD 40 undef = v40 at e
    generalize tm.getD 41 undef = v41 at e
    generalize tm.getD 42 undef = v42 at e
    generalize tm.getD 43 undef = v43 at e
    generalize tm.getD 44 undef = v44 at e
    generalize tm.getD 45 undef = v45 at e
    generalize tm.getD 46 undef = v46 at e
    generalize tm.getD 47 undef = v47 at e
    generalize tm.getD 48 undef = v48 at e
    generalize tm.getD 49 undef = v49 at e
    generalize tm.getD 50 undef = v50 at e
    generalize tm.getD 51 undef = v51 at e
    generalize tm.getD 52 undef = v52 at e
    generalize tm.getD 53 undef = v53 at e
    generalize tm.getD 54 undef = v54 at e
    generalize tm.getD 55 undef = v55 at e
    generalize tm.getD 56 undef = v56 at e
    generalize tm.getD 57 undef = v57 at e
    generalize tm.getD 58 undef = v58 at e
    generalize tm.getD 59 undef = v59 at e
    generalize tm.getD 60 undef = v60 at e
    generalize tm.getD 61 undef = v61 at e
    generalize tm.getD 62 undef = v62 at e
    generalize tm.getD 63 undef = v63 at e
    generalize tm.getD 64 undef = v64 at e
    generalize tm.getD 65 undef = v65 at e
    generalize tm.getD 66 undef = v66 at e
    generalize tm.getD 67 undef = v67 at e
    generalize tm.getD 68 undef = v68 at e
    generalize tm.getD 69 undef = v69 at e
    generalize tm.getD 70 undef = v70 at e
    generalize tm.getD 71 undef = v71 at e
    generalize tm.getD 72 undef = v72 at e
    generalize tm.getD 73 undef = v73 at e
    generalize tm.getD 74 undef = v74 at e
    generalize tm.getD 75 undef = v75 at e
    generalize tm.getD 76 undef = v76 at e
    generalize tm.getD 77 undef = v77 at e
    generalize tm.getD 78 undef = v78 at e
    generalize tm.getD 79 undef = v79 at e
    generalize tm.getD 80 undef = v80 at e
    generalize tm.getD 81 undef = v81 at e
    generalize tm.getD 82 undef = v82 at e
    generalize tm.getD 83 undef = v83 at e
    generalize tm.getD 84 undef = v84 at e
    generalize tm.getD 85 undef = v85 at e
    generalize tm.getD 86 undef = v86 at e
    generalize tm.getD 87 undef = v87 at e
    generalize tm.getD 88 undef = v88 at e
    generalize tm.getD 89 undef = v89 at e
    generalize tm.getD 90 undef = v90 at e
    generalize tm.getD 91 undef = v91 at e
    generalize tm.getD 92 undef = v92 at e
    generalize tm.getD 93 undef = v93 at e
    generalize tm.getD 94 undef = v94 at e
    generalize tm.getD 95 undef = v95 at e
    generalize tm.getD 96 undef = v96 at e
    generalize tm.getD 97 undef = v97 at e
    generalize tm.getD 98 undef = v98 at e
    generalize tm.getD 99 undef = v99 at e
    generalize tm.getD 100 undef = v100 at e
    generalize tm.getD 101 undef = v101 at e
    generalize tm.getD 102 undef = v102 at e
    generalize tm.getD 103 undef = v103 at e
    generalize tm.getD 104 undef = v104 at e
    generalize tm.getD 105 undef = v105 at e
    generalize tm.getD 106 undef = v106 at e
    generalize tm.getD 107 undef = v107 at e
    generalize tm.getD 108 undef = v108 at e
    generalize tm.getD 109 undef = v109 at e
    generalize tm.getD 110 undef = v110 at e
    generalize tm.getD 111 undef = v111 at e
    generalize tm.getD 112 undef = v112 at e
    generalize tm.getD 113 undef = v113 at e
    generalize tm.getD 114 undef = v114 at e
    generalize tm.getD 115 undef = v115 at e
    generalize tm.getD 116 undef = v116 at e
    generalize tm.getD 117 undef = v117 at e
    generalize tm.getD 118 undef = v118 at e
    generalize tm.getD 119 undef = v119 at e
    subst e
    have HC := Lib.hid hC
    clear hC hval
    go_wp2_with fail
    have HR0 := Lib.hid (show RdrW (W.alloc (.cells #[.string (str (enc13 T)), .int .i64 4] 77)) W.heap.size (enc13 T) 4 from Bx.new W 77 [.string (str (enc13 T)), .int .i64 4])
    have HB0 := Lib.hid (HC.out.alloc HC.out.size (.cells #[.string (str (enc13 T)), .int .i64 4] 77))
    obtain ⟨gr, hgr⟩ : ∃ gr, gr = W.heap.size := ⟨_, rfl⟩
    rw [← hgr] at HR0 ⊢
    have HGR : Hid (w.heap.size ≤ gr) := Lib.hid (by have := HC.out.size; omega)
    clear hgr
    generalize W.alloc (.cells #[.string (str (enc13 T)), .int .i64 4] 77) = w2 at *
    clear HC
    have HNL := Lib.hid (nums_length T)
    have HN := Lib.hid (HNX.out w2 gr 4 HR0.out (by omega))
    rw [show ((E1.rdE (enc13 T) 4 2 : Nat) : Int) = ((T.blocks : Nat) : Int) from by
      have h1 := HRD.out 0 (by have := HNL.out; omega)
      rw [nums_head T (by omega)] at h1
      exact h1] at HN
    refine HN.out.mono ?_
    rintro e w3 ⟨rfl, hr, ht⟩
    have HR1 := Lib.hid (show RdrW w3 gr (enc13 T) 6 from hr)
    have HB1 := Lib.hid (HB0.out.trans (ht.below HGR.out HB0.out.size))
    clear HN hr ht HR0 HB0
    go_wp2_with fail
    have HN := Lib.hid (HNX.out w3 gr 6 HR1.out (by omega))
    rw [show ((E1.rdE (enc13 T) 6 2 : Nat) : Int) = ((T.spares : Nat) : Int) from by
      have h1 := HRD.out 1 (by have := HNL.out; omega)
      rw [nums_head T (by omega)] at h1
      exact h1] at HN
    refine HN.out.mono ?_
    rintro e w4 ⟨rfl, hr, ht⟩
    have HR2 := Lib.hid (show RdrW w4 gr (enc13 T) 8 from hr)
    have HB2 := Lib.hid (HB1.out.trans (ht.below HGR.out HB1.out.size))
    clear HN hr ht HR1 HB1
    go_wp2_with fail
    have HN := Lib.hid (HNX.out w4 gr 8 HR2.out (by omega))
    rw [show ((E1.rdE (enc13 T) 8 2 : Nat) : Int) = ((T.prim.length : Nat) : Int) from by
      have h1 := HRD.out 2 (by have := HNL.out; omega)
      rw [nums_head T (by omega)] at h1
      exact h1] at HN
    refine HN.out.mono ?_
    rintro e w5 ⟨rfl, hr, ht⟩
    have HR3 := Lib.hid (show RdrW w5 gr (enc13 T) 10 from hr)
    have HB3 := Lib.hid (HB2.out.trans (ht.below HGR.out HB2.out.size))
    clear HN hr ht HR2 HB2
    go_wp2_with fail
    have HN := Lib.hid (HNX.out w5 gr 10 HR3.out (by omega))
    rw [show ((E1.rdE (enc13 T) 10 2 : Nat) : Int) = ((T.used : Nat) : Int) from by
      have h1 := HRD.out 3 (by have := HNL.out; omega)
      rw [nums_head T (by omega)] at h1
      exact h1] at HN
    refine HN.out.mono ?_
    rintro e w6 ⟨rfl, hr, ht⟩
    have HR4 := Lib.hid (show RdrW w6 gr (enc13 T) 12 from hr)
    have HB4 := Lib.hid (HB3.out.trans (ht.below HGR.out HB3.out.size))
    clear HN hr ht HR3 HB3
    go_wp2_with fail
    have HN := Lib.hid (HNX.out w6 gr 12 HR4.out (by omega))
    rw [show ((E1.rdE (enc13 T) 12 2 : Nat) : Int) = ((T.keys.length : Nat) : Int) from by
      have h1 := HRD.out 4 (by have := HNL.out; omega)
      rw [nums_head T (by omega)] at h1
      exact h1] at HN
    refine HN.out.mono ?_
    rintro e w7 ⟨rfl, hr, ht⟩
    have HR5 := Lib.hid (show RdrW w7 gr (enc13 T) 14 from hr)
    have HB5 := Lib.hid (HB4.out.trans (ht.below HGR.out HB4.out.size))
    clear HN hr ht HR4 HB4
    have hbl := HOK.out.b2
    have hsp := HOK.out.sp
    have hus := HOK.out.us
    have hsz := str_size (enc13 T)
    have hlE : (((enc13 T).length : Nat) : Int) = 16 + 2 * T.prim.length + 4 * T.keys.length := by have := HLN.out; omega
    go_wp2_with fail
    go_loopw [57, 10] (fun vk vr wr => ∃ k : Nat, k ≤ T.prim.length ∧ vk = .int .i64 k ∧ RdrW wr gr (enc13 T) (14 + 2 * k) ∧ wr.ownsRow (gr + 1) 3 1 vr k (is (T.prim.take k)) ∧ Below w.heap.size w wr) (fun vk _ _ => T.prim.length - (RowKit.intOf vk).toNat)
    case atStart => exact ⟨0, by omega, rfl, HR5.out, ownsRow_nil _ _ _, HB5.out⟩
    case round =>
      obtain ⟨k, hk, rfl, hR, hO, hB⟩ := hrel
      have HRk := Lib.hid hR
      have HOk := Lib.hid hO
      have HBk := Lib.hid hB
      obtain ⟨ar, cr, rfl⟩ := ownD_form hO
      clear hR hO hB HR5 HB5
      by_cases hlt : k < T.prim.length
      · have HN := Lib.hid (HNX.out wr gr (14 + 2 * k) HRk.out (by omega))
        rw [show ((E1.rdE (enc13 T) (14 + 2 * k) 2 : Nat) : Int) = ixI T.prim k from by
          have h1 := HRD.out (5 + k) (by have := HNL.out; omega)
          rw [nums_prim T hlt, show 4 + 2 * (5 + k) = 14 + 2 * k by omega] at h1
          exact h1] at HN
        have HAP := Lib.hid (ixI_append_take T.prim k hlt)
        generalize ixI T.prim k = x at *
        go_wp2_with fail
        refine HN.out.mono ?_
        rintro e w9 ⟨rfl, hr, ht⟩
        have HR9 := Lib.hid hr
        have HB9 := Lib.hid (HBk.out.trans (ht.below HGR.out HBk.out.size))
        have HO9 := Lib.hid (ht.own HOk.out (Nat.lt_succ_self _))
        clear hr ht
        have hoA := ownD_keep HO9.out ((Below.refl w9.heap.size w9).alloc (Nat.le_refl _) (.cells #[.int .i64 x] 3))
        have hbA := HB9.out.alloc HB9.out.size (.cells #[.int .i64 x] 3)
        have HBA := Lib.hid hbA
        have hbas : gr + 1 ≤ (w9.alloc (.cells #[.int .i64 x] 3)).heap.size := by have := HR9.out.lt; simp; omega
        have hrd := reads_lit w9 [x] 3 (by simp)
        have HRA := Lib.hid (HR9.out.alloc (.cells #[.int .i64 x] 3))
        have HGR1 := Lib.hid (show w.heap.size ≤ gr + 1 by have := HGR.out; omega)
        clear hbA
        go_wp2_with (at_builtin; refine wpList_appI rfl _ _ rfl Try.underlying22 Try.infoInt13 hoA rfl hrd rfl (by simp only [List.length_singleton]; omega) hbas ?_; intro v10 w10 hown10 hgr10)
        have hb10 := HBA.out.grown hgr10 HBA.out.size (fun j hj => by have := ownD_block hoA j hj; have := HGR1.out; omega)
        have hr10 : RdrW w10 gr (enc13 T) (14 + 2 * k + 2) := (hgr10.block gr HRA.out.lt (fun e => by have := ownD_block hoA gr e.symm; omega)).trans HRA.out
        go_roundw
        case rel => exact ⟨k + 1, by omega, by go_num, by rw [show 14 + 2 * (k + 1) = 14 + 2 * k + 2 by omega]; exact hr10, by rw [HAP.out]; exact hown10, hb10⟩
        case measure => simp [RowKit.intOf]; omega
      · obtain rfl : k = T.prim.length := by omega
        rw [List.take_length] at HOk
        have HNW := Lib.hid (new_any (T.blocks : Int) (T.spares : Int) (by unfold In64; omega) (by unfold In64; omega) _ T.prim wr (rdI_own (own_mono HOk.out (Nat.zero_le _)) rfl (by omega) (fun x hx => by
          have := HOK.out.pr x hx
          have := first_int T
          omega)))
        have HSH : Hid (shp (T.blocks : Int) (T.spares : Int) T.prim) := Lib.hid (by
          have h1 := HOK.out.b1
          refine ⟨by omega, fun i hi => ?_⟩
          have h2 := HOK.out.pr _ (ixI_mem hi)
          have h3 := first_int T
          refine ⟨h2.1, by omega, fun h0 => ?_⟩
          have h4 := List.pairwise_iff_getElem.1 HOK.out.ps (i - 1) i (by omega) hi (by omega)
          rw [ixI_get hi, ixI_get (show i - 1 < T.prim.length by omega)]
          exact h4)
        clear hlt
        go_wp2_with fail
        refine HNW.out.mono ?_
        rintro e w9 ⟨hb9, h9⟩
        rcases h9 with ⟨_, g, gm, vp, rfl, hT, hg, hgm⟩ | ⟨hn, _⟩
        rotate_left
        · exact absurd HSH.out hn
        have HT9 := Lib.hid hT
        have HR9 := Lib.hid (HRk.out.call hb9)
        have HB9 := Lib.hid (HBk.out.trans (hb9.mono HBk.out.size))
        have HGG : Hid (w.heap.size ≤ g ∧ w.heap.size ≤ gm ∧ gr < g ∧ gr < gm) := Lib.hid (by have := HBk.out.size; have := HRk.out.lt; omega)
        clear hb9 hT hg hgm HRk HOk HBk HNW
        obtain ⟨q0, q1, q2, q3, q4⟩ := HT9.out.cells
        have qf := HT9.out.box.free 2
        have hmm := @run_makeMap Try.prog
        go_wp2_with fail
        have HDW : Hid (DecW w ((w9.setCell ⟨g, 2, none⟩ (.int .i64 T.used)).alloc (.map #[] 0)) g gm gr w9.heap.size vp T 0 (14 + 2 * T.prim.length + 4 * 0)) := Lib.hid (by
          have hbox : Bx w9 g 57 [.int .i64 T.blocks, .int .i64 T.spares, .int .i64 0, vp, .map (some gm)] := by
            have h1 := HT9.out.box
            simp only [tab0, Int.toNat_natCast] at h1
            exact h1
          have t1 : Turn1 g w9 (w9.setCell ⟨g, 2, none⟩ (.int .i64 T.used)) := Turn1.set g w9 2 _
          have hA : Below (w9.setCell ⟨g, 2, none⟩ (.int .i64 T.used)).heap.size (w9.setCell ⟨g, 2, none⟩ (.int .i64 T.used)) ((w9.setCell ⟨g, 2, none⟩ (.int .i64 T.used)).alloc (.map #[] 0)) := (Below.refl _ _).alloc (Nat.le_refl _) _
          have hG := HGG.out
          have hgl := HT9.out.box.lt
          have hml := HT9.out.map.lt
          have hne := HT9.out.ne
          have hrl := HR9.out.lt
          have hws := HB9.out.size
          have hS := Mp.SetI.made (w9.setCell ⟨g, 2, none⟩ (.int .i64 T.used))
          have hsz9 : (w9.setCell ⟨g, 2, none⟩ (.int .i64 T.used)).heap.size = w9.heap.size := by simp
          rw [hsz9] at hS
          refine ⟨(hbox.set 2 (.int .i64 T.used)).call hA, ownD_keep (own_turn1 t1 HT9.out.pri (block13 HT9.out.pri hbox (by decide))) hA, ?_, ?_, ?_, (HB9.out.setCell (p := ⟨g, 2, none⟩) hG.1 _).trans (hA.mono (by rw [hsz9]; exact hws)), ⟨hG.1, hG.2.1, HGR.out, hws⟩, ⟨hne, by omega, by omega, by omega, by omega, by omega⟩⟩
          · have h2 := (HT9.out.map.kept (t1.block gm hml (Ne.symm hne))).below hA
            have e : (fun x => if x ∈ T.keys.take 0 then (T.mv x).map Int.ofNat else none) = fun x => ((tab0 (T.blocks : Int) (T.spares : Int) T.prim).mv x).map Int.ofNat := by
              funext x; simp [tab0]
            rw [e]
            exact h2
          · exact Bx.call (show Bx _ gr 77 [.string (str (enc13 T)), .int .i64 ((14 + 2 * T.prim.length : Nat) : Int)] from (t1.block gr hrl (by omega)).trans HR9.out) hA
          · have e : (fun x : Int => decide (x ∈ (T.reps.take 0).map (·.2))) = fun _ => false := by funext x; simp
            rw [e]
            exact hS)
        obtain ⟨gt, hgt⟩ : ∃ gt, gt = w9.heap.size := ⟨_, rfl⟩
        rw [← hgt] at HDW ⊢
        clear hgt q0 q1 q2 q3 q4 qf HT9 HR9 HB9 HGG
        generalize (w9.setCell ⟨g, 2, none⟩ (.int .i64 T.used)).alloc (.map #[] 0) = w10 at *
        go_loopw [80] (fun vk wr => ∃ k : Nat, k ≤ T.keys.length ∧ vk = .int .i64 k ∧ DecW w wr g gm gr gt vp T k (14 + 2 * T.prim.length + 4 * k)) (fun vk _ => T.keys.length - (RowKit.intOf vk).toNat)
        case atStart => exact ⟨0, by omega, rfl, HDW.out⟩
        case round =>
          obtain ⟨k, hk, rfl, hD⟩ := hrel
          have HDk := Lib.hid hD
          clear hD HDW
          by_cases hlt : k < T.keys.length
          · have hlr : k < T.reps.length := by rw [Tab.reps_length]; exact hlt
            have HPB := Lib.hid (HOK.out.keys_le _ (atD_mem (d := ((0 : Int), (0 : Int))) hlr))
            have HMK := Lib.hid (HOK.out.mapK hlt)
            have HTK := Lib.hid (HOK.out.takenK hlt)
            have HTS := Lib.hid (Tab.takeS T hlt)
            have HN1 := Lib.hid (HNX.out wr gr _ HDk.out.rdr (by omega))
            have hn1 := nums_reps T hlr
            rw [show ((E1.rdE (enc13 T) (14 + 2 * T.prim.length + 4 * k) 2 : Nat) : Int) = (atD ((0 : Int), (0 : Int)) T.reps k).1 from by
              have h1 := HRD.out (5 + T.prim.length + 2 * k) (by have := HNL.out; omega)
              rw [hn1.1, show 4 + 2 * (5 + T.prim.length + 2 * k) = 14 + 2 * T.prim.length + 4 * k by omega] at h1
              exact h1] at HN1
            have HV2 : Hid (((E1.rdE (enc13 T) (14 + 2 * T.prim.length + 4 * k + 2) 2 : Nat) : Int) = (atD ((0 : Int), (0 : Int)) T.reps k).2) := Lib.hid (by
              have h1 := HRD.out (5 + T.prim.length + 2 * k + 1) (by have := HNL.out; omega)
              rw [hn1.2, show 4 + 2 * (5 + T.prim.length + 2 * k + 1) = 14 + 2 * T.prim.length + 4 * k + 2 by omega] at h1
              exact h1)
            rw [Tab.keys_get T hlt] at HPB HN1 HV2
            clear hn1
            generalize T.pair (ixI T.keys k) = pr at *
            obtain ⟨px, py⟩ := pr
            go_wp2_with fail
            refine HN1.out.mono ?_
            rintro e w11 ⟨rfl, hr, ht⟩
            have HD1 := Lib.hid (HDk.out.next ht hr)
            have HN2 := Lib.hid (HNX.out w11 gr _ HD1.out.rdr (by omega))
            rw [HV2.out] at HN2
            clear hr ht HN1
            go_wp2_with fail
            refine HN2.out.mono ?_
            rintro e w12 ⟨rfl, hr, ht⟩
            have hD2 := HD1.out.next ht hr
            have HD2 := Lib.hid hD2
            obtain ⟨p0, p1, p2, p3⟩ := HPB.out
            have hlk := hD2.tk.run py (by omega) (by omega)
            rw [show decide (py ∈ (T.reps.take k).map (·.2)) = false from HTK.out] at hlk
            have c4 := hD2.box.cell (i := 4) rfl
            obtain ⟨v0, st, wA, hE1, hgA, hE2⟩ := hD2.map.entry px (by unfold In64; omega) (by omega)
            obtain ⟨wB, hE2, hmB, hgB⟩ := hE2 py (by unfold In64; omega)
            have hsB := hD2.tk.kept (hgB.block gt hD2.tk.lt (fun e => hD2.ne.2.2.2.2.1 (Option.some.inj e).symm))
            have HMB := Lib.hid hmB
            have HGB := Lib.hid hgB
            clear hr ht HN2 hD2 hmB hgA hgB
            go_wp2_with (first
              | (refine Mp.wpList_setI rfl _ _ _ rfl hsB rfl rfl rfl (by omega) (by omega) (by omega) ?_; intro wC hsC hgC)
              | fail)
            have hDC : DecW w wC g gm gr gt vp T (k + 1) (14 + 2 * T.prim.length + 4 * k + 2 + 2) := by
              have hD2 := HD2.out
              have tB : Turn1 gm w12 wB := Turn1.ofGrown HGB.out
              have tC : Turn1 gt wB wC := Turn1.ofGrown hgC
              have hpB := own_turn1 tB hD2.pri (map13 hD2.pri hD2.map)
              have hxB : Bx wB g 57 [.int .i64 T.blocks, .int .i64 T.spares, .int .i64 T.used, vp, .map (some gm)] := (tB.block g hD2.box.lt hD2.ne.1).trans hD2.box
              have hrB : RdrW wB gr (enc13 T) (14 + 2 * T.prim.length + 4 * k + 2 + 2) := (tB.block gr hD2.rdr.lt (Ne.symm hD2.ne.2.2.2.1)).trans hD2.rdr
              have hlB := hD2.le.trans (tB.below hD2.ge.2.1 hD2.le.size)
              refine ⟨(tC.block g hxB.lt hD2.ne.2.2.1).trans hxB, own_turn1 tC hpB (set13 hpB hsB), ?_, (tC.block gr hrB.lt hD2.ne.2.2.2.2.2).trans hrB, ?_, hlB.trans (tC.below hD2.ge.2.2.2 hlB.size), hD2.ge, hD2.ne⟩
              · rw [HMK.out]
                exact HMB.out.kept (tC.block gm HMB.out.lt hD2.ne.2.2.2.2.1)
              · rw [HTS.out]
                exact hsC
            go_roundw
            case rel => exact ⟨k + 1, by omega, by go_num, by rw [show 14 + 2 * T.prim.length + 4 * (k + 1) = 14 + 2 * T.prim.length + 4 * k + 2 + 2 by omega]; exact hDC⟩
            case measure => simp [RowKit.intOf]; omega
          · obtain rfl : k = T.keys.length := by omega
            have HTW : Hid (TabW wr g gm vp T) := Lib.hid ⟨HOK.out, HDk.out.box, HDk.out.pri, by
              have h1 := HDk.out.map
              rw [HOK.out.mapAll] at h1
              exact h1.more HKL.out, HDk.out.ne.1⟩
            have HEN := Lib.hid (encode13 HTW.out)
            clear hlt
            go_wp2_with fail
            refine HEN.out.mono ?_
            rintro e w11 ⟨rfl, hb11⟩
            have HT11 := Lib.hid (HTW.out.below hb11)
            have HB11 := Lib.hid (HDk.out.le.trans (hb11.mono HDk.out.le.size))
            have HGE := Lib.hid HDk.out.ge
            clear hb11
            go_wp2_with fail
            go_ret2
            exact ⟨_, _, _, rfl, HT11.out, HGE.out.1, HGE.out.2.1, HB11.out⟩
end Go.Proofs.Ytjnedcncfdpjoaa.D13
/- Chapter 13: slices.Equal at replacements walked. -/
namespace Go.Proofs.Ytjnedcncfdpjoaa.D13
open Go.RowKit Go.Maps
set_option linter.unusedVariables false

abbrev RdR (w : World) (v : Value) (l : List (Int × Int)) : Prop := RdD ((0 : Int), (0 : Int)) dRep 2 w v l
set_option maxRecDepth 100000 in
set_option maxHeartbeats 4000000 in
theorem equalR13 {w : World} {v1 v2 : Value} {l : List (Int × Int)} (h1 : RdR w v1 l) (h2 : RdR w v2 l) (hl : l.length ≤ 100000) :
    Calls Try.prog 26 #[v1, v2] w fun e w' => e = .returned (.bool true) ∧ ∃ q, w' = w.drewN q := by
  obtain ⟨a1, c1, rfl, _⟩ := RdD.form h1
  obtain ⟨a2, c2, rfl, _⟩ := RdD.form h2
  obtain ⟨b1, o1, hc1⟩ := RdD.at h1
  obtain ⟨b2, o2, hc2⟩ := RdD.at h2
  have HC1 := Lib.hid hc1
  have HC2 := Lib.hid hc2
  clear h1 h2 hc1 hc2
  go_enter Try.func26, Try.ntmps26
  go_wp2_with fail
  go_loopw [13] (fun vk wr => ∃ k q : Nat, k ≤ l.length ∧ vk = .int .i64 k ∧ wr = w.drewN q) (fun vk _ => l.length - (RowKit.intOf vk).toNat)
  case atStart => exact ⟨0, 0, by omega, rfl, rfl⟩
  case round =>
    obtain ⟨k, q, hk, rfl, rfl⟩ := hrel
    by_cases hlt : k < l.length
    · obtain ⟨ha1, hr1⟩ := HC1.out k hlt
      obtain ⟨ha2, hr2⟩ := HC2.out k hlt
      have hi1 := fun w' => run_idxS Try.underlying39 Try.sizeRep13 (cap := c1) ha1 hlt (k : Int) rfl w'
      have hi2 := fun w' => run_idxS Try.underlying39 Try.sizeRep13 (cap := c2) ha2 hlt (k : Int) rfl w'
      have x0 := hr1 0 _ rfl
      have x1 := hr1 1 _ rfl
      have y0 := hr2 0 _ rfl
      have y1 := hr2 1 _ rfl
      simp only [Nat.add_zero] at x0 y0
      have HA1 := Lib.hid ha1
      have HA2 := Lib.hid ha2
      clear ha1 ha2 hr1 hr2
      generalize atD ((0 : Int), (0 : Int)) l k = p at *
      obtain ⟨px, py⟩ := p
      go_wp2_with fail
      go_quiet (fail)
      go_wp2_with fail
      go_roundw
      case rel => exact ⟨k + 1, _, by omega, by go_num, rfl⟩
      case measure => simp [RowKit.intOf]; omega
    · obtain rfl : k = l.length := by omega
      go_wp2_with fail
      go_ret
      exact ⟨rfl, _, rfl⟩
end Go.Proofs.Ytjnedcncfdpjoaa.D13
/- Chapter 13: what the reference computes, in plain words. -/
namespace Go.Proofs.Ytjnedcncfdpjoaa.D13
open Go.RowKit Go.Maps
set_option linter.unusedVariables false

theorem sorted_eq {l m : List Int} (hl : l.Pairwise (· < ·)) (hm : m.Pairwise (· < ·)) (h : ∀ z, z ∈ l ↔ z ∈ m) : l = m := by
  have hln : l.Nodup := hl.imp fun h e => by omega
  have hmn : m.Nodup := hm.imp fun h e => by omega
  exact ((List.perm_ext_iff_of_nodup hln hmn).2 h).eq_of_pairwise (le := (· ≤ ·)) (fun a b _ _ h1 h2 => by omega) (hl.imp Int.le_of_lt) (hm.imp Int.le_of_lt)
theorem hmK_mono (l : List Int) : ∀ {b c : Int}, b < c → hmK l b < hmK l c := by
  induction l with
  | nil => intro b c h; exact h
  | cons p r ih =>
    intro b c h
    rw [hmK_cons, hmK_cons]
    refine ih ?_
    split <;> split <;> omega
/-- the sectors below 's' that are no primary defects -/
def homesK (T : Tab) (s : Nat) : List Int := ((List.range s).filter fun i : Nat => !T.prim.contains (i : Int)).map Int.ofNat
theorem homesK_succ (T : Tab) (s : Nat) : homesK T (s + 1) = if T.prim.contains (s : Int) = true then homesK T s else homesK T s ++ [(s : Int)] := by
  unfold homesK
  rw [List.range_succ, List.filter_append, List.map_append]
  by_cases h : T.prim.contains (s : Int) = true
  · simp only [h, Bool.not_true, List.filter_cons, List.filter_nil, Bool.false_eq_true, if_false, List.map_nil, List.append_nil, if_true]
  · have h' : T.prim.contains (s : Int) = false := by simpa using h
    simp only [h', Bool.not_false, List.filter_cons, List.filter_nil, if_true, List.map_cons, List.map_nil, Bool.false_eq_true, if_false]
    rfl
theorem homesK_len (T : Tab) (s : Nat) : (homesK T s).length ≤ s := by
  unfold homesK
  rw [List.length_map]
  have := List.length_filter_le (fun i : Nat => !T.prim.contains (i : Int)) (List.range s)
  rwa [List.length_range] at this
theorem Tab.Ok.homes_all {T : Tab} (h : T.Ok) : homesK T T.first = (List.range T.blocks).map fun b : Nat => hmK T.prim b := by
  refine sorted_eq ?_ ?_ fun z => ?_
  · unfold homesK
    rw [List.pairwise_map]
    refine (List.Pairwise.filter _ List.pairwise_lt_range).imp ?_
    intro a b h
    show (a : Int) < b
    omega
  · rw [List.pairwise_map]
    refine List.pairwise_lt_range.imp ?_
    intro a b h
    exact hmK_mono _ (by omega)
  · unfold homesK
    simp only [List.mem_map, List.mem_filter, List.mem_range, Bool.not_eq_true', List.contains_eq_mem, decide_eq_false_iff_not]
    constructor
    · rintro ⟨s, ⟨h1, h2⟩, rfl⟩
      have h3 := h.home_range (z := (s : Int)) (by omega) (by omega) h2
      refine ⟨((s : Int) - cnt T.prim s).toNat, by omega, ?_⟩
      rw [show ((((s : Int) - cnt T.prim s).toNat : Nat) : Int) = (s : Int) - cnt T.prim s by omega]
      exact hmK_inv h.ps h2
    · rintro ⟨b, h1, rfl⟩
      have h2 := h.home (b := b) (by omega) (by omega)
      exact ⟨(hmK T.prim b).toNat, ⟨by omega, by rw [show (((hmK T.prim b).toNat : Nat) : Int) = hmK T.prim b by omega]; exact h2.2.2⟩, by show (((hmK T.prim b).toNat : Nat) : Int) = _; omega⟩
/-- the sectors of the blocks, the first 'k' replacements done -/
def allK (T : Tab) (k : Nat) : List Int := (List.range T.blocks).map fun b : Nat => if (b : Int) ∈ T.keys.take k then T.phys b else hmK T.prim b
theorem allK_length (T : Tab) (k : Nat) : (allK T k).length = T.blocks := by simp [allK]
theorem Tab.Ok.allK_zero {T : Tab} (h : T.Ok) : allK T 0 = homesK T T.first := by
  rw [h.homes_all]; simp [allK]
theorem Tab.Ok.allK_end {T : Tab} (h : T.Ok) : allK T T.keys.length = pL T T.blocks := by
  unfold allK pL
  rw [List.take_length]
  refine List.map_congr_left fun b hb => ?_
  have hb' := List.mem_range.1 hb
  by_cases hk : (b : Int) ∈ T.keys
  · rw [if_pos hk]
  · rw [if_neg hk]
    refine (Tab.phys_none ?_).symm
    cases e : T.mv b with
    | none => rfl
    | some s =>
      refine absurd ((h.mem_keys (b : Int)).2 ⟨?_, by rw [e]; rfl⟩) hk
      have := h.b2
      unfold In64; omega
theorem Tab.Ok.allK_step {T : Tab} (h : T.Ok) {k : Nat} (hk : k < T.keys.length) : ∃ p : Nat, (T.pair (ixI T.keys k)).1 = p ∧ p < T.blocks ∧ 0 ≤ (T.pair (ixI T.keys k)).2 ∧ (T.pair (ixI T.keys k)).2 ≤ 64 ∧ allK T (k + 1) = (allK T k).set p ((T.first : Int) + (T.pair (ixI T.keys k)).2) := by
  obtain ⟨s, hs, hp⟩ := h.key_mv (ixI_mem hk)
  have h1 := h.mr _ _ hs
  have h2 := h.us
  have h3 := h.sp
  rw [hp]
  refine ⟨(ixI T.keys k).toNat, by show ixI T.keys k = _; omega, by omega, by show (0 : Int) ≤ s; omega, by show (s : Int) ≤ 64; omega, ?_⟩
  have e0 : ∀ (m i : Nat), i < T.blocks → (allK T m)[i]? = some (if (i : Int) ∈ T.keys.take m then T.phys i else hmK T.prim i) := fun m i hi => by simp [allK, hi]
  apply List.ext_getElem?
  intro i
  by_cases hi : i < T.blocks
  · rw [e0 _ _ hi, ixI_append_take _ _ hk]
    by_cases e : (ixI T.keys k).toNat = i
    · have e2 : ixI T.keys k = (i : Int) := by omega
      rw [e, List.getElem?_set_self (by rw [allK_length]; exact hi), e2, if_pos (by simp)]
      rw [e2] at hs
      rw [Tab.phys_some hs]
    · rw [List.getElem?_set_ne e, e0 _ _ hi]
      have e2 : (i : Int) ≠ ixI T.keys k := by omega
      have e3 : (i : Int) ∈ T.keys.take k ++ [ixI T.keys k] ↔ (i : Int) ∈ T.keys.take k := by simp [e2]
      simp only [e3]
  · rw [List.getElem?_eq_none (by rw [allK_length]; omega), List.getElem?_eq_none (by rw [List.length_set, allK_length]; omega)]
theorem contains_pL (T : Tab) (z : Int) : (pL T T.blocks).contains z = (T.blk z).isSome := by
  unfold pL Tab.blk
  rw [List.isSome_find?, List.contains_eq_any_beq, List.any_map]
  congr 1
  funext b
  simp only [Function.comp]
  rw [Bool.eq_iff_iff, beq_iff_eq, beq_iff_eq]
  exact ⟨fun e => e.symm, fun e => e.symm⟩
/-- the bad sectors below 's' -/
def badK (T : Tab) (s : Nat) : List Int := ((List.range s).filter fun i : Nat => (T.blk (i : Int)).isNone).map Int.ofNat
theorem badK_end (T : Tab) : badK T (T.first + T.used) = T.bad := rfl
theorem badK_succ (T : Tab) (s : Nat) : badK T (s + 1) = if (T.blk (s : Int)).isSome = true then badK T s else badK T s ++ [(s : Int)] := by
  unfold badK
  rw [List.range_succ, List.filter_append, List.map_append]
  cases h : T.blk (s : Int) with
  | none => simp [h]
  | some b => simp [h]
theorem badK_len (T : Tab) (s : Nat) : (badK T s).length ≤ s := by
  unfold badK
  rw [List.length_map]
  have := List.length_filter_le (fun i : Nat => (T.blk (i : Int)).isNone) (List.range s)
  rwa [List.length_range] at this
/-- what Replace has put together, behind some replacements -/
def insD (b : Int) (l : List (Int × Int)) : Bool := l.any fun p => decide (b ≤ p.1)
def insL (b u : Int) (l : List (Int × Int)) : List (Int × Int) := l.filter (fun p => decide (p.1 < b)) ++ (if insD b l = true then [(b, u)] else []) ++ l.filter (fun p => decide (b < p.1))
theorem insD_snoc (b : Int) (l : List (Int × Int)) (p : Int × Int) : insD b (l ++ [p]) = (insD b l || decide (b ≤ p.1)) := by simp [insD]
theorem insL_snoc (b u : Int) (l : List (Int × Int)) (p : Int × Int) (h : ∀ q ∈ l, q.1 < p.1) : insL b u (l ++ [p]) = insL b u l ++ (if (!insD b l && decide (b ≤ p.1)) = true then [(b, u)] else []) ++ (if p.1 ≠ b then [p] else []) := by
  unfold insL
  rw [insD_snoc, List.filter_append, List.filter_append]
  have hgt : b ≥ p.1 → l.filter (fun p => decide (b < p.1)) = [] := fun hb => by
    rw [List.filter_eq_nil_iff]
    intro q hq
    have := h q hq
    simp; omega
  have hd : b ≥ p.1 → insD b l = false := fun hb => by
    unfold insD
    rw [List.any_eq_false]
    intro q hq
    have := h q hq
    simp; omega
  rcases Int.lt_trichotomy p.1 b with h1 | h1 | h1
  · have e1 : decide (b ≤ p.1) = false := decide_eq_false (by omega)
    have e2 : decide (p.1 < b) = true := decide_eq_true h1
    have e3 : decide (b < p.1) = false := decide_eq_false (by omega)
    simp [hgt (by omega), hd (by omega), e1, e2, e3, show p.1 ≠ b by omega]
  · have e1 : decide (b ≤ p.1) = true := decide_eq_true (by omega)
    have e2 : decide (p.1 < b) = false := decide_eq_false (by omega)
    have e3 : decide (b < p.1) = false := decide_eq_false (by omega)
    simp [hgt (by omega), hd (by omega), h1]
  · have e1 : decide (b ≤ p.1) = true := decide_eq_true (by omega)
    have e2 : decide (p.1 < b) = false := decide_eq_false (by omega)
    have e3 : decide (b < p.1) = true := decide_eq_true h1
    cases hdd : insD b l with
    | true => simp [e1, e2, e3, show p.1 ≠ b by omega]
    | false =>
      have e4 : l.filter (fun p => decide (b < p.1)) = [] := by
        rw [List.filter_eq_nil_iff]
        intro q hq
        unfold insD at hdd
        rw [List.any_eq_false] at hdd
        have := hdd q hq
        simp at this ⊢
        omega
      simp [e1, e2, e3, e4, show p.1 ≠ b by omega]
theorem reps_sorted (T : Tab) : T.reps.Pairwise fun p q => p.1 < q.1 := by
  unfold Tab.reps
  rw [List.pairwise_map]
  exact T.keys_sorted
/-- Replace's list is the new table's -/
theorem Tab.Ok.ins_reps {T : Tab} (h : T.Ok) {b : Int} (h0 : 0 ≤ b) (h1 : b < T.blocks) : insL b T.used T.reps ++ (if insD b T.reps = true then [] else [(b, (T.used : Int))]) = (T.repl b).reps := by
  have hkeys : (T.repl b).keys = T.keys.filter (fun x => decide (x < b)) ++ [b] ++ T.keys.filter (fun x => decide (b < x)) := by
    refine sorted_eq (T.repl b).keys_sorted ?_ fun z => ?_
    · rw [List.pairwise_append, List.pairwise_append]
      refine ⟨⟨T.keys_sorted.filter _, by simp, fun x hx y hy => ?_⟩, T.keys_sorted.filter _, fun x hx y hy => ?_⟩
      · simp only [List.mem_filter, decide_eq_true_eq] at hx
        simp only [List.mem_singleton] at hy
        omega
      · simp only [List.mem_filter, decide_eq_true_eq] at hy
        rcases List.mem_append.1 hx with hx | hx
        · simp only [List.mem_filter, decide_eq_true_eq] at hx; omega
        · simp only [List.mem_singleton] at hx; omega
    · have hm : ∀ T : Tab, z ∈ T.keys ↔ ∃ i : Nat, i < T.blocks ∧ (T.mv i).isSome = true ∧ (i : Int) = z := fun T => by
        unfold Tab.keys
        simp only [List.mem_map, List.mem_filter, List.mem_range]
        exact ⟨fun ⟨i, ⟨a, c⟩, d⟩ => ⟨i, a, c, d⟩, fun ⟨i, a, c, d⟩ => ⟨i, ⟨a, c⟩, d⟩⟩
      rw [hm, List.mem_append, List.mem_append, List.mem_filter, List.mem_filter, hm, List.mem_singleton]
      simp only [decide_eq_true_eq]
      constructor
      · rintro ⟨i, a, c, rfl⟩
        by_cases e : (i : Int) = b
        · exact .inl (.inr e)
        · change i < T.blocks at a
          have c' : (T.mv i).isSome = true := by
            have : (if (i : Int) = b then some T.used else T.mv i).isSome = true := c
            rwa [if_neg e] at this
          rcases Int.lt_or_gt_of_ne e with hl | hl
          · exact .inl (.inl ⟨⟨i, a, c', rfl⟩, hl⟩)
          · exact .inr ⟨⟨i, a, c', rfl⟩, hl⟩
      · have hk : ∀ i : Nat, i < T.blocks → (T.mv i).isSome = true → ((T.repl b).mv i).isSome = true := fun i _ c => by
          show (if (i : Int) = b then some T.used else T.mv i).isSome = true
          split
          · rfl
          · exact c
        rintro ((⟨⟨i, a, c, d⟩, _⟩ | rfl) | ⟨⟨i, a, c, d⟩, _⟩)
        · exact ⟨i, a, hk i a c, d⟩
        · refine ⟨z.toNat, by show z.toNat < T.blocks; omega, ?_, by omega⟩
          show (if ((z.toNat : Nat) : Int) = z then some T.used else T.mv _).isSome = true
          rw [if_pos (by omega)]; rfl
        · exact ⟨i, a, hk i a c, d⟩
  have hpair : ∀ x, x ≠ b → (T.repl b).pair x = T.pair x := fun x hx => by
    unfold Tab.pair
    show (x, (((if x = b then some T.used else T.mv x) : Option Nat).map Int.ofNat).getD 0) = _
    rw [if_neg hx]
  have hb : (T.repl b).pair b = (b, (T.used : Int)) := by
    unfold Tab.pair
    show (b, (((if b = b then some T.used else T.mv b) : Option Nat).map Int.ofNat).getD 0) = _
    rw [if_pos rfl]; rfl
  have hf : ∀ (P : Int → Bool), (T.reps.filter fun p => P p.1) = (T.keys.filter P).map T.pair := fun P => by
    unfold Tab.reps
    rw [List.filter_map]
    rfl
  have e1 : (T.repl b).reps = T.reps.filter (fun p => decide (p.1 < b)) ++ [(b, (T.used : Int))] ++ T.reps.filter (fun p => decide (b < p.1)) := by
    rw [hf fun x => decide (x < b), hf fun x => decide (b < x)]
    show ((T.repl b).keys.map (T.repl b).pair) = _
    rw [hkeys, List.map_append, List.map_append, List.map_cons, List.map_nil, hb]
    congr 1
    · congr 1
      refine List.map_congr_left fun x hx => hpair x ?_
      simp only [List.mem_filter, decide_eq_true_eq] at hx
      omega
    · refine List.map_congr_left fun x hx => hpair x ?_
      simp only [List.mem_filter, decide_eq_true_eq] at hx
      omega
  rw [e1]
  unfold insL
  cases hd : insD b T.reps with
  | true => simp
  | false =>
    have e4 : T.reps.filter (fun p => decide (b < p.1)) = [] := by
      rw [List.filter_eq_nil_iff]
      intro q hq
      unfold insD at hd
      rw [List.any_eq_false] at hd
      have := hd q hq
      simp at this ⊢
      omega
    simp [e4]
end Go.Proofs.Ytjnedcncfdpjoaa.D13
/- Chapter 13: the reference walked: contains, homes, All, Physical, Block, Sectors, Bad. -/
namespace Go.Proofs.Ytjnedcncfdpjoaa.D13
open Go.RowKit Go.Maps
set_option linter.unusedVariables false

/-- the reference's table as a value -/
abbrev tagg (T : Tab) (vp vm : Value) : Value := .agg #[.int .i64 T.blocks, .int .i64 T.spares, .int .i64 T.used, vp, vm]
abbrev tcell (T : Tab) (vp vm : Value) : List Value := [.int .i64 T.blocks, .int .i64 T.spares, .int .i64 T.used, vp, vm]
structure RfW (w : World) (vp vm : Value) (T : Tab) : Prop where
  ok : T.Ok
  kl : T.keys.length ≤ T.used
  pri : RdI w vp T.prim
  mov : RdR w vm T.reps
theorem RfW.below {w w' : World} {vp vm : Value} {T : Tab} (h : RfW w vp vm T) (hb : Below w.heap.size w w') : RfW w' vp vm T := ⟨h.ok, h.kl, h.pri.keep hb, h.mov.keep hb⟩
theorem RfW.form {w : World} {vp vm : Value} {T : Tab} (h : RfW w vp vm T) : ∃ a c a' c', vp = .slice a T.prim.length c ∧ vm = .slice a' T.reps.length c' := by
  obtain ⟨a, c, h1⟩ := RdI.formD h.pri
  obtain ⟨a', c', h2, _⟩ := RdD.form h.mov
  exact ⟨a, c, a', c', h1, h2⟩
theorem RfW.small {w : World} {vp vm : Value} {T : Tab} (h : RfW w vp vm T) : T.blocks ≤ 4096 ∧ T.spares ≤ 64 ∧ T.used ≤ 64 ∧ T.prim.length ≤ 256 ∧ T.reps.length ≤ 64 ∧ T.keys.length ≤ 64 ∧ T.reps.length = T.keys.length := by
  have := h.ok.b2; have := h.ok.sp; have := h.ok.us; have := h.ok.pl; have := h.kl; have := T.reps_length
  omega
set_option maxRecDepth 100000 in
set_option maxHeartbeats 1000000 in
theorem rcontains13 {w : World} {v : Value} {l : List Int} (h : RdI w v l) (x : Int) :
    Calls Try.prog 55 #[v, .int .i64 x] w fun e w' => e = .returned (.bool (l.contains x)) ∧ w = w' := by
  obtain ⟨a, c, rfl⟩ := RdI.formD h
  obtain ⟨b, o, hc⟩ := RdI.at h
  have HC := Lib.hid hc
  have hl := h.1
  clear h hc
  go_enter Try.func55, Try.ntmps55
  go_wp2_with fail
  go_loopw [5] (fun vk wr => ∃ k : Nat, k ≤ l.length ∧ vk = .int .i64 k ∧ Hid (∀ j, j < k → ixI l j ≠ x) ∧ wr = w) (fun vk _ => l.length - (RowKit.intOf vk).toNat)
  case atStart => exact ⟨0, by omega, rfl, Lib.hid fun j hj => by omega, rfl⟩
  case round =>
    obtain ⟨k, hk, rfl, HN, rfl⟩ := hrel
    by_cases hlt : k < l.length
    · obtain ⟨ha, hcl⟩ := HC.out k hlt
      have hi := fun w' => run_idxS Try.underlying22 Try.sizeInt13 (cap := c) ha hlt (k : Int) rfl w'
      simp only [Nat.mul_one] at hi
      have hix : Hid (ixI l k ∈ l) := Lib.hid (ixI_mem hlt)
      have HA := Lib.hid ha
      clear ha
      by_cases he : ixI l k = x
      · have HCT : Hid (l.contains x = true) := Lib.hid (by rw [List.contains_iff_mem, ← he]; exact hix.out)
        generalize ixI l k = y at *
        subst he
        go_wp2_with fail
        go_ret
        exact ⟨by rw [HCT.out]; rfl, rfl⟩
      · have HNX : Hid (∀ j, j < k + 1 → ixI l j ≠ x) := Lib.hid fun j hj => by
          by_cases e : j = k
          · rw [e]; exact he
          · exact HN.out j (by omega)
        generalize ixI l k = y at *
        have he' : (y == x) = false := by rw [beq_eq_false_iff_ne]; exact he
        go_wp2_with fail
        go_roundw
        case rel => exact ⟨k + 1, by omega, by go_num, HNX, trivial⟩
        case measure => simp [RowKit.intOf]; omega
    · obtain rfl : k = l.length := by omega
      have HCT : Hid (l.contains x = false) := Lib.hid (by
        rw [← Bool.not_eq_true, List.contains_iff_mem]
        intro hm
        obtain ⟨j, hj, e⟩ := List.getElem_of_mem hm
        exact HN.out j hj (by rw [ixI_get hj]; exact e))
      go_wp2_with fail
      go_ret
      exact ⟨by rw [HCT.out]; rfl, rfl⟩
set_option maxRecDepth 100000 in
set_option maxHeartbeats 1000000 in
theorem rsectors13 {w : World} {vp vm : Value} {T : Tab} (h : RfW w vp vm T) :
    Calls Try.prog 37 #[tagg T vp vm] w fun e w' => e = .returned (.int .i64 ((T.first : Int) + T.spares)) ∧ Below w.heap.size w w' := by
  obtain ⟨a, c, a', c', rfl, rfl⟩ := h.form
  obtain ⟨s1, s2, s3, s4, s5, s6, s7⟩ := h.small
  rw [first_int]
  clear h
  generalize T.prim.length = n at *
  go_enter Try.func37, Try.ntmps37
  go_wp2_with fail
  go_ret
  exact ⟨rfl, (Below.refl _ _).alloc (Nat.le_refl _) _⟩
set_option maxRecDepth 100000 in
set_option maxHeartbeats 2000000 in
theorem homes13 {w : World} {vp vm : Value} {T : Tab} (h : RfW w vp vm T) :
    Calls Try.prog 76 #[tagg T vp vm] w fun e w' => ∃ v, e = .returned v ∧ w'.ownsRow w.heap.size 3 1 v T.blocks (is (homesK T T.first)) ∧ Below w.heap.size w w' := by
  have HB0 : Hid ((homesK T T.first).length = T.blocks) := Lib.hid (by rw [h.ok.homes_all]; simp)
  obtain ⟨a, c, a', c', rfl, rfl⟩ := h.form
  obtain ⟨s1, s2, s3, s4, s5, s6, s7⟩ := h.small
  have hbx := Bx.new w 42 (tcell T (.slice a T.prim.length c) (.slice a' T.reps.length c'))
  have hb1 := (Below.refl w.heap.size w).alloc (Nat.le_refl _) (.cells (tcell T (.slice a T.prim.length c) (.slice a' T.reps.length c')).toArray 42)
  have HCO := Lib.hid (fun W (hW : Below w.heap.size w W) x => rcontains13 (h.pri.keep hW) x)
  have HFI := Lib.hid (first_int T)
  have hsz : (w.alloc (.cells (tcell T (.slice a T.prim.length c) (.slice a' T.reps.length c')).toArray 42)).heap.size = w.heap.size + 1 := by simp
  have ho0 : ((w.alloc (.cells (tcell T (.slice a T.prim.length c) (.slice a' T.reps.length c')).toArray 42)).alloc (.cells #[] 3)).ownsRow (w.heap.size + 1) 3 1 (.slice (some ⟨w.heap.size + 1, 0, none⟩) 0 0) 0 (is []) := by
    have := World.ownsRow_lit (w.alloc (.cells (tcell T (.slice a T.prim.length c) (.slice a' T.reps.length c')).toArray 42)) (e := 3) (base := w.heap.size + 1) (size := 1) #[] 0 (by rw [hsz]; exact Nat.le_refl _) (by simp) (by simp)
    rw [hsz] at this
    exact this
  have HO0 := Lib.hid ho0
  have HBX := Lib.hid (hbx.alloc (.cells #[] 3))
  have HB1 := Lib.hid (hb1.alloc hb1.size (.cells #[] 3))
  clear h hbx hb1 ho0 hsz s7
  have hfe : (T.first : Int) = T.blocks + T.prim.length := HFI.out
  have hfn : T.first ≤ 5000 := by omega
  clear hfe
  go_enter Try.func76, Try.ntmps76
  go_wp2_with fail
  generalize ((w.alloc (.cells #[.int .i64 T.blocks, .int .i64 T.spares, .int .i64 T.used, .slice a T.prim.length c, .slice a' T.reps.length c'] 42)).alloc (.cells #[] 3)) = w2 at *
  obtain ⟨gb, hgb⟩ : ∃ gb, gb = w.heap.size := ⟨_, rfl⟩
  rw [← hgb] at HBX HO0 ⊢
  have HGB := Lib.hid hgb
  clear hgb
  go_loopw [4, 3] (fun vs vr wr => ∃ s : Nat, s ≤ T.first ∧ vs = .int .i64 s ∧ wr.ownsRow (gb + 1) 3 1 vr (homesK T s).length (is (homesK T s)) ∧ Bx wr gb 42 (tcell T (.slice a T.prim.length c) (.slice a' T.reps.length c')) ∧ Below w.heap.size w wr) (fun vs _ _ => T.first - (RowKit.intOf vs).toNat)
  case atStart => exact ⟨0, by omega, rfl, by simpa [homesK] using HO0.out, HBX.out, HB1.out⟩
  case round =>
    obtain ⟨s, hs, rfl, hO, hX, hB⟩ := hrel
    have c0 := hX.cell (i := 0) rfl
    have c3 := hX.cell (i := 3) rfl
    have HX := Lib.hid hX
    have HB := Lib.hid hB
    have HO := Lib.hid hO
    obtain ⟨ar, cr, rfl⟩ := ownD_form hO
    have hln := homesK_len T s
    by_cases hlt : s < T.first
    · have HC := Lib.hid (HCO.out wr hB (s : Int))
      have hlt' : (s : Int) < (T.blocks : Int) + (T.prim.length : Int) := by have := HFI.out; omega
      have HSC := Lib.hid (homesK_succ T s)
      have hoA := ownD_keep hO ((Below.refl wr.heap.size wr).alloc (Nat.le_refl _) (.cells #[.int .i64 (s : Int)] 3))
      have hbA := hB.alloc hB.size (.cells #[.int .i64 (s : Int)] 3)
      have HBA := Lib.hid hbA
      have hbas : gb + 1 ≤ (wr.alloc (.cells #[.int .i64 (s : Int)] 3)).heap.size := by have := hX.lt; simp; omega
      have HXA := Lib.hid (hX.alloc (.cells #[.int .i64 (s : Int)] 3))
      have hrd := reads_lit wr [(s : Int)] 3 (by simp)
      clear hO hX hB hbA
      cases hct : T.prim.contains (s : Int) with
      | true =>
        rw [hct] at HC
        have HSC2 : Hid (homesK T (s + 1) = homesK T s) := Lib.hid (by rw [HSC.out, if_pos hct])
        clear hct
        go_wp2_with fail
        refine HC.out.mono ?_
        rintro e w' ⟨rfl, rfl⟩
        go_wp2_with fail
        go_roundw
        case rel => exact ⟨s + 1, by omega, by go_num, by rw [HSC2.out]; exact HO.out, HX.out, HB.out⟩
        case measure => simp [RowKit.intOf]; omega
      | false =>
        rw [hct] at HC
        have HSC2 : Hid (homesK T (s + 1) = homesK T s ++ [(s : Int)]) := Lib.hid (by rw [HSC.out, if_neg (by rw [hct]; decide)])
        clear hct
        go_wp2_with fail
        refine HC.out.mono ?_
        rintro e w' ⟨rfl, rfl⟩
        go_wp2_with (at_builtin; refine wpList_appI rfl _ _ rfl Try.underlying22 Try.infoInt13 hoA rfl hrd rfl (by simp only [List.length_singleton]; omega) hbas ?_; intro v8 w8 hown8 hgr8)
        have hb8 := HBA.out.grown hgr8 HBA.out.size (fun j hj => by have := ownD_block hoA j hj; have := HGB.out; omega)
        have hx8 := (hgr8.block gb HXA.out.lt (fun e => by have := ownD_block hoA gb e.symm; omega)).trans HXA.out
        go_roundw
        case rel => exact ⟨s + 1, by omega, by go_num, by rw [HSC2.out, List.length_append]; exact hown8, hx8, hb8⟩
        case measure => simp [RowKit.intOf]; omega
    · obtain rfl : s = T.first := by omega
      have hlt' : ¬ ((T.first : Int) < (T.blocks : Int) + (T.prim.length : Int)) := by have := HFI.out; omega
      clear hO hX hB
      go_wp2_with fail
      go_ret
      have h1 := HO.out
      rw [HB0.out] at h1
      have h2 : w.heap.size ≤ gb + 1 := by have := HGB.out; omega
      exact ⟨.slice ar T.blocks cr, by rw [← show (homesK T T.first).length = T.blocks from HB0.out]; rfl, own_mono h1 h2, HB.out⟩
set_option maxRecDepth 100000 in
set_option maxHeartbeats 2000000 in
theorem all13 {w : World} {vp vm : Value} {T : Tab} (h : RfW w vp vm T) :
    Calls Try.prog 54 #[tagg T vp vm] w fun e w' => ∃ v, e = .returned v ∧ w'.ownsRow w.heap.size 3 1 v T.blocks (is (pL T T.blocks)) ∧ Below w.heap.size w w' := by
  have HRW := Lib.hid h
  obtain ⟨a, c, a', c', rfl, rfl⟩ := h.form
  obtain ⟨s1, s2, s3, s4, s5, s6, s7⟩ := h.small
  have hb1 := (Below.refl w.heap.size w).alloc (Nat.le_refl _) (.cells (tcell T (.slice a T.prim.length c) (.slice a' T.reps.length c')).toArray 42)
  have HBX := Lib.hid (Bx.new w 42 (tcell T (.slice a T.prim.length c) (.slice a' T.reps.length c')))
  have HHO := Lib.hid (homes13 (h.below hb1))
  have HB1 := Lib.hid hb1
  have HFI := Lib.hid (first_int T)
  have HS7 := Lib.hid s7
  clear h hb1 s7
  have c0 := HBX.out.cell (i := 0) rfl
  have c1 := HBX.out.cell (i := 1) rfl
  have c2 := HBX.out.cell (i := 2) rfl
  have c3 := HBX.out.cell (i := 3) rfl
  have c4 := HBX.out.cell (i := 4) rfl
  go_enter Try.func54, Try.ntmps54
  go_wp2_with fail
  refine HHO.out.mono ?_
  rintro e w2 ⟨v2, rfl, ho2, hb2⟩
  obtain ⟨gb, hgb⟩ : ∃ gb, gb = w.heap.size := ⟨_, rfl⟩
  have hsz : (w.alloc (.cells (tcell T (.slice a T.prim.length c) (.slice a' T.reps.length c')).toArray 42)).heap.size = gb + 1 := by rw [hgb]; simp
  rw [hsz] at ho2
  have HX2 := Lib.hid (HBX.out.call hb2)
  have HB2 := Lib.hid (HB1.out.trans (hb2.mono HB1.out.size))
  obtain ⟨g2, hg2⟩ : ∃ g2 c2', v2 = .slice (some ⟨g2, 0, none⟩) T.blocks c2' ∧ gb + 1 ≤ g2 := by
    obtain ⟨g, c', h1, h2, _⟩ := ownD_addr ho2 (by have := HRW.out.ok.b1; omega)
    exact ⟨g, c', h1, h2⟩
  obtain ⟨c2', rfl, hgg⟩ := hg2
  rw [← HRW.out.ok.allK_zero] at ho2
  have HO2 := Lib.hid ho2
  rw [← hgb] at HX2 ⊢
  have HGB := Lib.hid hgb
  clear ho2 hb2 hgb hsz c0 c1 c2 c3 c4 HBX HHO HB1
  go_wp2_with fail
  go_loopw [4] (fun vk wr => ∃ k : Nat, k ≤ T.reps.length ∧ vk = .int .i64 k ∧ wr.ownsRow (gb + 1) 3 1 (.slice (some ⟨g2, 0, none⟩) T.blocks c2') T.blocks (is (allK T k)) ∧ Bx wr gb 42 (tcell T (.slice a T.prim.length c) (.slice a' T.reps.length c')) ∧ Below w.heap.size w wr) (fun vk _ => T.reps.length - (RowKit.intOf vk).toNat)
  case atStart => exact ⟨0, by omega, rfl, HO2.out, HX2.out, HB2.out⟩
  case round =>
    obtain ⟨k, hk, rfl, hO, hX, hB⟩ := hrel
    have d0 := hX.cell (i := 0) rfl
    have d3 := hX.cell (i := 3) rfl
    have d4 := hX.cell (i := 4) rfl
    have HX := Lib.hid hX
    have HB := Lib.hid hB
    have HO := Lib.hid hO
    by_cases hlt : k < T.reps.length
    · obtain ⟨bl, off, hcell⟩ := RdD.at (HRW.out.mov.keep hB)
      obtain ⟨ha, hrg⟩ := hcell k hlt
      have hix := fun w' => run_idxS Try.underlying39 Try.sizeRep13 (cap := c') ha hlt (k : Int) rfl w'
      have x0 := hrg 0 _ rfl
      have x1 := hrg 1 _ rfl
      simp only [Nat.add_zero] at x0
      have hkl : k < T.keys.length := by have := HS7.out; omega
      obtain ⟨p, hp, hpb, hp2, hp3, hst⟩ := HRW.out.ok.allK_step hkl
      rw [Tab.keys_get T hkl] at x0 x1
      rw [hp] at x0
      have HST := Lib.hid hst
      have HA := Lib.hid ha
      generalize (T.pair (ixI T.keys k)).2 = y at *
      have HFY : Hid ((T.first : Int) + y = (T.blocks : Int) + (T.prim.length : Int) + y) := Lib.hid (by have := HFI.out; omega)
      have hixp := fun w' => run_idxS Try.underlying22 Try.sizeInt13 (a := some ⟨g2, 0, none⟩) (cap := c2') rfl hpb (p : Int) rfl w'
      simp only [Nat.zero_add, Nat.mul_one] at hixp
      have hfz := hO.frozenAt p
      have hcl := hO.cellAt p (by omega)
      rw [is_get (show p < (allK T k).length by rw [allK_length]; exact hpb)] at hcl
      clear ha hrg hcell hst hO hX hB hp
      go_wp2_with fail
      go_still_tail 21, (by kernel_rfl)
      repeat still_step
      change wpList _ _ _ _ _ wr.drew
      have hO2 := (ownD_keep HO.out ((Below.refl wr.heap.size wr).drew)).stored p (.int .i64 ((T.blocks : Int) + (T.prim.length : Int) + y))
      have HO3 := Lib.hid hO2.1
      have hB3 := (HB.out.drew).setCell (p := ⟨g2, p, none⟩) (by have := HGB.out; simp only; omega) (.int .i64 ((T.blocks : Int) + (T.prim.length : Int) + y))
      have hX3 := (HX.out.call ((Below.refl wr.heap.size wr).drew)).far (p := ⟨g2, p, none⟩) (by simp only; omega) (.int .i64 ((T.blocks : Int) + (T.prim.length : Int) + y))
      have HB3 := Lib.hid hB3
      have HX3 := Lib.hid hX3
      clear hO2 hB3 hX3
      go_wp2_with fail
      go_roundw
      case rel => exact ⟨k + 1, by omega, by go_num, by rw [HST.out, HFY.out, show is ((allK T k).set p ((T.blocks : Int) + (T.prim.length : Int) + y)) = (is (allK T k)).set p (.int .i64 ((T.blocks : Int) + (T.prim.length : Int) + y)) from by simp [is]]; exact HO3.out, HX3.out, HB3.out⟩
      case measure => simp [RowKit.intOf]; omega
    · obtain rfl : k = T.reps.length := by omega
      clear hO hX hB
      go_wp2_with fail
      go_ret
      have h1 := HO.out
      rw [HS7.out, HRW.out.ok.allK_end] at h1
      have h2 : w.heap.size ≤ gb + 1 := by have := HGB.out; omega
      exact ⟨_, rfl, own_mono h1 h2, HB.out⟩
end Go.Proofs.Ytjnedcncfdpjoaa.D13
/- Chapter 13: the reference walked: Physical, Block, Bad. -/
namespace Go.Proofs.Ytjnedcncfdpjoaa.D13
open Go.RowKit Go.Maps
set_option linter.unusedVariables false

theorem pL_rd {T : Tab} (h : T.Ok) : ∀ x ∈ pL T T.blocks, -9223372036854775808 ≤ x ∧ x ≤ 9223372036854775807 := fun z hz => by
  simp only [pL, List.mem_map, List.mem_range] at hz
  obtain ⟨j, hj, rfl⟩ := hz
  have := h.phys_range (b := j) (by omega) (by omega)
  have := h.us; have := h.sp; have := h.pl; have := h.b2; have := first_int T
  omega
set_option maxRecDepth 100000 in
set_option maxHeartbeats 2000000 in
theorem rphysical13 {w : World} {vp vm : Value} {T : Tab} (h : RfW w vp vm T) (b : Int) (hb : In64 b) :
    Calls Try.prog 41 #[tagg T vp vm, .int .i64 b] w fun e w' => e = .returned (.tuple #[.int .i64 (physR T b).1, .int .i64 (physR T b).2]) ∧ Below w.heap.size w w' := by
  have HRW := Lib.hid h
  obtain ⟨a, c, a', c', rfl, rfl⟩ := h.form
  obtain ⟨s1, s2, s3, s4, s5, s6, s7⟩ := h.small
  have hb1 := (Below.refl w.heap.size w).alloc (Nat.le_refl _) (.cells (tcell T (.slice a T.prim.length c) (.slice a' T.reps.length c')).toArray 42)
  have HBX := Lib.hid (Bx.new w 42 (tcell T (.slice a T.prim.length c) (.slice a' T.reps.length c')))
  have HAL := Lib.hid (all13 (h.below hb1))
  have HB1 := Lib.hid hb1
  clear h hb1 s7
  have c0 := HBX.out.cell (i := 0) rfl
  have c1 := HBX.out.cell (i := 1) rfl
  have c2 := HBX.out.cell (i := 2) rfl
  have c3 := HBX.out.cell (i := 3) rfl
  have c4 := HBX.out.cell (i := 4) rfl
  unfold physR
  by_cases hr : 0 ≤ b ∧ b < (T.blocks : Int)
  · rw [if_pos hr]
    obtain ⟨h0, h1⟩ := hr
    obtain ⟨p, rfl⟩ : ∃ p : Nat, b = p := ⟨b.toNat, by omega⟩
    have hpb : p < T.blocks := by omega
    go_enter Try.func41, Try.ntmps41
    go_wp2_with fail
    refine HAL.out.mono ?_
    rintro e w2 ⟨v2, rfl, ho2, hb2⟩
    obtain ⟨a2, c2', rfl⟩ := ownD_form ho2
    have hlen : (pL T T.blocks).length = T.blocks := pL_length _ _
    have hrd := rdI_own (own_mono ho2 (Nat.zero_le _)) hlen (by omega) (pL_rd HRW.out.ok)
    obtain ⟨bl, off, hcell⟩ := RdI.at (a := a2) (c := c2') (l := pL T T.blocks) (by rw [hlen]; exact hrd)
    obtain ⟨ha, hcl⟩ := hcell p (by rw [hlen]; exact hpb)
    rw [pL_get T hpb] at hcl
    have hix := fun w' => run_idxS Try.underlying22 Try.sizeInt13 (cap := c2') ha hpb (p : Int) rfl w'
    simp only [Nat.mul_one] at hix
    have HA := Lib.hid ha
    have hle := HB1.out.trans (hb2.mono HB1.out.size)
    clear ho2 hb2 hrd hcell ha
    obtain ⟨y, hy⟩ : ∃ y, T.phys p = y := ⟨_, rfl⟩
    have HY := Lib.hid hy
    rw [hy] at hcl
    clear hy
    go_wp2_with fail
    go_ret2
    exact ⟨by rw [HY.out]; rfl, hle⟩
  · rw [if_neg hr]
    have hr2 : b < 0 ∨ (0 ≤ b ∧ (T.blocks : Int) ≤ b) := by omega
    clear hr
    rcases hr2 with h0 | ⟨h0, h1⟩
    all_goals
      go_enter Try.func41, Try.ntmps41
      go_wp2_with fail
      go_ret2
      exact ⟨rfl, HB1.out⟩
theorem blk_first {T : Tab} {x : Int} {k : Nat} (hk : k < T.blocks) (hn : ∀ j, j < k → T.phys (j : Nat) ≠ x) (hx : T.phys k = x) : T.blk x = some k := by
  unfold Tab.blk
  rw [List.find?_eq_some_iff_getElem]
  refine ⟨by simpa using hx, k, by simpa using hk, by simp, fun j hj => ?_⟩
  simp only [List.getElem_range, Bool.not_eq_true', beq_eq_false_iff_ne, ne_eq]
  exact hn j hj
set_option maxRecDepth 100000 in
set_option maxHeartbeats 2000000 in
theorem rblock13 {w : World} {vp vm : Value} {T : Tab} (h : RfW w vp vm T) (x : Int) :
    Calls Try.prog 42 #[tagg T vp vm, .int .i64 x] w fun e w' => e = .returned (.tuple #[.int .i64 (blkR T x).1, .bool (blkR T x).2]) ∧ Below w.heap.size w w' := by
  have HRW := Lib.hid h
  obtain ⟨a, c, a', c', rfl, rfl⟩ := h.form
  obtain ⟨s1, s2, s3, s4, s5, s6, s7⟩ := h.small
  have hb1 := (Below.refl w.heap.size w).alloc (Nat.le_refl _) (.cells (tcell T (.slice a T.prim.length c) (.slice a' T.reps.length c')).toArray 42)
  have HBX := Lib.hid (Bx.new w 42 (tcell T (.slice a T.prim.length c) (.slice a' T.reps.length c')))
  have HAL := Lib.hid (all13 (h.below hb1))
  have HB1 := Lib.hid hb1
  clear h hb1 s7
  go_enter Try.func42, Try.ntmps42
  go_wp2_with fail
  refine HAL.out.mono ?_
  rintro e w2 ⟨v2, rfl, ho2, hb2⟩
  obtain ⟨a2, c2', rfl⟩ := ownD_form ho2
  have hlen : (pL T T.blocks).length = T.blocks := pL_length _ _
  have hrd := rdI_own (own_mono ho2 (Nat.zero_le _)) hlen (by omega) (pL_rd HRW.out.ok)
  have HRD := Lib.hid (show RdI w2 (.slice a2 (pL T T.blocks).length c2') (pL T T.blocks) by rw [hlen]; exact hrd)
  have HB2 := Lib.hid (HB1.out.trans (hb2.mono HB1.out.size))
  clear ho2 hb2 hrd hlen
  go_wp2_with fail
  go_loopw [7] (fun vk wr => ∃ k : Nat, k ≤ T.blocks ∧ vk = .int .i64 k ∧ Hid (∀ j, j < k → T.phys (j : Nat) ≠ x) ∧ wr = w2) (fun vk _ => T.blocks - (RowKit.intOf vk).toNat)
  case atStart => exact ⟨0, by omega, rfl, Lib.hid fun j hj => by omega, rfl⟩
  case round =>
    obtain ⟨k, hk, rfl, HN, rfl⟩ := hrel
    by_cases hlt : k < T.blocks
    · obtain ⟨bl, off, hcell⟩ := RdI.at HRD.out
      obtain ⟨ha, hcl⟩ := hcell k (by rw [pL_length]; exact hlt)
      rw [pL_get T hlt] at hcl
      have hix := fun w' => run_idxS Try.underlying22 Try.sizeInt13 (cap := c2') ha hlt (k : Int) rfl w'
      simp only [Nat.mul_one] at hix
      have HA := Lib.hid ha
      clear ha hcell
      by_cases he : T.phys k = x
      · have HR : Hid (blkR T x = ((k : Int), true)) := Lib.hid (by unfold blkR; rw [blk_first hlt HN.out he])
        generalize T.phys k = y at *
        subst he
        go_wp2_with fail
        go_ret2
        exact ⟨by rw [HR.out]; rfl, HB2.out⟩
      · have HNX : Hid (∀ j, j < k + 1 → T.phys (j : Nat) ≠ x) := Lib.hid fun j hj => by
          by_cases e : j = k
          · rw [e]; exact he
          · exact HN.out j (by omega)
        have he' : (T.phys k == x) = false := by rw [beq_eq_false_iff_ne]; exact he
        generalize T.phys k = y at *
        go_wp2_with fail
        go_roundw
        case rel => exact ⟨k + 1, by omega, by go_num, HNX, trivial⟩
        case measure => simp [RowKit.intOf]; omega
    · obtain rfl : k = T.blocks := by omega
      have HR : Hid (blkR T x = (0, false)) := Lib.hid (by unfold blkR; rw [Tab.blk_none fun b hb => HN.out b hb])
      go_wp2_with fail
      go_ret2
      exact ⟨by rw [HR.out]; rfl, HB2.out⟩
set_option maxRecDepth 100000 in
set_option maxHeartbeats 4000000 in
theorem rbad13 {w : World} {vp vm : Value} {T : Tab} (h : RfW w vp vm T) :
    Calls Try.prog 39 #[tagg T vp vm] w fun e w' => ∃ v, e = .returned v ∧ w'.ownsRow w.heap.size 3 1 v T.bad.length (is T.bad) ∧ Below w.heap.size w w' := by
  have HRW := Lib.hid h
  obtain ⟨a, c, a', c', rfl, rfl⟩ := h.form
  obtain ⟨s1, s2, s3, s4, s5, s6, s7⟩ := h.small
  have hb1 := (Below.refl w.heap.size w).alloc (Nat.le_refl _) (.cells (tcell T (.slice a T.prim.length c) (.slice a' T.reps.length c')).toArray 42)
  have HBX := Lib.hid (Bx.new w 42 (tcell T (.slice a T.prim.length c) (.slice a' T.reps.length c')))
  have HAL := Lib.hid (all13 (h.below hb1))
  have HB1 := Lib.hid hb1
  have HFI := Lib.hid (first_int T)
  clear h hb1 s7
  have c0 := HBX.out.cell (i := 0) rfl
  have c1 := HBX.out.cell (i := 1) rfl
  have c2 := HBX.out.cell (i := 2) rfl
  have c3 := HBX.out.cell (i := 3) rfl
  have c4 := HBX.out.cell (i := 4) rfl
  go_enter Try.func39, Try.ntmps39
  go_wp2_with fail
  refine HAL.out.mono ?_
  rintro e w2 ⟨v2, rfl, ho2, hb2⟩
  obtain ⟨gb, hgb⟩ : ∃ gb, gb = w.heap.size := ⟨_, rfl⟩
  have hlen : (pL T T.blocks).length = T.blocks := pL_length _ _
  have hrd := rdI_own (own_mono ho2 (Nat.zero_le _)) hlen (by omega) (pL_rd HRW.out.ok)
  have HX2 := Lib.hid (HBX.out.call hb2)
  have HB2 := Lib.hid (HB1.out.trans (hb2.mono HB1.out.size))
  have HCO := Lib.hid (fun W (hW : Below w2.heap.size w2 W) x => rcontains13 (hrd.keep hW) x)
  obtain ⟨a2, c2', rfl⟩ := ownD_form ho2
  rw [← hgb] at HX2 ⊢
  have HGB := Lib.hid hgb
  have ho3 := World.ownsRow_lit w2 (e := 3) (base := w2.heap.size) (size := 1) #[] 0 (Nat.le_refl _) (by simp) (by simp)
  have HO3 := Lib.hid ho3
  have hA := (Below.refl w2.heap.size w2).alloc (Nat.le_refl _) (.cells #[] 3)
  have HX3 := Lib.hid (HX2.out.call hA)
  have HL3 := Lib.hid hA
  have HGW : Hid (gb < w2.heap.size) := Lib.hid HX2.out.lt
  clear ho2 hb2 hrd hlen hgb c0 c1 c2 c3 c4 HAL HB1 HBX ho3 hA
  go_wp2_with fail
  go_loopw [5, 4] (fun vs vr wr => ∃ s : Nat, s ≤ T.first + T.used ∧ vs = .int .i64 s ∧ wr.ownsRow w2.heap.size 3 1 vr (badK T s).length (is (badK T s)) ∧ Bx wr gb 42 (tcell T (.slice a T.prim.length c) (.slice a' T.reps.length c')) ∧ Below w2.heap.size w2 wr) (fun vs _ _ => T.first + T.used - (RowKit.intOf vs).toNat)
  case atStart => exact ⟨0, by omega, rfl, (show World.ownsRow _ _ _ 1 _ 0 (is []) from HO3.out), HX3.out, HL3.out⟩
  case round =>
    obtain ⟨s, hs, rfl, hO, hX, hB⟩ := hrel
    have d0 := hX.cell (i := 0) rfl
    have d2 := hX.cell (i := 2) rfl
    have d3 := hX.cell (i := 3) rfl
    have HX := Lib.hid hX
    have HB := Lib.hid hB
    have HO := Lib.hid hO
    obtain ⟨ar, cr, rfl⟩ := ownD_form hO
    have hln := badK_len T s
    have hff : T.first ≤ 5000 := by have := HFI.out; omega
    by_cases hlt : s < T.first + T.used
    · have HC := Lib.hid (HCO.out wr hB (s : Int))
      rw [contains_pL] at HC
      have hlt' : (s : Int) < (T.blocks : Int) + (T.prim.length : Int) + (T.used : Int) := by have := HFI.out; omega
      have HSC := Lib.hid (badK_succ T s)
      have hoA := ownD_keep hO ((Below.refl wr.heap.size wr).alloc (Nat.le_refl _) (.cells #[.int .i64 (s : Int)] 3))
      have hbA := hB.alloc hB.size (.cells #[.int .i64 (s : Int)] 3)
      have HBA := Lib.hid hbA
      have hbas := hbA.size
      have HXA := Lib.hid (hX.alloc (.cells #[.int .i64 (s : Int)] 3))
      have hrd := reads_lit wr [(s : Int)] 3 (by simp)
      clear hO hX hB hbA
      cases hct : (T.blk (s : Int)).isSome with
      | true =>
        rw [hct] at HC
        have HSC2 : Hid (badK T (s + 1) = badK T s) := Lib.hid (by rw [HSC.out, if_pos hct])
        clear hct
        go_wp2_with fail
        refine HC.out.mono ?_
        rintro e w' ⟨rfl, rfl⟩
        go_wp2_with fail
        go_roundw
        case rel => exact ⟨s + 1, by omega, by go_num, by rw [HSC2.out]; exact HO.out, HX.out, HB.out⟩
        case measure => simp [RowKit.intOf]; omega
      | false =>
        rw [hct] at HC
        have HSC2 : Hid (badK T (s + 1) = badK T s ++ [(s : Int)]) := Lib.hid (by rw [HSC.out, if_neg (by rw [hct]; decide)])
        clear hct
        go_wp2_with fail
        refine HC.out.mono ?_
        rintro e w' ⟨rfl, rfl⟩
        go_wp2_with (at_builtin; refine wpList_appI rfl _ _ rfl Try.underlying22 Try.infoInt13 hoA rfl hrd rfl (by simp only [List.length_singleton]; omega) hbas ?_; intro v8 w8 hown8 hgr8)
        have hb8 := HBA.out.grown hgr8 HBA.out.size (fun j hj => ownD_block hoA j hj)
        have hx8 := (hgr8.block gb HXA.out.lt (fun e => by have := ownD_block hoA gb e.symm; have := HGW.out; omega)).trans HXA.out
        go_roundw
        case rel => exact ⟨s + 1, by omega, by go_num, by rw [HSC2.out, List.length_append]; exact hown8, hx8, hb8⟩
        case measure => simp [RowKit.intOf]; omega
    · obtain rfl : s = T.first + T.used := by omega
      have hlt' : ¬ (((T.first + T.used : Nat) : Int) < (T.blocks : Int) + (T.prim.length : Int) + (T.used : Int)) := by have := HFI.out; omega
      clear hO hX hB
      go_wp2_with fail
      go_ret
      exact ⟨_, rfl, own_mono HO.out HB2.out.size, HB2.out.trans (HB.out.mono HB2.out.size)⟩
end Go.Proofs.Ytjnedcncfdpjoaa.D13
namespace Go.Proofs.Ytjnedcncfdpjoaa.Ap
open Go.RowKit
set_option linter.unusedVariables false

/-- the slice lies in no block that 'p' names -/
def Off (v : Value) (p : Nat → Prop) : Prop := ∀ k, v.ownBlock = some k → ¬ p k
/-- the slice 'v'' lies where 'v' lay, or in a block from 'h' on -/
def NewOr (h : Nat) (v v' : Value) : Prop := ∀ k, v'.ownBlock = some k → v.ownBlock = some k ∨ h ≤ k
theorem Off.step {h : Nat} {v v' : Value} {p : Nat → Prop} (ho : Off v p) (hn : NewOr h v v') (hp : ∀ k, h ≤ k → ¬ p k) : Off v' p := fun k hk => by
  rcases hn k hk with h1 | h1
  · exact ho k h1
  · exact hp k h1
theorem Off.nil (p : Nat → Prop) : Off (.slice none 0 0) p := fun k hk => by simp [Value.ownBlock] at hk
theorem Off.own {w : World} {base e size n : Nat} {v : Value} {xs : List Value} (h : w.ownsRow base e size v n xs) {p : Nat → Prop} (hp : ∀ k, base ≤ k → k < w.heap.size → ¬ p k) : Off v p := fun k hk => hp k (h.lt k hk).1 (h.lt k hk).2
/-- what another row holds stays -/
theorem own_off {w w' : World} {b e sz n : Nat} {v u : Value} {xs : List Value} (h : w.ownsRow b e sz v n xs) (hg : w.grownBy w' u.ownBlock) (ho : ∀ k, v.ownBlock = some k → u.ownBlock ≠ some k) : w'.ownsRow b e sz v n xs := by
  refine h.kept hg ?_
  cases e : v.ownBlock with
  | none => exact .inl rfl
  | some k => exact .inr fun h2 => ho k e h2.symm
theorem bx_off {w w' : World} {g t : Nat} {cs : List Value} {u : Value} (h : Bx w g t cs) (hg : w.grownBy w' u.ownBlock) (ho : u.ownBlock ≠ some g) : Bx w' g t cs := (hg.block g h.lt fun e => ho e.symm).trans h
/-- 'append(v, x, ..)' of elements that lie in memory -/
theorem run_apx {P : Program} {t ty e : TypeId} {i : TypeInfo} {z : Value} {size bytes base : Nat} (ht : P.underlying t = some (.slice e)) (hi : P.info? e = some i) (hz : i.zero = some z) (hsize : i.size = size) (hby : i.bytes = bytes) (hzs : z.cells.size = size) (hsz : 0 < size)
    {w : World} {v : Value} {n : Nat} {xs : List Value} (hown : w.ownsRow base e size v n xs) {a : Addr} {m c : Nat} {news : List Value} (hm : 0 < m) (hl : news.length = m * size) (hnews : ∀ j u, news[j]? = some u → w.cell? (a.add j) = some u) (h1 : ∀ u ∈ news, u.oneCell' = true)
    (h63 : n + m ≤ maxLen) (hbytes : (n + m) * bytes ≤ 140737488355328) (hbase : base ≤ w.heap.size) :
    ∃ v' w', (Builtin.append_ #[t, t] ty #[v, .slice (some a) m c]).run P w = .ok v' w' ∧ w'.ownsRow base e size v' (n + m) (xs ++ news) ∧ w.grownBy w' v.ownBlock ∧ NewOr w.heap.size v v' := by
  obtain ⟨v', w', r1, r2, r3, _⟩ := run_append_own (P := P) w base t ty e i z size bytes ht hi hz hsize hby hzs hsz v n xs hown a m c news hl hnews h1 h63 hbytes hbase
  refine ⟨v', w', r1, r2, r3, ?_⟩
  unfold maxLen at h63
  subst hsize hby
  -- which block it is, by the three ways that 'append' goes
  rcases hown.2 with ⟨rfl, rfl⟩ | ⟨g, cap, cur, rfl, _, hg, _, _, hcs, _⟩
  · have h9 := run_append_nil (P := P) w t ty e i z ht hi hz a m c news hl hnews hm (by omega) (by simp only [Nat.zero_add] at hbytes; omega)
    rw [r1] at h9
    injection h9 with e1 e2
    subst e1
    intro k hk
    simp only [Value.ownBlock, Option.some.injEq] at hk
    exact .inr (by omega)
  · by_cases hroom : n + m ≤ cap
    · have hfit : n * i.size + news.length ≤ cur.size := by rw [hl, hcs, ← Nat.add_mul]; exact Nat.mul_le_mul_right _ hroom
      have h9 := run_append_room (P := P) w t ty e i ht hi g n cap cur hg a m c news hl hnews h1 hroom hfit
      rw [r1] at h9
      injection h9 with e1 e2
      subst e1
      intro k hk
      simp only [Value.ownBlock] at hk ⊢
      exact .inl hk
    · have h9 := run_append_grow (P := P) w t ty e i z ht hi hz ⟨g, 0, none⟩ n cap xs hown.1 (hown.cells (g := g) rfl) a m c news hl hnews (by omega) (by omega) (growslice_fits (by omega) hbytes)
      rw [r1] at h9
      injection h9 with e1 e2
      subst e1
      intro k hk
      simp only [Value.ownBlock, Option.some.injEq] at hk
      exact .inr (by omega)
theorem wpList_apx {P : Program} {ops : Array Oper} {rest : List Oper} {o : Oper} {ac : Act} {Q : Exit → Act → World → Prop} {w : World} (hg : o.guard = none) (s x : Operand) {t : TypeId}
    (hop : o.op = .call { callee := .builtin .append, args := #[s, x], argTypes := #[t, t] }) {e : TypeId} {z : Value} {size bytes base : Nat}
    (ht : P.underlying t = some (.slice e)) (h2 : (P.info? e).map (fun i => (i.zero, i.size, i.bytes)) = some (some z, size, bytes)) (hzs : z.cells.size = size) (hsz : 0 < size)
    {v : Value} {n : Nat} {xs : List Value} (hown : w.ownsRow base e size v n xs) (hv : ac.eval s = v) {a : Addr} {m c : Nat} {news : List Value} (hx : ac.eval x = .slice (some a) m c) (hm : 0 < m) (hl : news.length = m * size) (hnews : ∀ j u, news[j]? = some u → w.cell? (a.add j) = some u) (h1 : ∀ u ∈ news, u.oneCell' = true)
    (h63 : n + m ≤ maxLen) (hbytes : (n + m) * bytes ≤ 140737488355328) (hbase : base ≤ w.heap.size)
    (hK : ∀ v' w', w'.ownsRow base e size v' (n + m) (xs ++ news) → w.grownBy w' v.ownBlock → NewOr w.heap.size v v' → wpList P ops Q rest (ac.put o.dst v') w') : wpList P ops Q (o :: rest) ac w := by
  obtain ⟨i0, hi, hz0, hz1, hz2⟩ := info_parts h2
  refine wpList_plain hg fun K hK' => ?_
  obtain ⟨v', w', hrun, r1, r2, r3⟩ := run_apx (ty := o.type) ht hi hz0 hz1 hz2 hzs hsz hown hm hl hnews h1 h63 hbytes hbase
  obtain ⟨vs, hvs⟩ : ∃ vs, vs = Value.slice (some a) m c := ⟨_, rfl⟩
  rw [← hvs] at hx hrun
  unfold Oper.wp
  simp [execOp, hop, resolve, invoke, builtin, hv, hx, hrun, Result.andThen]
  exact hK' _ _ (hK v' w' r1 r2 r3)
/-- 'append(v, y)' of one cell that lies in a literal -/
theorem wpList_ap1 {P : Program} {ops : Array Oper} {rest : List Oper} {o : Oper} {ac : Act} {Q : Exit → Act → World → Prop} {w : World} (hg : o.guard = none) (s x : Operand) {t : TypeId}
    (hop : o.op = .call { callee := .builtin .append, args := #[s, x], argTypes := #[t, t] }) {e : TypeId} {z : Value} {bytes base : Nat}
    (ht : P.underlying t = some (.slice e)) (h2 : (P.info? e).map (fun i => (i.zero, i.size, i.bytes)) = some (some z, 1, bytes)) (hzs : z.cells.size = 1)
    {v : Value} {n : Nat} {xs : List Value} (hown : w.ownsRow base e 1 v n xs) (hv : ac.eval s = v) {g : Nat} {y : Value} (hx : ac.eval x = .slice (some ⟨g, 0, none⟩) 1 1) (hc : w.cell? ⟨g, 0, none⟩ = some y) (h1 : y.oneCell' = true)
    (h63 : n + 1 ≤ maxLen) (hbytes : (n + 1) * bytes ≤ 140737488355328) (hbase : base ≤ w.heap.size)
    (hK : ∀ v' w', w'.ownsRow base e 1 v' (n + 1) (xs ++ [y]) → w.grownBy w' v.ownBlock → NewOr w.heap.size v v' → wpList P ops Q rest (ac.put o.dst v') w') : wpList P ops Q (o :: rest) ac w :=
  wpList_apx hg s x hop ht h2 hzs (by omega) hown hv (a := ⟨g, 0, none⟩) (m := 1) (news := [y]) hx (by omega) rfl (fun j u hu => by
    cases j with
    | zero =>
      simp only [List.getElem?_cons_zero, Option.some.injEq] at hu
      subst hu
      exact hc
    | succ j => simp at hu) (fun u hu => by simp only [List.mem_singleton] at hu; rw [hu]; exact h1) h63 hbytes hbase hK
end Go.Proofs.Ytjnedcncfdpjoaa.Ap
