/- Chapter 14: encode of the package walked, the whole. -/
import Derived.Test.YtiioojlihapdaaaEnP1
import Derived.Test.YtiioojlihapdaaaQc
import Derived.Test.YtiioojlihapdaaaTk
import Derived.Test.YtiioojlihapdaaaTocApp
import Derived.Test.YtiioojlihapdaaaTkE
import Derived.Deep.RegionHeld3
import Derived.Deep.Cut
import Derived.Outline
/- The encoding of a table, and what is read back: plain (chapter 14). -/
namespace Go.Proofs.Ytiioojlihapdaaa.E1
open Go.RowKit W10
set_option linter.unusedVariables false

def b2 (n : Int) : List UInt8 := (bigR n 2).1
def b4 (n : Int) : List UInt8 := (bigR n 4).1
theorem big_ok {n : Int} {k : Nat} (h : fitE n k = true) : (bigR n k).1.length = k ∧ (beV (bigR n k).1 : Int) = n := by
  unfold bigR
  rw [if_pos h]
  unfold fitE at h
  rw [Bool.and_eq_true, decide_eq_true_eq, decide_eq_true_eq] at h
  refine ⟨beN_length _ _, ?_⟩
  simp only
  rw [beV_beN, Nat.mod_eq_of_lt]
  · omega
  · have := h.2
    rw [Nat.div_eq_zero_iff] at this
    rcases this with h0 | h0
    · exact absurd h0 (by simp)
    · exact h0
theorem b2_ok {n : Int} (h0 : 0 ≤ n) (h1 : n < 65536) : (b2 n).length = 2 ∧ (beV (b2 n) : Int) = n := big_ok (by rw [fitE_2]; exact decide_eq_true ⟨h0, h1⟩)
theorem b4_ok {n : Int} (h0 : 0 ≤ n) (h1 : n < 4294967296) : (b4 n).length = 4 ∧ (beV (b4 n) : Int) = n := big_ok (by rw [fitE_4]; exact decide_eq_true ⟨h0, h1⟩)
/-- a track, a table -/
def trkE (x : T.Trk) : List UInt8 := b2 x.num ++ b2 x.ses ++ b4 x.st ++ b4 x.len ++ b4 x.nx ++ b2 x.sta ++ b2 x.pk
def fn (f : Bool) : Int := if f = true then 1 else 0
def headE (q cl : Int) (f : Bool) (n : Int) : List UInt8 := [80, 77, 65, 49] ++ b4 q ++ b2 cl ++ b2 (fn f) ++ b2 n
def bodyE (q cl : Int) (f : Bool) (l : List T.Trk) : List UInt8 := headE q cl f l.length ++ l.flatMap trkE
def encE (q cl : Int) (f : Bool) (l : List T.Trk) : List UInt8 := bodyE q cl f l ++ crcB (C.crc 0 (bodyE q cl f l))
theorem trkE_le (x : T.Trk) : (trkE x).length ≤ 20 := by
  have h1 := big_le x.num 2; have h2 := big_le x.ses 2; have h3 := big_le x.st 4; have h4 := big_le x.len 4; have h5 := big_le x.nx 4; have h6 := big_le x.sta 2; have h7 := big_le x.pk 2
  unfold trkE b2 b4
  simp only [List.length_append]
  omega
theorem flat_le (l : List T.Trk) : (l.flatMap trkE).length ≤ 20 * l.length := by
  induction l with
  | nil => simp
  | cons x l ih =>
    rw [List.flatMap_cons, List.length_append, List.length_cons]
    have := trkE_le x
    omega
theorem head_le (q cl : Int) (f : Bool) (n : Int) : (headE q cl f n).length ≤ 14 := by
  have h1 := big_le q 4; have h2 := big_le cl 2; have h3 := big_le (fn f) 2; have h4 := big_le n 2
  unfold headE b2 b4
  simp only [List.length_append, List.length_cons, List.length_nil]
  omega
theorem body_le (q cl : Int) (f : Bool) (l : List T.Trk) : (bodyE q cl f l).length ≤ 14 + 20 * l.length := by
  have := head_le q cl f l.length; have := flat_le l
  unfold bodyE
  rw [List.length_append]; omega

/-- numbers that have place -/
structure FitT (x : T.Trk) : Prop where
  a : 0 ≤ x.num ∧ x.num < 65536
  b : 0 ≤ x.ses ∧ x.ses < 65536
  c : 0 ≤ x.st ∧ x.st < 4294967296
  d : 0 ≤ x.len ∧ x.len < 4294967296
  e : 0 ≤ x.nx ∧ x.nx < 4294967296
  f : 0 ≤ x.sta ∧ x.sta < 65536
  g : 0 ≤ x.pk ∧ x.pk < 65536
theorem FitT.length {x : T.Trk} (h : FitT x) : (trkE x).length = 20 := by
  unfold trkE
  simp only [List.length_append, (b2_ok h.a.1 h.a.2).1, (b2_ok h.b.1 h.b.2).1, (b4_ok h.c.1 h.c.2).1, (b4_ok h.d.1 h.d.2).1, (b4_ok h.e.1 h.e.2).1, (b2_ok h.f.1 h.f.2).1, (b2_ok h.g.1 h.g.2).1]
/-- the track at an offset -/
def trkD (s : List UInt8) (o : Nat) : T.Trk := ⟨rdE s o 2, rdE s (o + 2) 2, rdE s (o + 4) 4, rdE s (o + 8) 4, rdE s (o + 12) 4, rdE s (o + 16) 2, rdE s (o + 18) 2⟩
theorem trkD_at {x : T.Trk} (h : FitT x) (a c : List UInt8) {o : Nat} (ha : a.length = o) : trkD (a ++ trkE x ++ c) o = x := by
  obtain ⟨a1, a2⟩ := b2_ok h.a.1 h.a.2
  obtain ⟨b1, b2'⟩ := b2_ok h.b.1 h.b.2
  obtain ⟨c1, c2⟩ := b4_ok h.c.1 h.c.2
  obtain ⟨d1, d2⟩ := b4_ok h.d.1 h.d.2
  obtain ⟨e1, e2⟩ := b4_ok h.e.1 h.e.2
  obtain ⟨f1, f2⟩ := b2_ok h.f.1 h.f.2
  obtain ⟨g1, g2⟩ := b2_ok h.g.1 h.g.2
  unfold trkD trkE
  generalize b2 x.num = A at *
  generalize b2 x.ses = B at *
  generalize b4 x.st = C at *
  generalize b4 x.len = D at *
  generalize b4 x.nx = E at *
  generalize b2 x.sta = F at *
  generalize b2 x.pk = G at *
  have r1 : rdE (a ++ (A ++ B ++ C ++ D ++ E ++ F ++ G) ++ c) o 2 = beV A := by
    have := rdE_at a A (B ++ C ++ D ++ E ++ F ++ G ++ c) ha a1
    simpa only [List.append_assoc] using this
  have r2 : rdE (a ++ (A ++ B ++ C ++ D ++ E ++ F ++ G) ++ c) (o + 2) 2 = beV B := by
    have := rdE_at (a ++ A) B (C ++ D ++ E ++ F ++ G ++ c) (o := o + 2) (by simp only [List.length_append]; omega) b1
    simpa only [List.append_assoc] using this
  have r3 : rdE (a ++ (A ++ B ++ C ++ D ++ E ++ F ++ G) ++ c) (o + 4) 4 = beV C := by
    have := rdE_at (a ++ A ++ B) C (D ++ E ++ F ++ G ++ c) (o := o + 4) (by simp only [List.length_append]; omega) c1
    simpa only [List.append_assoc] using this
  have r4 : rdE (a ++ (A ++ B ++ C ++ D ++ E ++ F ++ G) ++ c) (o + 8) 4 = beV D := by
    have := rdE_at (a ++ A ++ B ++ C) D (E ++ F ++ G ++ c) (o := o + 8) (by simp only [List.length_append]; omega) d1
    simpa only [List.append_assoc] using this
  have r5 : rdE (a ++ (A ++ B ++ C ++ D ++ E ++ F ++ G) ++ c) (o + 12) 4 = beV E := by
    have := rdE_at (a ++ A ++ B ++ C ++ D) E (F ++ G ++ c) (o := o + 12) (by simp only [List.length_append]; omega) e1
    simpa only [List.append_assoc] using this
  have r6 : rdE (a ++ (A ++ B ++ C ++ D ++ E ++ F ++ G) ++ c) (o + 16) 2 = beV F := by
    have := rdE_at (a ++ A ++ B ++ C ++ D ++ E) F (G ++ c) (o := o + 16) (by simp only [List.length_append]; omega) f1
    simpa only [List.append_assoc] using this
  have r7 : rdE (a ++ (A ++ B ++ C ++ D ++ E ++ F ++ G) ++ c) (o + 18) 2 = beV G := by
    have := rdE_at (a ++ A ++ B ++ C ++ D ++ E ++ F) G c (o := o + 18) (by simp only [List.length_append]; omega) g1
    simpa only [List.append_assoc] using this
  rw [r1, r2, r3, r4, r5, r6, r7, a2, b2', c2, d2, e2, f2, g2]
theorem flat_len {l : List T.Trk} (h : ∀ x ∈ l, FitT x) : (l.flatMap trkE).length = 20 * l.length := by
  induction l with
  | nil => simp
  | cons x l ih =>
    rw [List.flatMap_cons, List.length_append, List.length_cons, (h x (by simp)).length, ih fun y hy => h y (by simp [hy])]
    omega
/-- what is read back -/
def seqD (s : List UInt8) : Nat := rdE s 4 4
def clD (s : List UInt8) : Nat := rdE s 8 2
def finD (s : List UInt8) : Bool := rdE s 10 2 == 1
def cntD (s : List UInt8) : Nat := rdE s 12 2
def tksD (s : List UInt8) (n : Nat) : List T.Trk := (List.range n).map fun k => trkD s (14 + 20 * k)
theorem tksD_length (s : List UInt8) (n : Nat) : (tksD s n).length = n := by simp [tksD]
theorem tksD_succ (s : List UInt8) (n : Nat) : tksD s (n + 1) = tksD s n ++ [trkD s (14 + 20 * n)] := by simp [tksD, List.range_succ]
/-- whether a string is the encoding of a table -/
def okD (cap : Int) (s : List UInt8) : Bool :=
  decide (16 ≤ s.length ∧ s.length = 16 + 20 * cntD s) && T.validB cap (clD s) (finD s) (tksD s (cntD s)) && decide (seqD s ≤ 2147483647) && decide (encE (seqD s) (clD s) (finD s) (tksD s (cntD s)) = s)
theorem okD_iff {cap : Int} {s : List UInt8} : okD cap s = true ↔ (16 ≤ s.length ∧ s.length = 16 + 20 * cntD s) ∧ T.validR cap (clD s) (finD s) (tksD s (cntD s)) ∧ seqD s ≤ 2147483647 ∧ encE (seqD s) (clD s) (finD s) (tksD s (cntD s)) = s := by
  unfold okD
  simp only [Bool.and_eq_true, decide_eq_true_eq, T.validB_true, and_assoc]
theorem fit_of_valid {cap cl : Int} {fin : Bool} {l : List T.Trk} (hv : T.validR cap cl fin l) : ∀ x ∈ l, FitT x := by
  intro x hx
  obtain ⟨i, hi, rfl⟩ := List.getElem_of_mem hx
  have e : l[i] = T.tr l i := by simp [T.tr, hi]
  rw [e]
  have h1 := T.validR.at hv hi
  have h2 := hv.2.1
  have h0 := hv.2.2.1
  obtain ⟨o1, o2, o3, o4, o5, o6, o7, o8, o9, o10, o11, o12, o13, o14⟩ := hv.2.2.2.2.2.1 i hi
  have hs : 1 ≤ (T.tr l i).ses := by
    have := T.okR.mono hv.2.2.2.2.2.1 0 (i + 1) (by omega)
    rw [Nat.zero_add, T.sB_zero, T.sB_succ] at this
    exact this
  exact ⟨by omega, by omega, by omega, by omega, by omega, by omega, by omega⟩
theorem tr_mem {l : List T.Trk} {i : Nat} (h : i < l.length) : T.tr l i ∈ l := by simp [T.tr, h]
theorem split_at {l : List T.Trk} {k : Nat} (hk : k < l.length) : l = l.take k ++ T.tr l k :: l.drop (k + 1) := by
  have e : T.tr l k = l[k] := by simp [T.tr, hk]
  rw [e, ← List.drop_eq_getElem_cons hk, List.take_append_drop]
/-- what was encoded is read back -/
theorem enc_read {q cl : Int} {fin : Bool} {l : List T.Trk} (hq : 0 ≤ q ∧ q < 4294967296) (hc : 0 ≤ cl ∧ cl < 65536) (hn : l.length < 65536) (hl : ∀ x ∈ l, FitT x) :
    (encE q cl fin l).length = 16 + 20 * l.length ∧ (seqD (encE q cl fin l) : Int) = q ∧ (clD (encE q cl fin l) : Int) = cl ∧ finD (encE q cl fin l) = fin ∧ cntD (encE q cl fin l) = l.length ∧ tksD (encE q cl fin l) l.length = l := by
  obtain ⟨a1, a2⟩ := b4_ok hq.1 hq.2
  obtain ⟨b1, b2'⟩ := b2_ok hc.1 hc.2
  obtain ⟨c1, c2⟩ := b2_ok (n := fn fin) (by unfold fn; split <;> omega) (by unfold fn; split <;> omega)
  obtain ⟨d1, d2⟩ := b2_ok (n := (l.length : Int)) (by omega) (by omega)
  have hlen := flat_len hl
  have he : encE q cl fin l = [80, 77, 65, 49] ++ b4 q ++ b2 cl ++ b2 (fn fin) ++ b2 l.length ++ (l.flatMap trkE ++ crcB (C.crc 0 (bodyE q cl fin l))) := by
    simp only [encE, bodyE, headE, List.append_assoc]
  have hcr : (crcB (C.crc 0 (bodyE q cl fin l))).length = 2 := rfl
  generalize crcB (C.crc 0 (bodyE q cl fin l)) = Z at he hcr
  have htr : ∀ k, k < l.length → trkD (encE q cl fin l) (14 + 20 * k) = T.tr l k := fun k hk => by
    have hx := hl _ (tr_mem hk)
    have e1 : l.flatMap trkE = (l.take k).flatMap trkE ++ trkE (T.tr l k) ++ (l.drop (k + 1)).flatMap trkE := by
      conv => lhs; rw [split_at hk]
      rw [List.flatMap_append, List.flatMap_cons, List.append_assoc]
    have e2 : ((l.take k).flatMap trkE).length = 20 * k := by
      rw [flat_len fun x hx => hl x (List.mem_of_mem_take hx), List.length_take]; omega
    have := trkD_at hx ([80, 77, 65, 49] ++ b4 q ++ b2 cl ++ b2 (fn fin) ++ b2 l.length ++ (l.take k).flatMap trkE) ((l.drop (k + 1)).flatMap trkE ++ Z) (o := 14 + 20 * k) (by simp only [List.length_append, List.length_cons, List.length_nil]; omega)
    rw [he, e1]
    simpa only [List.append_assoc] using this
  have r1 : rdE (encE q cl fin l) 4 4 = beV (b4 q) := by
    have := rdE_at [80, 77, 65, 49] (b4 q) (b2 cl ++ b2 (fn fin) ++ b2 l.length ++ (l.flatMap trkE ++ Z)) (o := 4) rfl a1
    rw [he]
    simpa only [List.append_assoc] using this
  have r2 : rdE (encE q cl fin l) 8 2 = beV (b2 cl) := by
    have := rdE_at ([80, 77, 65, 49] ++ b4 q) (b2 cl) (b2 (fn fin) ++ b2 l.length ++ (l.flatMap trkE ++ Z)) (o := 8) (by simp only [List.length_append, List.length_cons, List.length_nil]; omega) b1
    rw [he]
    simpa only [List.append_assoc] using this
  have r3 : rdE (encE q cl fin l) 10 2 = beV (b2 (fn fin)) := by
    have := rdE_at ([80, 77, 65, 49] ++ b4 q ++ b2 cl) (b2 (fn fin)) (b2 l.length ++ (l.flatMap trkE ++ Z)) (o := 10) (by simp only [List.length_append, List.length_cons, List.length_nil]; omega) c1
    rw [he]
    simpa only [List.append_assoc] using this
  have r4 : rdE (encE q cl fin l) 12 2 = beV (b2 l.length) := by
    have := rdE_at ([80, 77, 65, 49] ++ b4 q ++ b2 cl ++ b2 (fn fin)) (b2 l.length) (l.flatMap trkE ++ Z) (o := 12) (by simp only [List.length_append, List.length_cons, List.length_nil]; omega) d1
    rw [he]
    simpa only [List.append_assoc] using this
  refine ⟨?_, ?_, ?_, ?_, ?_, ?_⟩
  · rw [he]
    simp only [List.length_append, List.length_cons, List.length_nil]
    omega
  · unfold seqD; rw [r1]; exact a2
  · unfold clD; rw [r2]; exact b2'
  · unfold finD; rw [r3]
    have : beV (b2 (fn fin)) = if fin = true then 1 else 0 := by
      have h := c2
      generalize beV (b2 (fn fin)) = z at h ⊢
      unfold fn at h
      by_cases hf : fin = true
      · rw [if_pos hf] at h ⊢; omega
      · rw [if_neg hf] at h ⊢; omega
    rw [this]
    cases fin <;> rfl
  · unfold cntD; rw [r4]; omega
  · apply List.ext_getElem
    · simp [tksD]
    · intro i h1 h2
      simp only [tksD, List.getElem_map, List.getElem_range]
      rw [htr i h2]
      simp [T.tr, h2]
theorem okD_enc {cap q cl : Int} {fin : Bool} {l : List T.Trk} (hv : T.validR cap cl fin l) (hq : 0 ≤ q) (hq2 : q ≤ 2147483647) :
    okD cap (encE q cl fin l) = true ∧ (seqD (encE q cl fin l) : Int) = q ∧ (clD (encE q cl fin l) : Int) = cl ∧ finD (encE q cl fin l) = fin ∧ cntD (encE q cl fin l) = l.length ∧ tksD (encE q cl fin l) (cntD (encE q cl fin l)) = l ∧ (encE q cl fin l).length = 16 + 20 * l.length := by
  have hl := fit_of_valid hv
  obtain ⟨h1, h2, h3, h4, h5, h6⟩ := enc_read (fin := fin) ⟨hq, by omega⟩ (show 0 ≤ cl ∧ cl < 65536 by have := hv.2.2.2; omega) (by have := hv.2.2.1; omega) hl
  refine ⟨okD_iff.2 ?_, h2, h3, h4, h5, by rw [h5, h6], h1⟩
  rw [h2, h3, h4, h5, h6]
  refine ⟨⟨by omega, h1⟩, hv, by omega, rfl⟩
/-- half of an encoding is none -/
theorem half_bad {cap : Int} {s : List UInt8} {n : Nat} (h : s.length = 16 + 20 * n) : okD cap (s.take (s.length / 2)) = false := by
  rw [Bool.eq_false_iff]
  intro h1
  have h2 := (okD_iff.1 h1).1.2
  rw [List.length_take] at h2
  generalize cntD _ = m at h2
  omega
end Go.Proofs.Ytiioojlihapdaaa.E1
/- Chapter 14: encode of the package walked. -/
namespace Go.Proofs.Ytiioojlihapdaaa.E1
open Go.RowKit
set_option linter.unusedVariables false

def icells (xs : List Int) : List Value := xs.map (Value.int .i64)
theorem rdn_lit (W : World) (t : TypeId) (xs : List Int) {g : Nat} (hg : W.heap.size = g) (n : Nat) (hn : xs.length = n) : RdN (W.alloc (.cells (icells xs).toArray t)) (.slice (some ⟨g, 0, none⟩) n n) xs := by
  subst hg hn
  refine ⟨_, _, W.heap.size, 0, rfl, Nat.le_refl _, fun i hi => ⟨rfl, fun j u hu => ?_⟩⟩
  have hj : j = 0 := by
    have := (List.getElem?_eq_some_iff.1 hu).1
    simp only [ic_length] at this
    omega
  subst hj
  have hu2 : u = .int .i64 (atD 0 xs i) := by simpa [ic] using hu.symm
  have h := (Bx.new W t (icells xs)).cell (i := i) (u := .int .i64 (atD 0 xs i)) (by simp [icells, atD, hi])
  rw [hu2]
  simpa using h
/-- what encode holds: the table's box, the string -/
structure EnW (w0 : World) (cl : Int) (fin : Bool) (sv : Value) (S : List UInt8) (W : World) : Prop where
  t : Bx W w0.heap.size 24 [.int .i64 cl, .bool fin, sv]
  s : Bx W (w0.heap.size + 1) 9 [.string (str S)]
  le : Below w0.heap.size w0 W
section
variable {w0 W W' : World} {cl : Int} {fin : Bool} {sv : Value} {S S' : List UInt8}
theorem EnW.call (h : EnW w0 cl fin sv S W) (hb : Below W.heap.size W W') : EnW w0 cl fin sv S W' := ⟨h.t.call hb, h.s.call hb, h.le.trans (hb.mono h.le.size)⟩
theorem EnW.facts (h : EnW w0 cl fin sv S W) : W.cell? ⟨w0.heap.size, 0, none⟩ = some (.int .i64 cl) ∧ W.cell? ⟨w0.heap.size, 1, none⟩ = some (.bool fin) ∧ W.cell? ⟨w0.heap.size, 2, none⟩ = some sv ∧ w0.heap.size + 1 < W.heap.size :=
  ⟨h.t.cell (i := 0) rfl, h.t.cell (i := 1) rfl, h.t.cell (i := 2) rfl, h.s.lt⟩
theorem EnW.add {e : Ending} (h : EnW w0 cl fin sv S W) (ha : AddS (w0.heap.size + 1) S' W e W') : e = .returned (.tuple #[]) ∧ EnW w0 cl fin sv S' W' ∧ ∀ g t cs, Bx W g t cs → g ≠ w0.heap.size + 1 → Bx W' g t cs := by
  obtain ⟨h1, h2, h3, h4⟩ := ha
  have h5 : ∀ g t cs, Bx W g t cs → g ≠ w0.heap.size + 1 → Bx W' g t cs := fun g t cs hg hn => (h4 g hg.lt hn).trans hg
  exact ⟨h1, ⟨h5 _ _ _ h.t (by omega), h2, h.le.trans (h3.mono (by omega))⟩, h5⟩
end
def AddW (w0 : World) (cl : Int) (fin : Bool) (sv : Value) (S : List UInt8) (W : World) (e : Ending) (w' : World) : Prop :=
  e = .returned (.tuple #[]) ∧ EnW w0 cl fin sv S w' ∧ ∀ g t cs, Bx W g t cs → g ≠ w0.heap.size + 1 → Bx w' g t cs
theorem add2_at {w0 W : World} {cl : Int} {fin : Bool} {sv : Value} {S : List UInt8} (h : EnW w0 cl fin sv S W) (xs : List Int) (n : Nat) (hn : xs.length = n) (hn2 : n ≤ 120) (hx : ∀ x ∈ xs, x ≤ 9223372036854775807) (hS : S.length ≤ 100000) :
    Calls Try.prog 73 #[.int .i64 2, .slice (some ⟨W.heap.size, 0, none⟩) n n, .pointer (some ⟨w0.heap.size + 1, 0, none⟩)] (W.alloc (.cells (icells xs).toArray 3)) (AddW w0 cl fin sv (S ++ flatB 2 xs) W) := by
  have hlt := h.s.lt
  have ha := h.call ((Below.refl W.heap.size W).alloc (Nat.le_refl _) (.cells (icells xs).toArray 3))
  refine (addE2 _ xs _ S _ ha.s (rdn_lit W _ xs rfl n hn) (fun a n c e => ?_) (fun i hi => hx _ (atD_mem hi)) (by omega) hS).mono fun e w' hA => ?_
  · injection e with e1; injection e1 with e1; subst e1; simp only; omega
  · obtain ⟨h1, h2, h3⟩ := ha.add hA
    exact ⟨h1, h2, fun g t cs hg hne => h3 g t cs (hg.alloc _) hne⟩
theorem add4_at {w0 W : World} {cl : Int} {fin : Bool} {sv : Value} {S : List UInt8} (h : EnW w0 cl fin sv S W) (xs : List Int) (n : Nat) (hn : xs.length = n) (hn2 : n ≤ 120) (hx : ∀ x ∈ xs, x ≤ 9223372036854775807) (hS : S.length ≤ 100000) :
    Calls Try.prog 73 #[.int .i64 4, .slice (some ⟨W.heap.size, 0, none⟩) n n, .pointer (some ⟨w0.heap.size + 1, 0, none⟩)] (W.alloc (.cells (icells xs).toArray 3)) (AddW w0 cl fin sv (S ++ flatB 4 xs) W) := by
  have hlt := h.s.lt
  have ha := h.call ((Below.refl W.heap.size W).alloc (Nat.le_refl _) (.cells (icells xs).toArray 3))
  refine (addE4 _ xs _ S _ ha.s (rdn_lit W _ xs rfl n hn) (fun a n c e => ?_) (fun i hi => hx _ (atD_mem hi)) (by omega) hS).mono fun e w' hA => ?_
  · injection e with e1; injection e1 with e1; subst e1; simp only; omega
  · obtain ⟨h1, h2, h3⟩ := ha.add hA
    exact ⟨h1, h2, fun g t cs hg hne => h3 g t cs (hg.alloc _) hne⟩
end Go.Proofs.Ytiioojlihapdaaa.E1
namespace Go.Proofs.Ytiioojlihapdaaa.E1
open Go.RowKit W10
set_option linter.unusedVariables false

theorem flat1 (k : Nat) (a : Int) : flatB k [a] = (bigR a k).1 := by simp [flatB]
theorem flat2 (k : Nat) (a b : Int) : flatB k [a, b] = (bigR a k).1 ++ (bigR b k).1 := by simp [flatB]
theorem flat3 (k : Nat) (a b c : Int) : flatB k [a, b, c] = (bigR a k).1 ++ ((bigR b k).1 ++ (bigR c k).1) := by simp [flatB]
/-- what is written behind 'i' tracks -/
def part (q cl : Int) (fin : Bool) (l : List T.Trk) (i : Nat) : List UInt8 := headE q cl fin l.length ++ (l.take i).flatMap trkE
theorem part_succ {q cl : Int} {fin : Bool} {l : List T.Trk} {i : Nat} (h : i < l.length) : part q cl fin l (i + 1) = part q cl fin l i ++ trkE (T.tr l i) := by
  unfold part
  rw [List.take_add_one, List.flatMap_append]
  simp [T.tr, List.getElem?_eq_getElem h]
theorem part_le (q cl : Int) (fin : Bool) (l : List T.Trk) (i : Nat) : (part q cl fin l i).length ≤ 14 + 20 * i := by
  have h1 := head_le q cl fin l.length
  have h2 := flat_le (l.take i)
  rw [List.length_take] at h2
  unfold part
  rw [List.length_append]
  omega
theorem part_all (q cl : Int) (fin : Bool) (l : List T.Trk) : part q cl fin l l.length = bodyE q cl fin l := by unfold part bodyE; rw [List.take_length]
theorem part_zero (q cl : Int) (fin : Bool) (l : List T.Trk) : ([80, 77, 65, 49] ++ flatB 4 [q]) ++ flatB 2 [cl, fn fin, l.length] = part q cl fin l 0 := by
  simp [part, headE, flat1, flat3, b2, b4]
theorem trk_parts (S : List UInt8) (x : T.Trk) : ((S ++ flatB 2 [x.num, x.ses]) ++ flatB 4 [x.st, x.len, x.nx]) ++ flatB 2 [x.sta, x.pk] = S ++ trkE x := by
  simp [trkE, flat2, flat3, b2, b4]
theorem le_flat (k : Nat) (xs : List Int) {S : List UInt8} {m : Nat} (h : S.length ≤ m) (n : Nat) (hn : xs.length = n) : (S ++ flatB k xs).length ≤ m + k * n := by
  have := flatB_le k xs
  rw [List.length_append]
  rw [hn] at this
  omega
set_option maxRecDepth 100000 in
set_option maxHeartbeats 4000000 in
theorem encode_true (q cl : Int) (sv : Value) (l : List T.Trk) (w : World) (hr : RdK w sv l) (hf : Few l) (hq : q ≤ 9223372036854775807) (hcl : cl ≤ 9223372036854775807) :
    Calls Try.prog 43 #[tval cl true sv, .int .i64 q] w fun e w' => e = .returned (.string (str (encE q cl true l))) ∧ Below w.heap.size w w' := by
  have HR := Lib.hid hr
  obtain ⟨a, c, b, off, rfl, hac, hcell⟩ := hr
  have HC := Lib.hid hcell; clear hcell
  have hln := hf.1
  have HF := Lib.hid hf.2
  clear hf
  have HS0 : EnW w cl true (.slice a l.length c) [80, 77, 65, 49] ((w.alloc (.cells #[.int .i64 cl, .bool true, .slice a l.length c] 24)).alloc (.cells #[.string { data := #[80, 77, 65, 49] }] 9)) :=
    ⟨(Bx.new w _ _).alloc _, by have := Bx.new (w.alloc (.cells #[.int .i64 cl, .bool true, .slice a l.length c] 24)) 9 [.string (str [80, 77, 65, 49])]; rw [World.size_alloc] at this; exact this, ((Below.refl _ _).alloc (Nat.le_refl _) _).alloc (by simp) _⟩
  have hl9 : (l.length : Int) ≤ 9223372036854775807 := by omega
  have HP0 := Lib.hid (part_zero q cl true l)
  go_enter Try.func43, Try.ntmps43
  go_upto_region 2 with (fail)
  generalize (w.alloc (.cells #[.int .i64 cl, .bool true, .slice a l.length c] 24)).alloc (.cells #[.string { data := #[80, 77, 65, 49] }] 9) = w1 at HS0 ⊢
  obtain ⟨ht0, ht1, ht2, hlt1⟩ := HS0.facts
  go_wp2_with fail
  refine (add4_at HS0 [q] 1 rfl (by omega) (by simpa using hq) (by simp)).mono ?_
  rintro e w2 ⟨rfl, HS2, _⟩
  clear ht0 ht1 ht2 hlt1 HS0
  have hL2 := le_flat 4 [q] (S := [80, 77, 65, 49]) (m := 4) (Nat.le_refl _) 1 rfl
  obtain ⟨ht0, ht1, ht2, hlt1⟩ := HS2.facts
  go_wp2_with fail
  refine (add2_at HS2 [cl, 1, l.length] 3 rfl (by omega) (by simp; omega) (by omega)).mono ?_
  rintro e w3 ⟨rfl, HS3, _⟩
  replace HS3 : EnW w cl true (.slice a l.length c) (part q cl true l 0) w3 := by rw [← HP0.out]; exact HS3
  clear ht0 ht1 ht2 hlt1 HS2 hL2 HP0
  obtain ⟨ht0, ht1, ht2, hlt1⟩ := HS3.facts
  go_wp2_with fail
  clear ht0 ht1 ht2 hlt1
  go_loopw [29] (fun vi wr => ∃ i : Nat, i ≤ l.length ∧ vi = .int .i64 i ∧ EnW w cl true (.slice a l.length c) (part q cl true l i) wr) (fun vi _ => l.length - (intOf vi).toNat)
  case atStart => exact ⟨0, by omega, rfl, HS3⟩
  case round =>
    clear HS3
    obtain ⟨i, hi, rfl, HS⟩ := hrel
    by_cases hlt : i < l.length
    · obtain ⟨ha, hrange⟩ := HC.out i hlt
      have HP := Lib.hid ((trk_parts (part q cl true l i) (T.tr l i)).trans (part_succ (q := q) (cl := cl) (fin := true) hlt).symm)
      have hpl := part_le q cl true l i
      obtain ⟨S2, hS2⟩ : ∃ S2, S2 = part q cl true l (i + 1) := ⟨_, rfl⟩
      rw [← hS2] at HP
      have HS2 := Lib.hid hS2; clear hS2
      generalize part q cl true l i = S at HP hpl HS
      have hsm := HF.out i hlt
      generalize T.tr l i = x at *
      have hix := fun w' => run_idxS Try.underlying22 Try.sizeTrack (cap := c) ha hlt _ rfl w'
      have hrg : wr.rangeAt b (off + i * 7) (tcs x) := fun j u hu => (HS.le.cell (p := ⟨b, off + i * 7 + j, none⟩) (World.block_lt_of_cell? w _ (hrange j u hu))).trans (hrange j u hu)
      clear hrange
      obtain ⟨hc0, hc1, hc2, hc3, hc4, hc5, hc6⟩ := rd7 hrg
      obtain ⟨ht0, ht1, ht2, hlt1⟩ := HS.facts
      have Ha := Lib.hid ha; clear ha hrg
      unfold smT sm at hsm
      obtain ⟨s1, s2, s3, s4, s5, s6, s7⟩ := hsm
      go_upto_region 11 with (fail)
      have HX : Bx (wr.alloc (.cells #[.int .i64 x.num, .int .i64 x.ses, .int .i64 x.st, .int .i64 x.len, .int .i64 x.nx, .int .i64 x.sta, .int .i64 x.pk] 40)) wr.heap.size 40 (tcs x) := Bx.new _ _ (tcs x)
      have HS5 := HS.call ((Below.refl wr.heap.size wr).alloc (Nat.le_refl _) (.cells #[.int .i64 x.num, .int .i64 x.ses, .int .i64 x.st, .int .i64 x.len, .int .i64 x.nx, .int .i64 x.sta, .int .i64 x.pk] 40))
      obtain ⟨g, hg⟩ : ∃ g, g = wr.heap.size := ⟨_, rfl⟩
      have hgx : g ≠ w.heap.size + 1 := by omega
      simp only [← hg]
      rw [← hg] at HX
      generalize wr.alloc (.cells #[.int .i64 x.num, .int .i64 x.ses, .int .i64 x.st, .int .i64 x.len, .int .i64 x.nx, .int .i64 x.sta, .int .i64 x.pk] 40) = w5 at HX HS5 ⊢
      clear ht0 ht1 ht2 hlt1 hc0 hc1 hc2 hc3 hc4 hc5 hc6 hix HS hg
      have hx0 := HX.cell (i := 0) rfl
      have hx1 := HX.cell (i := 1) rfl
      go_wp2_with fail
      refine (add2_at HS5 [x.num, x.ses] 2 rfl (by omega) (by simp; omega) (by omega)).mono ?_
      rintro e w6 ⟨rfl, HS6, hk6⟩
      have HX6 := hk6 _ _ _ HX hgx
      have hL6 := le_flat 2 [x.num, x.ses] hpl 2 rfl
      clear hx0 hx1 HX HS5 hk6
      have hx2 := HX6.cell (i := 2) rfl
      have hx3 := HX6.cell (i := 3) rfl
      have hx4 := HX6.cell (i := 4) rfl
      go_wp2_with fail
      refine (add4_at HS6 [x.st, x.len, x.nx] 3 rfl (by omega) (by simp; omega) (by omega)).mono ?_
      rintro e w7 ⟨rfl, HS7, hk7⟩
      have HX7 := hk7 _ _ _ HX6 hgx
      have hL7 := le_flat 4 [x.st, x.len, x.nx] hL6 3 rfl
      clear hx2 hx3 hx4 HX6 HS6 hk7
      have hx5 := HX7.cell (i := 5) rfl
      have hx6 := HX7.cell (i := 6) rfl
      go_wp2_with fail
      refine (add2_at HS7 [x.sta, x.pk] 2 rfl (by omega) (by simp; omega) (by omega)).mono ?_
      rintro e w8 ⟨rfl, HS8, hk8⟩
      replace HS8 : EnW w cl true (.slice a l.length c) S2 w8 := by rw [← HP.out]; exact HS8
      clear hx5 hx6 HX7 HS7 hk8 hL6 hL7
      go_wp2_with fail
      go_roundw
      case rel => exact ⟨i + 1, by omega, by go_num, by rw [← HS2.out]; exact HS8⟩
      case measure => simp [intOf]; omega
    · obtain rfl : i = l.length := by omega
      rw [part_all] at HS
      have hbl := body_le q cl true l
      have HE : Hid (encE q cl true l = bodyE q cl true l ++ crcB (C.crc 0 (bodyE q cl true l))) := Lib.hid rfl
      generalize bodyE q cl true l = S at HS HE hbl
      have hcr := C.crc_lt (c := 0) (by omega) S
      have hsz1 := str_size S
      have HCR : Hid (∀ W, Calls Try.prog 76 #[.string (str S)] W fun e w' => e = .returned (.int .u16 (C.crc 0 S : Nat)) ∧ Below W.heap.size W w') := Lib.hid fun W => by
        have := crc_any (str S) W (by omega)
        have e : (str S).data.toList = S := by simp [str]
        rw [e] at this
        exact this
      generalize C.crc 0 S = z at HCR HE hcr
      have HCB := Lib.hid (fun W => crcbytes_any z W hcr)
      have hsz2 := str_size (crcB z)
      have hz2 : (crcB z).length = 2 := rfl
      rw [hz2] at hsz2
      generalize crcB z = Z at *
      have hnl : ¬ 9223372036854775807 < S.length + 2 := by omega
      go_wp2_with fail
      obtain ⟨g, hg⟩ : ∃ g, g = w.heap.size + 1 := ⟨_, rfl⟩
      have hs0 := HS.s.cell (i := 0) rfl
      have hgl := HS.s.lt
      rw [← hg] at hs0 hgl
      simp only [← hg]
      have HSS : Hid (∀ W, Below wr.heap.size wr W → Below wr.heap.size wr W ∧ W.cell? ⟨g, 0, none⟩ = some (.string (str S))) := Lib.hid fun W hW => ⟨hW, (hW.cell (p := ⟨g, 0, none⟩) hgl).trans hs0⟩
      have HLE := Lib.hid HS.le
      have HG := Lib.hid hg
      clear hs0 HS hg hz2 hbl
      go_region_held3 (fun W => Below wr.heap.size wr W ∧ W.cell? ⟨g, 0, none⟩ = some (.string (str S)))
        (first | exact HSS.out _ ((Below.refl _ _).drew) | exact HSS.out _ ‹_›)
        (first
          | (go_at_call 76; refine (HCR.out _).mono ?_; rintro e w8 ⟨rfl, hb8⟩; have hb9 := (And.left ‹Below wr.heap.size wr _ ∧ _›).trans (hb8.mono (And.left ‹Below wr.heap.size wr _ ∧ _›).size))
          | (go_at_call 75; refine (HCB.out _).mono ?_; rintro e w8 ⟨rfl, hb8⟩; have hb9 := (And.left ‹Below wr.heap.size wr _ ∧ _›).trans (hb8.mono (And.left ‹Below wr.heap.size wr _ ∧ _›).size)))
      all_goals
        have hb9 := And.left ‹Below wr.heap.size wr _ ∧ _›
        go_wp2_with fail
        go_ret
        refine ⟨?_, HLE.out.trans (hb9.mono HLE.out.size)⟩
        rw [HE.out, ← str_app]
        rfl
set_option maxRecDepth 100000 in
set_option maxHeartbeats 4000000 in
theorem encode_false (q cl : Int) (sv : Value) (l : List T.Trk) (w : World) (hr : RdK w sv l) (hf : Few l) (hq : q ≤ 9223372036854775807) (hcl : cl ≤ 9223372036854775807) :
    Calls Try.prog 43 #[tval cl false sv, .int .i64 q] w fun e w' => e = .returned (.string (str (encE q cl false l))) ∧ Below w.heap.size w w' := by
  have HR := Lib.hid hr
  obtain ⟨a, c, b, off, rfl, hac, hcell⟩ := hr
  have HC := Lib.hid hcell; clear hcell
  have hln := hf.1
  have HF := Lib.hid hf.2
  clear hf
  have HS0 : EnW w cl false (.slice a l.length c) [80, 77, 65, 49] ((w.alloc (.cells #[.int .i64 cl, .bool false, .slice a l.length c] 24)).alloc (.cells #[.string { data := #[80, 77, 65, 49] }] 9)) :=
    ⟨(Bx.new w _ _).alloc _, by have := Bx.new (w.alloc (.cells #[.int .i64 cl, .bool false, .slice a l.length c] 24)) 9 [.string (str [80, 77, 65, 49])]; rw [World.size_alloc] at this; exact this, ((Below.refl _ _).alloc (Nat.le_refl _) _).alloc (by simp) _⟩
  have hl9 : (l.length : Int) ≤ 9223372036854775807 := by omega
  have HP0 := Lib.hid (part_zero q cl false l)
  go_enter Try.func43, Try.ntmps43
  go_upto_region 2 with (fail)
  generalize (w.alloc (.cells #[.int .i64 cl, .bool false, .slice a l.length c] 24)).alloc (.cells #[.string { data := #[80, 77, 65, 49] }] 9) = w1 at HS0 ⊢
  obtain ⟨ht0, ht1, ht2, hlt1⟩ := HS0.facts
  go_wp2_with fail
  refine (add4_at HS0 [q] 1 rfl (by omega) (by simpa using hq) (by simp)).mono ?_
  rintro e w2 ⟨rfl, HS2, _⟩
  clear ht0 ht1 ht2 hlt1 HS0
  have hL2 := le_flat 4 [q] (S := [80, 77, 65, 49]) (m := 4) (Nat.le_refl _) 1 rfl
  obtain ⟨ht0, ht1, ht2, hlt1⟩ := HS2.facts
  go_wp2_with fail
  refine (add2_at HS2 [cl, 0, l.length] 3 rfl (by omega) (by simp; omega) (by omega)).mono ?_
  rintro e w3 ⟨rfl, HS3, _⟩
  replace HS3 : EnW w cl false (.slice a l.length c) (part q cl false l 0) w3 := by rw [← HP0.out]; exact HS3
  clear ht0 ht1 ht2 hlt1 HS2 hL2 HP0
  obtain ⟨ht0, ht1, ht2, hlt1⟩ := HS3.facts
  go_wp2_with fail
  clear ht0 ht1 ht2 hlt1
  go_loopw [29] (fun vi wr => ∃ i : Nat, i ≤ l.length ∧ vi = .int .i64 i ∧ EnW w cl false (.slice a l.length c) (part q cl false l i) wr) (fun vi _ => l.length - (intOf vi).toNat)
  case atStart => exact ⟨0, by omega, rfl, HS3⟩
  case round =>
    clear HS3
    obtain ⟨i, hi, rfl, HS⟩ := hrel
    by_cases hlt : i < l.length
    · obtain ⟨ha, hrange⟩ := HC.out i hlt
      have HP := Lib.hid ((trk_parts (part q cl false l i) (T.tr l i)).trans (part_succ (q := q) (cl := cl) (fin := false) hlt).symm)
      have hpl := part_le q cl false l i
      obtain ⟨S2, hS2⟩ : ∃ S2, S2 = part q cl false l (i + 1) := ⟨_, rfl⟩
      rw [← hS2] at HP
      have HS2 := Lib.hid hS2; clear hS2
      generalize part q cl false l i = S at HP hpl HS
      have hsm := HF.out i hlt
      generalize T.tr l i = x at *
      have hix := fun w' => run_idxS Try.underlying22 Try.sizeTrack (cap := c) ha hlt _ rfl w'
      have hrg : wr.rangeAt b (off + i * 7) (tcs x) := fun j u hu => (HS.le.cell (p := ⟨b, off + i * 7 + j, none⟩) (World.block_lt_of_cell? w _ (hrange j u hu))).trans (hrange j u hu)
      clear hrange
      obtain ⟨hc0, hc1, hc2, hc3, hc4, hc5, hc6⟩ := rd7 hrg
      obtain ⟨ht0, ht1, ht2, hlt1⟩ := HS.facts
      have Ha := Lib.hid ha; clear ha hrg
      unfold smT sm at hsm
      obtain ⟨s1, s2, s3, s4, s5, s6, s7⟩ := hsm
      go_upto_region 11 with (fail)
      have HX : Bx (wr.alloc (.cells #[.int .i64 x.num, .int .i64 x.ses, .int .i64 x.st, .int .i64 x.len, .int .i64 x.nx, .int .i64 x.sta, .int .i64 x.pk] 40)) wr.heap.size 40 (tcs x) := Bx.new _ _ (tcs x)
      have HS5 := HS.call ((Below.refl wr.heap.size wr).alloc (Nat.le_refl _) (.cells #[.int .i64 x.num, .int .i64 x.ses, .int .i64 x.st, .int .i64 x.len, .int .i64 x.nx, .int .i64 x.sta, .int .i64 x.pk] 40))
      obtain ⟨g, hg⟩ : ∃ g, g = wr.heap.size := ⟨_, rfl⟩
      have hgx : g ≠ w.heap.size + 1 := by omega
      simp only [← hg]
      rw [← hg] at HX
      generalize wr.alloc (.cells #[.int .i64 x.num, .int .i64 x.ses, .int .i64 x.st, .int .i64 x.len, .int .i64 x.nx, .int .i64 x.sta, .int .i64 x.pk] 40) = w5 at HX HS5 ⊢
      clear ht0 ht1 ht2 hlt1 hc0 hc1 hc2 hc3 hc4 hc5 hc6 hix HS hg
      have hx0 := HX.cell (i := 0) rfl
      have hx1 := HX.cell (i := 1) rfl
      go_wp2_with fail
      refine (add2_at HS5 [x.num, x.ses] 2 rfl (by omega) (by simp; omega) (by omega)).mono ?_
      rintro e w6 ⟨rfl, HS6, hk6⟩
      have HX6 := hk6 _ _ _ HX hgx
      have hL6 := le_flat 2 [x.num, x.ses] hpl 2 rfl
      clear hx0 hx1 HX HS5 hk6
      have hx2 := HX6.cell (i := 2) rfl
      have hx3 := HX6.cell (i := 3) rfl
      have hx4 := HX6.cell (i := 4) rfl
      go_wp2_with fail
      refine (add4_at HS6 [x.st, x.len, x.nx] 3 rfl (by omega) (by simp; omega) (by omega)).mono ?_
      rintro e w7 ⟨rfl, HS7, hk7⟩
      have HX7 := hk7 _ _ _ HX6 hgx
      have hL7 := le_flat 4 [x.st, x.len, x.nx] hL6 3 rfl
      clear hx2 hx3 hx4 HX6 HS6 hk7
      have hx5 := HX7.cell (i := 5) rfl
      have hx6 := HX7.cell (i := 6) rfl
      go_wp2_with fail
      refine (add2_at HS7 [x.sta, x.pk] 2 rfl (by omega) (by simp; omega) (by omega)).mono ?_
      rintro e w8 ⟨rfl, HS8, hk8⟩
      replace HS8 : EnW w cl false (.slice a l.length c) S2 w8 := by rw [← HP.out]; exact HS8
      clear hx5 hx6 HX7 HS7 hk8 hL6 hL7
      go_wp2_with fail
      go_roundw
      case rel => exact ⟨i + 1, by omega, by go_num, by rw [← HS2.out]; exact HS8⟩
      case measure => simp [intOf]; omega
    · obtain rfl : i = l.length := by omega
      rw [part_all] at HS
      have hbl := body_le q cl false l
      have HE : Hid (encE q cl false l = bodyE q cl false l ++ crcB (C.crc 0 (bodyE q cl false l))) := Lib.hid rfl
      generalize bodyE q cl false l = S at HS HE hbl
      have hcr := C.crc_lt (c := 0) (by omega) S
      have hsz1 := str_size S
      have HCR : Hid (∀ W, Calls Try.prog 76 #[.string (str S)] W fun e w' => e = .returned (.int .u16 (C.crc 0 S : Nat)) ∧ Below W.heap.size W w') := Lib.hid fun W => by
        have := crc_any (str S) W (by omega)
        have e : (str S).data.toList = S := by simp [str]
        rw [e] at this
        exact this
      generalize C.crc 0 S = z at HCR HE hcr
      have HCB := Lib.hid (fun W => crcbytes_any z W hcr)
      have hsz2 := str_size (crcB z)
      have hz2 : (crcB z).length = 2 := rfl
      rw [hz2] at hsz2
      generalize crcB z = Z at *
      have hnl : ¬ 9223372036854775807 < S.length + 2 := by omega
      go_wp2_with fail
      obtain ⟨g, hg⟩ : ∃ g, g = w.heap.size + 1 := ⟨_, rfl⟩
      have hs0 := HS.s.cell (i := 0) rfl
      have hgl := HS.s.lt
      rw [← hg] at hs0 hgl
      simp only [← hg]
      have HSS : Hid (∀ W, Below wr.heap.size wr W → Below wr.heap.size wr W ∧ W.cell? ⟨g, 0, none⟩ = some (.string (str S))) := Lib.hid fun W hW => ⟨hW, (hW.cell (p := ⟨g, 0, none⟩) hgl).trans hs0⟩
      have HLE := Lib.hid HS.le
      have HG := Lib.hid hg
      clear hs0 HS hg hz2 hbl
      go_region_held3 (fun W => Below wr.heap.size wr W ∧ W.cell? ⟨g, 0, none⟩ = some (.string (str S)))
        (first | exact HSS.out _ ((Below.refl _ _).drew) | exact HSS.out _ ‹_›)
        (first
          | (go_at_call 76; refine (HCR.out _).mono ?_; rintro e w8 ⟨rfl, hb8⟩; have hb9 := (And.left ‹Below wr.heap.size wr _ ∧ _›).trans (hb8.mono (And.left ‹Below wr.heap.size wr _ ∧ _›).size))
          | (go_at_call 75; refine (HCB.out _).mono ?_; rintro e w8 ⟨rfl, hb8⟩; have hb9 := (And.left ‹Below wr.heap.size wr _ ∧ _›).trans (hb8.mono (And.left ‹Below wr.heap.size wr _ ∧ _›).size)))
      all_goals
        have hb9 := And.left ‹Below wr.heap.size wr _ ∧ _›
        go_wp2_with fail
        go_ret
        refine ⟨?_, HLE.out.trans (hb9.mono HLE.out.size)⟩
        rw [HE.out, ← str_app]
        rfl
theorem encode_any (q cl : Int) (fin : Bool) (sv : Value) (l : List T.Trk) (w : World) (hr : RdK w sv l) (hf : Few l) (hq : q ≤ 9223372036854775807) (hcl : cl ≤ 9223372036854775807) :
    Calls Try.prog 43 #[tval cl fin sv, .int .i64 q] w fun e w' => e = .returned (.string (str (encE q cl fin l))) ∧ Below w.heap.size w w' := by
  cases fin
  · exact encode_false q cl sv l w hr hf hq hcl
  · exact encode_true q cl sv l w hr hf hq hcl
end Go.Proofs.Ytiioojlihapdaaa.E1
