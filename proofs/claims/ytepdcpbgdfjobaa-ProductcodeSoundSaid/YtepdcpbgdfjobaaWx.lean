/- Chapter 8: what a pass over all words does; words for its walk. -/
import Derived.Test.YtepdcpbgdfjobaaWy
import Derived.Test.YtepdcpbgdfjobaaWs
import Derived.Test.YtepdcpbgdfjobaaAlg
import Derived.Test.YtepdcpbgdfjobaaDecW
namespace Go.Proofs.Ytepdcpbgdfjobaa.W8
open Go.RowKit
set_option linter.unusedVariables false

/-- one word: bytes, erased offsets, whether a byte changed -/
def passS (f : Int) (st : List UInt8 × List Int × Bool) (k : Nat) : List UInt8 × List Int × Bool :=
  let d := G.decode (takeL st.1 (wd k) f) 2 (posS (wd k) st.2.1)
  if d.2.2 = 0 ∧ insB (wd k) f d.1 = true then (putL st.1 (wd k) f d.1, rel st.2.1 (wd k), putB st.1 (wd k) f d.1 || st.2.2) else st
def passN (f : Int) (raw : List UInt8) (S : List Int) : Nat → List UInt8 × List Int × Bool
  | 0 => (raw, S, false)
  | k + 1 => passS f (passN f raw S k) k
theorem passS_length (f : Int) (st : List UInt8 × List Int × Bool) (k : Nat) : (passS f st k).1.length = st.1.length := by
  unfold passS
  dsimp only
  split
  · rw [putL_length]
  · rfl
theorem passN_length (f : Int) (raw : List UInt8) (S : List Int) : ∀ k, (passN f raw S k).1.length = raw.length
  | 0 => rfl
  | k + 1 => by rw [passN, passS_length, passN_length f raw S k]
theorem stays_ms {B b n : Nat} (hb : b < B) (S : List Int) : Stays B fun W => MS W b n S := fun _ W W' row h hg hr =>
  MS.kept h (hg.block b h.lt (fun e => by have := (hr b e.symm).1; omega))
theorem Stays.ex {α : Type} {B : Nat} {p : α → World → Prop} (h : ∀ x, Stays B (p x)) : Stays B fun W => ∃ x, p x W := fun _ W W' row ⟨x, hx⟩ hg hr => ⟨x, (h x).grown hx hg hr⟩
theorem row_ne_ms {w : World} {e g cap b n : Nat} {l : List UInt8} {S : List Int} (h : Row w e g cap l) (hm : MS w b n S) : g ≠ b := by
  rintro rfl
  obtain ⟨cur, fz, h1, _⟩ := h
  obtain ⟨D, ⟨es, clock, h2, _⟩, _⟩ := hm
  rw [h1] at h2
  cases h2

/-- what a region may do that makes a block of the type 't' and fills it: rows of other types stay -/
def RegT (B : Nat) (t : TypeId) (cs0 : List Value) (w W : World) : Prop :=
  RegN B t cs0 w W ∧ ∀ (k : Nat) (cs : Array Value) (t' : TypeId) (fz : Nat × Nat), w.heap[k]? = some (Obj.cells cs t' fz) → t' ≠ t → W.heap[k]? = w.heap[k]?
section
variable {B : Nat} {t : TypeId} {cs0 : List Value} {w W : World}
theorem RegT.refl : RegT B t cs0 w w := ⟨RegN.refl, fun _ _ _ _ _ _ => rfl⟩
theorem RegT.call (hB : B ≤ w.heap.size) (hb : Below w.heap.size w W) : RegT B t cs0 w W := ⟨RegN.call hB hb, fun k _ _ _ h _ => hb.block k (Array.getElem?_eq_some_iff.1 h).1⟩
theorem RegT.alloc (hB : B ≤ w.heap.size) (o : Obj) : RegT B t cs0 w (w.alloc o) := RegT.call hB ((Below.refl _ _).alloc (Nat.le_refl _) o)
theorem RegT.store {g : Nat} (hg : B ≤ g) (ho : ∃ cs : List Value, cs.length = cs0.length ∧ Bx w g t cs) : RegT B t cs0 w (setN w g 0 cs0) := by
  refine ⟨RegN.store hg ho, fun k cs t' fz h hne => ?_⟩
  obtain ⟨cs', _, hb⟩ := ho
  refine (KeptR.setN cs0 0 (KeptR.refl (some g) w)).2 k (Array.getElem?_eq_some_iff.1 h).1 (fun e => ?_)
  obtain rfl := Option.some.inj e
  unfold Bx at hb
  rw [hb] at h
  simp only [Option.some.injEq, Obj.cells.injEq] at h
  exact hne h.2.1.symm
theorem RegT.own {b e sz n : Nat} {v : Value} {xs : List Value} (h : RegT B t cs0 w W) (ho : w.ownsRow b e sz v n xs) (hne : e ≠ t) : W.ownsRow b e sz v n xs := by
  refine ⟨ho.1, ?_⟩
  rcases ho.2 with h2 | ⟨g, cap, cur, h1, h2, h3, h4⟩
  · exact .inl h2
  · exact .inr ⟨g, cap, cur, h1, h2, (h.2 _ _ _ _ h3 hne).trans h3, h4⟩
end
section
variable {P : Program} {Q : Exit → Act → World → Prop}
/-- a step whose value is not known ahead -/
theorem stepD_any {R : World → World → Prop} {V : Nat → Value → (Nat → Value) → World → Prop} {d : Nat → Value} {i : Nat} {o : Oper} {a : Act} {w : World} (h : ∀ K : Act → World → Prop, (∀ v w', R w w' → V i (kept o.dst v) d w' → K (a.put o.dst v) w') → o.wp P a w K Q) :
    o.wp P a w (fun a' w' => ∃ v, a' = a.put o.dst v ∧ R w w' ∧ V i (kept o.dst v) d w') Q := h _ fun v w' hr hv => ⟨v, rfl, hr, hv⟩
end
/-- what is known of the boxes of a pass -/
structure PX (W : World) (b3 b4 b5 b8 g cap mb : Nat) (f : Int) (c : Bool) : Prop where
  x3 : Bx W b3 43 [.slice (some ⟨g, 0, none⟩) 2352 cap]
  x4 : Bx W b4 3 [.int .i64 f]
  x5 : Bx W b5 44 [.map (some mb)]
  x8 : Bx W b8 4 [.bool c]
theorem PX.stays (B b3 b4 b5 b8 g cap mb : Nat) (f : Int) (c : Bool) : Stays B fun W => PX W b3 b4 b5 b8 g cap mb f c := fun _ W W' row h hg hr =>
  ⟨(stays_bx B _ _ _).grown h.x3 hg hr, (stays_bx B _ _ _).grown h.x4 hg hr, (stays_bx B _ _ _).grown h.x5 hg hr, (stays_bx B _ _ _).grown h.x8 hg hr⟩
theorem PX.keep {W W' : World} {b3 b4 b5 b8 g cap mb : Nat} {f : Int} {c : Bool} (h : PX W b3 b4 b5 b8 g cap mb f c) {B : Nat} (hb : Below B W W') (hB : W.heap.size ≤ B) : PX W' b3 b4 b5 b8 g cap mb f c :=
  ⟨h.x3.keepB hb (Nat.lt_of_lt_of_le h.x3.lt hB), h.x4.keepB hb (Nat.lt_of_lt_of_le h.x4.lt hB), h.x5.keepB hb (Nat.lt_of_lt_of_le h.x5.lt hB), h.x8.keepB hb (Nat.lt_of_lt_of_le h.x8.lt hB)⟩
theorem PX.grown {W W' : World} {b3 b4 b5 b8 g cap mb r : Nat} {f : Int} {c : Bool} (h : PX W b3 b4 b5 b8 g cap mb f c) (hg : W.grownBy W' (some r)) (hr : r < b3 ∧ b3 < b4 ∧ b4 < b5 ∧ b5 < b8) : PX W' b3 b4 b5 b8 g cap mb f c :=
  ⟨(hg.block _ h.x3.lt (fun e => by cases e; omega)).trans h.x3, (hg.block _ h.x4.lt (fun e => by cases e; omega)).trans h.x4, (hg.block _ h.x5.lt (fun e => by cases e; omega)).trans h.x5, (hg.block _ h.x8.lt (fun e => by cases e; omega)).trans h.x8⟩
/-- what a pass leaves -/
def PassP (e0 g cap mb n0 B0 : Nat) (f : Int) (raw : List UInt8) (S : List Int) (w : World) (e : Ending) (w' : World) : Prop :=
  e = .returned (.tuple #[.bool (passN f raw S 138).2.2, .bool (decide ((passN f raw S 138).2.1.length < S.length))]) ∧ Row w' e0 g cap (passN f raw S 138).1 ∧ MS w' mb n0 (passN f raw S 138).2.1 ∧ Below B0 w w'
end Go.Proofs.Ytepdcpbgdfjobaa.W8
