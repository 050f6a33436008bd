/- Chapter 13: Primary, Replace walked; what Replace may do. -/
import Derived.Test.YtjnedcncfdpjoaaE3
namespace Go.Proofs.Ytjnedcncfdpjoaa.D13
open Go.RowKit Go.Maps
set_option linter.unusedVariables false

theorem block13 {w : World} {b e sz n g t : Nat} {v : Value} {xs cs : List Value} (h : w.ownsRow b e sz v n xs) (hb : Bx w g t cs) (hne : t ≠ e) : v.ownBlock ≠ some g := by
  intro hk
  rcases h.2 with ⟨rfl, _⟩ | ⟨g', cap, cur, rfl, _, hg, _⟩
  · simp [Value.ownBlock] at hk
  have e1 : g' = g := by simpa [Value.ownBlock] using hk
  subst e1
  unfold Bx at hb
  rw [hg] at hb
  simp only [Option.some.injEq, Obj.cells.injEq] at hb
  exact hne hb.2.1.symm
theorem map13 {w : World} {b e sz n g m : Nat} {v : Value} {xs : List Value} {f : Int → Option Int} (h : w.ownsRow b e sz v n xs) (hm : MapO w g m f) : v.ownBlock ≠ some g := by
  intro hk
  rcases h.2 with ⟨rfl, _⟩ | ⟨g', cap, cur, rfl, _, hg, _⟩
  · simp [Value.ownBlock] at hk
  have e1 : g' = g := by simpa [Value.ownBlock] using hk
  subst e1
  obtain ⟨D, ⟨es, clock, hb, _⟩, _⟩ := hm
  rw [hg] at hb
  cases hb
/-- nothing but the blocks 'g' and 'gm' turns -/
structure Turn (g gm : Nat) (w w' : World) : Prop where
  os : w'.os = w.os
  tape : w'.tape = w.tape
  output : w'.output = w.output
  size : w.heap.size ≤ w'.heap.size
  block : ∀ k, k < w.heap.size → k ≠ g → k ≠ gm → w'.heap[k]? = w.heap[k]?
section
variable {g gm : Nat} {w w' w'' : World}
theorem Turn.of (h : Below w.heap.size w w') : Turn g gm w w' := ⟨h.os, h.tape, h.output, h.size, fun k hk _ _ => h.block k hk⟩
theorem Turn.refl : Turn g gm w w := .of (Below.refl _ _)
theorem Turn.trans (h : Turn g gm w w') (k : Turn g gm w' w'') : Turn g gm w w'' :=
  ⟨k.os.trans h.os, k.tape.trans h.tape, k.output.trans h.output, Nat.le_trans h.size k.size, fun i hi h1 h2 => (k.block i (Nat.lt_of_lt_of_le hi h.size) h1 h2).trans (h.block i hi h1 h2)⟩
theorem Turn.below (h : Turn g gm w w') {B : Nat} (hg : B ≤ g) (hm : B ≤ gm) (hB : B ≤ w.heap.size) : Below B w w' := ⟨h.os, h.tape, h.output, h.size, fun k hk => h.block k (by omega) (by omega) (by omega)⟩
theorem Turn.own (h : Turn g gm w w') {b e sz n : Nat} {v : Value} {xs : List Value} (ho : w.ownsRow b e sz v n xs) (h1 : v.ownBlock ≠ some g) (h2 : v.ownBlock ≠ some gm) : w'.ownsRow b e sz v n xs := by
  refine ⟨ho.1, ?_⟩
  rcases ho.2 with h0 | ⟨k, cap, cur, rfl, hb, hh, rest⟩
  · exact .inl h0
  · exact .inr ⟨k, cap, cur, rfl, hb, (h.block k (Array.getElem?_eq_some_iff.1 hh).1 (fun e => h1 (by rw [e]; rfl)) (fun e => h2 (by rw [e]; rfl))).trans hh, rest⟩
theorem Turn.mapO (h : Turn g gm w w') {b n : Nat} {f : Int → Option Int} (hm : MapO w b n f) (h1 : b ≠ g) (h2 : b ≠ gm) : MapO w' b n f := hm.kept (h.block b hm.lt h1 h2)
end
/-- the table behind a replacement -/
def Tab.repl (T : Tab) (b : Int) : Tab := { T with used := T.used + 1, mv := fun x => if x = b then some T.used else T.mv x }
theorem Tab.Ok.repl {T : Tab} (h : T.Ok) {b : Int} (h0 : 0 ≤ b) (h1 : b < T.blocks) (hu : T.used < T.spares) : (T.repl b).Ok where
  b1 := h.b1
  b2 := h.b2
  sp := h.sp
  us := by show T.used + 1 ≤ T.spares; omega
  pl := h.pl
  ps := h.ps
  pr := h.pr
  mr := fun x s hs => by
    change (if x = b then some T.used else T.mv x) = some s at hs
    show 0 ≤ x ∧ x < (T.blocks : Int) ∧ s < T.used + 1
    split at hs
    · next e => obtain rfl := Option.some.inj hs; omega
    · have := h.mr x s hs; omega
  mi := fun x y s hx hy => by
    change (if x = b then some T.used else T.mv x) = some s at hx
    change (if y = b then some T.used else T.mv y) = some s at hy
    split at hx <;> split at hy
    · omega
    · obtain rfl := Option.some.inj hx
      have := h.mr y _ hy; omega
    · obtain rfl := Option.some.inj hy
      have := h.mr x _ hx; omega
    · exact h.mi x y s hx hy
theorem Tab.repl_phys (T : Tab) (b x : Int) : (T.repl b).phys x = if x = b then (T.first : Int) + T.used else T.phys x := by
  unfold Tab.phys Tab.repl
  by_cases e : x = b
  · rw [if_pos e]; simp only [if_pos e]; rfl
  · rw [if_neg e]; simp only [if_neg e]; rfl
theorem clone13 (v : Value) (l : List Int) (w : World) (hv : RdI w v l) (hl : l.length ≤ 100000) :
    Calls Try.prog 28 #[v] w fun e w' => ∃ v', e = .returned v' ∧ w'.ownsRow w.heap.size 3 1 v' l.length (is l) ∧ Below w.heap.size w w' := by
  obtain ⟨h0, ⟨a, cap, b, off, rfl, hcap, hcell⟩, hrng⟩ := hv
  by_cases hn : l = []
  · subst hn
    cases a with
    | none =>
      refine (Try.slices_Clone_int_nil _ cap w).mono ?_
      rintro e w' ⟨rfl, rfl⟩
      exact ⟨_, rfl, ownsRow_nil _ _ _, Below.refl _ _⟩
    | some a =>
      refine (Try.slices_Clone_int_zero a cap w).mono ?_
      rintro e w' ⟨v', rfl, ho, _, hb⟩
      exact ⟨_, rfl, ho, hb⟩
  · have hpos : 0 < l.length := List.length_pos_iff.2 hn
    obtain ⟨rfl, _⟩ := hcell 0 hpos
    refine (Try.slices_Clone_int b off l.length cap l w (Nat.le_refl _) (by omega) (fun j hj => (hcell j hj).2)).mono ?_
    rintro e w' ⟨v', rfl, ho, _, hb⟩
    refine ⟨_, rfl, ?_, hb⟩
    have e : (l.take l.length).map (Value.int .i64) = is l := by rw [List.take_length]; rfl
    rw [← e]; exact ho
theorem bsearch13 (v : Value) (l : List Int) (x : Int) (w : World) (hv : RdI w v l) (hl : l.length ≤ 100000) (hs : l.Pairwise (· < ·)) :
    Calls Try.prog 32 #[v, .int .i64 x] w (RetQ (.tuple #[.int .i64 (cnt l x), .bool (l.contains x)]) w) := by
  obtain ⟨h0, ⟨a, cap, b, off, rfl, hcap, hcell⟩, hrng⟩ := hv
  by_cases hn : l = []
  · subst hn
    refine (Try.slices_BinarySearch_int_empty a cap x w).mono ?_
    rintro e w' ⟨rfl, rfl⟩
    exact ⟨rfl, 0, rfl⟩
  · have hpos : 0 < l.length := List.length_pos_iff.2 hn
    obtain ⟨rfl, _⟩ := hcell 0 hpos
    refine (Try.slices_BinarySearch_int b off l.length cap l x w (Nat.le_refl _) (by omega) (fun j hj => (hcell j hj).2) (by rw [List.take_length]; exact hs.imp Int.le_of_lt)).mono ?_
    rintro e w' ⟨rfl, q, rfl⟩
    refine ⟨?_, q, rfl⟩
    rw [List.take_length, List.countP_eq_length_filter]
    rfl
set_option maxRecDepth 100000 in
set_option maxHeartbeats 1000000 in
theorem primary_any {w : World} {g gm : Nat} {vp : Value} {T : Tab} (h : TabW w g gm vp T) :
    Calls Try.prog 27 #[.pointer (some ⟨g, 0, none⟩)] w fun e w' => ∃ v', e = .returned v' ∧ w'.ownsRow w.heap.size 3 1 v' T.prim.length (is T.prim) ∧ Below w.heap.size w w' := by
  obtain ⟨c0, c1, c2, c3, c4⟩ := h.cells
  have HC := Lib.hid (clone13 vp T.prim w h.rd (by have := h.ok.pl; omega))
  obtain ⟨a, c, hvp⟩ := RdI.formD h.rd
  subst hvp
  clear h
  go_enter Try.func27, Try.ntmps27
  go_wp2_with fail
  refine HC.out.mono ?_
  rintro e w' ⟨v', rfl, ho, hb⟩
  go_wp2_with fail
  go_ret
  exact ⟨_, rfl, ho, hb⟩
set_option maxRecDepth 100000 in
set_option maxHeartbeats 1000000 in
theorem blocks_any {w : World} {g gm : Nat} {vp : Value} {T : Tab} (h : TabW w g gm vp T) :
    Calls Try.prog 24 #[.pointer (some ⟨g, 0, none⟩)] w fun e w' => e = .returned (.int .i64 T.blocks) ∧ w = w' := by
  obtain ⟨c0, c1, c2, c3, c4⟩ := h.cells
  clear h
  go_enter Try.func24, Try.ntmps24
  go_wp2_with fail
  go_ret
  exact ⟨rfl, rfl⟩
end Go.Proofs.Ytjnedcncfdpjoaa.D13
