/- Chapter 13: a table behind a list of replacements. -/
import Derived.Test.YtjnedcncfdpjoaaEa
import Derived.Test.YtjnedcncfdpjoaaEc
namespace Go.Proofs.Ytjnedcncfdpjoaa.D13
open Go.RowKit Go.Maps
set_option linter.unusedVariables false

/-- the table behind the replacements of a list of blocks -/
def reps (T : Tab) (l : List Int) : Tab := l.foldl (fun T b => (replR T b).2) T
theorem reps_take (T : Tab) (l : List Int) (k : Nat) (h : k < l.length) : reps T (l.take (k + 1)) = (replR (reps T (l.take k)) (ixI l k)).2 := by
  unfold reps
  rw [List.take_succ_eq_append_getElem h, List.foldl_append, ixI_get h]
  rfl
theorem replR_same (T : Tab) (b : Int) : (replR T b).2.blocks = T.blocks ∧ (replR T b).2.spares = T.spares ∧ (replR T b).2.prim = T.prim := by
  unfold replR
  split
  · split <;> exact ⟨rfl, rfl, rfl⟩
  · exact ⟨rfl, rfl, rfl⟩
theorem reps_same (l : List Int) : ∀ T : Tab, (reps T l).blocks = T.blocks ∧ (reps T l).spares = T.spares ∧ (reps T l).prim = T.prim := by
  induction l with
  | nil => exact fun T => ⟨rfl, rfl, rfl⟩
  | cons b r ih =>
    intro T
    have h1 := ih (replR T b).2
    have h2 := replR_same T b
    exact ⟨h1.1.trans h2.1, h1.2.1.trans h2.2.1, h1.2.2.trans h2.2.2⟩
/-- what New and the replacements leave -/
structure Left (b s : Int) (l : List Int) (T : Tab) : Prop where
  hb : (T.blocks : Int) = b
  hs : (T.spares : Int) = s
  hp : T.prim = l
theorem Left.zero {b s : Int} {l : List Int} (h : shp b s l) : Left b s l (tab0 b s l) := ⟨by have := h.1; show ((b.toNat : Nat) : Int) = b; omega, by have := h.1; show ((s.toNat : Nat) : Int) = s; omega, rfl⟩
theorem Left.reps {b s : Int} {l : List Int} {T : Tab} (h : Left b s l T) (r : List Int) : Left b s l (reps T r) := by
  obtain ⟨h1, h2, h3⟩ := reps_same r T
  exact ⟨by rw [h1]; exact h.hb, by rw [h2]; exact h.hs, by rw [h3]; exact h.hp⟩
theorem uN_zero (N : Nat) : uN N (fun _ => 0) = List.replicate N 0 := by
  unfold uN
  rw [List.eq_replicate_iff]
  simp
theorem met_zero (T : Tab) (x : Nat) : met T 0 x = 0 := by unfold met; simp
theorem met_range (T : Tab) (k x : Nat) : 0 ≤ met T k x ∧ met T k x ≤ 1 := by unfold met; split <;> omega
theorem met2_range (T : Tab) (m x : Nat) : 0 ≤ met2 T m x ∧ met2 T m x ≤ 2 := by
  unfold met2
  have := met_range T T.blocks x
  split <;> omega
theorem Tab.Ok.met2_done {T : Tab} (h : T.Ok) (x : Nat) : met2 T T.bad.length x = if x < T.first + T.used then 1 else 0 := by
  rw [met2_end]
  by_cases hx : x < T.first + T.used
  · rw [if_pos hx, if_pos (.inl hx)]
  · have hb : T.blk (x : Int) = none := Tab.blk_none fun b hb e => by
      have := h.phys_range (b := b) (by omega) (by omega)
      omega
    rw [if_neg hx, if_neg]
    rintro (h1 | h1)
    · exact hx h1
    · rw [hb] at h1; cases h1
theorem blkR_phys {T : Tab} (h : T.Ok) {b p : Nat} (hb : b < T.blocks) (hp : T.phys b = p) : blkR T p = ((b : Int), true) := by
  unfold blkR
  rw [← hp, h.blk_some hb]
end Go.Proofs.Ytjnedcncfdpjoaa.D13
