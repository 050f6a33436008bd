/- Chapter 12: Kind and Sectors walked; the lost offsets of the sectors. -/
import Derived.Test.YtpncjadhpnapnaaFh
import Derived.Test.YtpncjadhpnapnaaNc
namespace Go.Proofs.Ytpncjadhpnapnaa.D12
open Go.RowKit Go.Maps C9
open D13 (RdI ixI)
set_option linter.unusedVariables false

set_option maxRecDepth 100000 in
theorem kind12 {w : World} {g : Nat} {M : Med} {X R : Nat → Prop} (h : MedW w g M X R) :
    Calls Try.prog 53 #[.pointer (some ⟨g, 0, none⟩)] w fun e w' => e = .returned (.int .i64 M.kind) ∧ w' = w := by
  obtain ⟨L, h⟩ := h
  obtain ⟨c0, c1, c2, c3, c4⟩ := h.cells
  clear h
  go_enter Try.func53, Try.ntmps53
  go_wp2_with fail
  go_ret
  exact ⟨rfl, rfl⟩
set_option maxRecDepth 100000 in
theorem sectors12 {w : World} {g : Nat} {M : Med} {X R : Nat → Prop} (h : MedW w g M X R) (hn : M.n ≤ 4096) :
    Calls Try.prog 54 #[.pointer (some ⟨g, 0, none⟩)] w fun e w' => e = .returned (.int .i64 M.n) ∧ w' = w := by
  obtain ⟨L, h⟩ := h
  obtain ⟨c0, c1, c2, c3, c4⟩ := h.cells
  rw [h.n] at c2
  clear h
  generalize M.n = n at *
  go_enter Try.func54, Try.ntmps54
  go_wp2_with fail
  go_ret
  exact ⟨rfl, rfl⟩
/-- the lost offsets of the sectors among the first 'k' lost bytes: those of sector 'i' -/
def part (l : List Int) (i : Nat) : List Int := (l.filter fun x => decide (x / 2352 = (i : Int))).map (· % 2352)
theorem part_nil (i : Nat) : part [] i = [] := rfl
theorem part_snoc (l : List Int) (x : Int) (i : Nat) : part (l ++ [x]) i = if x / 2352 = (i : Int) then part l i ++ [x % 2352] else part l i := by
  unfold part
  rw [List.filter_append, List.map_append]
  by_cases h : x / 2352 = (i : Int) <;> simp [h]
theorem part_lost (n : Nat) (scr : List Sc) (i : Nat) : part (lostL n scr) i = lostS n scr i := by
  have hs := lostN_sorted scr (98 * n)
  have hb := lostN_bd scr (98 * n)
  refine sorted_eq ?_ ?_ fun z => ?_
  · unfold part
    rw [List.pairwise_map]
    refine (List.Pairwise.filter _ hs).imp_of_mem fun {a b} ha hb' h => ?_
    rw [List.mem_filter] at ha hb'
    have h1 := of_decide_eq_true ha.2
    have h2 := of_decide_eq_true hb'.2
    omega
  · unfold lostS
    rw [List.pairwise_map]
    exact (List.Pairwise.filter _ List.pairwise_lt_range).imp fun h => by simpa using h
  · unfold part lostS lostP
    simp only [List.mem_map, List.mem_filter, List.mem_range, decide_eq_true_eq]
    constructor
    · rintro ⟨y, ⟨h1, h2⟩, rfl⟩
      have h3 := hb y h1
      refine ⟨(y % 2352).toNat, ⟨by omega, ?_⟩, by show ((y % 2352).toNat : Int) = _; omega⟩
      have e : ((2352 * i + (y % 2352).toNat : Nat) : Int) = y := by omega
      rw [e]; exact h1
    · rintro ⟨k, ⟨h1, h2⟩, rfl⟩
      refine ⟨((2352 * i + k : Nat) : Int), ⟨h2, by omega⟩, ?_⟩
      show _ = (k : Int)
      omega
end Go.Proofs.Ytpncjadhpnapnaa.D12
