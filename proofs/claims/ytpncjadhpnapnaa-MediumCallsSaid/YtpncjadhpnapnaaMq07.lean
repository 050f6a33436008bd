/- Chapter 12: the erased offsets of a sector: the library's functions at ints, and the keys of a map of marks. -/
import Derived.Test.YtpncjadhpnapnaaMq06
import Derived.Test.YtpncjadhpnapnaaShelf
import Derived.Test.YtpncjadhpnapnaaShelf2
import Derived.Sort.OwnSortedInts
namespace Go.Proofs.Ytpncjadhpnapnaa.D12
open Go.RowKit Go.Maps C9 Go.Sort Go.Shelf
open D13 (RdI ixI is)
set_option linter.unusedVariables false

theorem sort12 (v : Value) (M : List Int) (w : World) (b n : Nat) (ho : w.ownsRow b 3 1 v n (is M)) (hn : M.length = n) (hl : n ≤ 1000000) :
    Calls Try.prog 69 #[v] w fun e w' => e = .returned (.tuple #[]) ∧ w'.ownsRow b 3 1 v n (is (M.mergeSort fun x y => decide (x ≤ y))) ∧ w.grownBy w' v.ownBlock := by
  subst hn
  rcases ho.2 with ⟨rfl, h0⟩ | ⟨g, cap, cur, rfl, hg, hb, h1, h2, h3, h4⟩
  · have e : M = [] := List.length_eq_zero_iff.1 h0
    subst e
    refine (Try.slices_Sort_int_none none 0 w).mono ?_
    rintro e w' ⟨rfl, rfl⟩
    exact ⟨rfl, by simpa using ho, rfl, rfl, rfl, Nat.le_refl _, fun _ _ _ => rfl⟩
  · have ht : cur.toList.take M.length = M.map (Value.int .i64) := by rw [Nat.mul_one] at h4; exact h4
    refine (Try.slices_Sort_int g 0 cap M w (holds_of_blockI hb ht) (Array.getElem?_eq_some_iff.1 hb).1 (by omega)).mono ?_
    rintro e w' ⟨rfl, k, os, rfl⟩
    exact ⟨rfl, ownsRow_sortedI (ss := M) (List.length_mergeSort M) hg hb h1 h2 h3, grownBy_sortedI _⟩
theorem grow_nil12 (w : World) : grow w #[] = w := by cases w; simp [grow]
theorem compact_len (M : List Int) : (Lib.compact M).length ≤ M.length := by
  unfold Lib.compact Lib.compactUpTo
  rw [List.length_map]
  exact Nat.le_trans (List.length_filter_le _ _) (by simp)
theorem compact12 (v : Value) (M : List Int) (w : World) (b n : Nat) (ho : w.ownsRow b 3 1 v n (is M)) (hn : M.length = n) (hl : n ≤ 1000000) :
    Calls Try.prog 70 #[v] w fun e w' => ∃ v', e = .returned v' ∧ w'.ownsRow b 3 1 v' (Lib.compact M).length (is (Lib.compact M)) ∧ w.grownBy w' v.ownBlock := by
  subst hn
  rcases ho.2 with ⟨rfl, h0⟩ | ⟨g, cap, cur, rfl, hg, hb, h1, h2, h3, h4⟩
  · have e : M = [] := List.length_eq_zero_iff.1 h0
    subst e
    refine (Try.slices_Compact_int_empty none 0 w).mono ?_
    rintro e w' ⟨rfl, rfl⟩
    exact ⟨_, rfl, ho, World.grownBy.refl _ _⟩
  · have ht : cur.toList.take M.length = M.map (Value.int .i64) := by rw [Nat.mul_one] at h4; exact h4
    refine (Try.slices_Compact_int g 0 cap M w (holds_of_blockI hb ht) (by omega) h1).mono ?_
    rintro e w' ⟨rfl, q, rfl⟩
    have hc := compact_len M
    have e1 : ∀ d : Array Int, putRow (Value.int .i64) (Sort.ahead w q) g 0 d = grow (putRow (Value.int .i64) (Sort.ahead w q) g 0 d) #[] := fun d => (grow_nil12 _).symm
    rw [e1]
    refine ⟨_, rfl, ?_, grownBy_sortedI _⟩
    generalize hts : Lib.compact M ++ List.replicate (M.length - (Lib.compact M).length) 0 = ts
    have hl2 : ts.length = M.length := by rw [← hts]; simp; omega
    have h5 := ownsRow_sortedI (n := q) (os := #[]) (ss := M) (ts := ts) hl2 hg hb h1 h2 h3
    rcases h5.2 with ⟨h6, _⟩ | ⟨g2, cap2, cur2, hv, hg2, hb2, k1, k2, k3, k4⟩
    · cases h6
    · simp only [Value.slice.injEq, Option.some.injEq, Addr.mk.injEq] at hv
      obtain ⟨⟨rfl, _⟩, _, rfl⟩ := hv
      refine ⟨by simp [is], .inr ⟨g, cap, cur2, rfl, hg, hb2, Nat.le_trans hc h1, h2, k3, ?_⟩⟩
      rw [Nat.mul_one] at k4 ⊢
      have : cur2.toList.take (Lib.compact M).length = (cur2.toList.take M.length).take (Lib.compact M).length := by rw [List.take_take, Nat.min_eq_left hc]
      rw [this, k4, ← hts, List.map_append, List.take_left' (by simp)]
      rfl
/-- of a list in order: each number once -/
theorem compact_spec {M : List Int} (h : M.Pairwise (· ≤ ·)) : (Lib.compact M).Pairwise (· < ·) ∧ ∀ x, x ∈ Lib.compact M ↔ x ∈ M := by
  have hle : ∀ i j, i ≤ j → j < M.length → M.toArray[i]! ≤ M.toArray[j]! := fun i j hij hj => by
    have hi : i < M.length := by omega
    rw [getElem!_pos _ _ (by simpa using hi), getElem!_pos _ _ (by simpa using hj)]
    simp only [List.getElem_toArray]
    by_cases e : i = j
    · subst e; exact Int.le_refl _
    · exact List.pairwise_iff_getElem.1 h i j hi hj (by omega)
  have hk : ∀ j, Lib.keeps M.toArray j = true → j = 0 ∨ M.toArray[j]! ≠ M.toArray[j - 1]! := fun j hj => by
    unfold Lib.keeps at hj
    exact of_decide_eq_true hj
  constructor
  · unfold Lib.compact Lib.compactUpTo
    rw [List.pairwise_map, List.pairwise_filter]
    refine List.pairwise_lt_range.imp_of_mem fun {a b} ha hb hab _ kb => ?_
    have hb' := List.mem_range.1 hb
    have h1 := hle a (b - 1) (by omega) (by omega)
    have h2 := hle (b - 1) b (by omega) hb'
    rcases hk b kb with h3 | h3
    · omega
    · omega
  · intro x
    unfold Lib.compact Lib.compactUpTo
    simp only [List.mem_map, List.mem_filter, List.mem_range]
    constructor
    · rintro ⟨j, ⟨hj, _⟩, rfl⟩
      rw [getElem!_pos _ _ (by simpa using hj)]
      simp
    · intro hx
      obtain ⟨j, hj, rfl⟩ := List.getElem_of_mem hx
      have key : ∀ j, j < M.length → ∃ i, (i < M.length ∧ Lib.keeps M.toArray i = true) ∧ M.toArray[i]! = M.toArray[j]! := by
        intro j
        induction j with
        | zero => exact fun hj => ⟨0, ⟨hj, Lib.keeps_lt_one _ 0 (by omega)⟩, rfl⟩
        | succ j ih =>
          intro hj
          by_cases e : M.toArray[j + 1]! = M.toArray[j]!
          · obtain ⟨i, h1, h2⟩ := ih (by omega)
            exact ⟨i, h1, h2.trans e.symm⟩
          · exact ⟨j + 1, ⟨hj, Lib.keeps_pos e⟩, rfl⟩
      obtain ⟨i, h1, h2⟩ := key j hj
      refine ⟨i, h1, h2.trans ?_⟩
      rw [getElem!_pos _ _ (by simpa using hj)]
      simp
theorem Try.keys12 (mb : Option Nat) (W : World) : Calls Try.prog 68 #[.map mb] W fun e w' => e = .returned (.func (.func 77) #[] #[.pointer (some ⟨W.heap.size, 0, none⟩)]) ∧ w' = W.alloc (.cells #[.map mb] 98) :=
  (callsIn_wide (n := 5)).1 (AnyZI.keys_in Try.keysA Fence.wide 5 trivial rfl mb W)
/-- a map's keys, collected -/
def ColP (f : Nat → Bool) (w : World) (e : Ending) (w' : World) : Prop := ∃ v ss, e = .returned v ∧ (∀ x : Int, x ∈ ss ↔ 0 ≤ x ∧ f x.toNat = true) ∧ ss.length ≤ 2352 ∧ w'.ownsRow w.heap.size 3 1 v ss.length (is ss) ∧ Below w.heap.size w w'
theorem collect12 {W : World} {g : Nat} {mb : Option Nat} {f : Nat → Bool} (hb : Bx W g 98 [.map mb]) (hm : ErM W mb f) (hfb : ∀ k, f k = true → k < 2352) :
    Calls Try.prog 67 #[.func (.func 77) #[] #[.pointer (some ⟨g, 0, none⟩)]] W (ColP f W) := by
  cases mb with
  | none =>
    have hseq : SeqGives Fence.wide 3 Try.prog 77 #[.pointer (some ⟨g, 0, none⟩)] encZ (fun ss => ss = []) 0 W :=
      AnyZI.keys_gives_nil (ρ := Try.keysA_ren) { Try.keysA with } Fence.wide 3 trivial rfl g W hb.lt (hb.cell (i := 0) rfl)
    have cS := AnyZI.collect_in Try.collectA Fence.wide 5 trivial trivial rfl (by omega) 77 #[.pointer (some ⟨g, 0, none⟩)] trivial (enters_of Try.func77 (by kernel_rfl) rfl) _ _ (by unfold maxLen; omega) (by omega) W hseq
    change CallsIn _ _ Try.prog 67 _ _ _ at cS
    refine ((callsIn_wide (n := 5)).1 cS).mono ?_
    rintro e w' ⟨v, ss, rfl, rfl, hrow, _, hb⟩
    refine ⟨v, [], rfl, fun x => ?_, by simp, hrow, hb⟩
    have := hm x.toNat
    simp [this]
  | some b =>
    obtain ⟨D, hown, hf⟩ := hm
    have hsz := hown.size_le
    have hseq : SeqGives Fence.wide 3 Try.prog 77 #[.pointer (some ⟨g, 0, none⟩)] encZ (fun ss => ss.Perm (intKeys D)) (Maps.size D) W :=
      AnyZI.keys_gives (ρ := Try.keysA_ren) { Try.keysA with } Fence.wide 3 trivial rfl (by omega) g b 2352 D W hb.lt (hb.cell (i := 0) rfl) hown
    have cS := AnyZI.collect_in Try.collectA Fence.wide 5 trivial trivial rfl (by omega) 77 #[.pointer (some ⟨g, 0, none⟩)] trivial (enters_of Try.func77 (by kernel_rfl) rfl) _ _ (by unfold maxLen; omega) (by omega) W hseq
    change CallsIn _ _ Try.prog 67 _ _ _ at cS
    refine ((callsIn_wide (n := 5)).1 cS).mono ?_
    rintro e w' ⟨v, ss, rfl, hS, hrow, _, hb⟩
    have hkl : (intKeys D).length ≤ 2352 := by
      obtain ⟨es, hD, _, _⟩ := hown.entries lawI12
      subst hD
      have e : (intKeys (DataW.map es)).length = Maps.size (DataW.map es) := by simp [intKeys, Maps.size]
      omega
    refine ⟨v, ss, rfl, fun x => ?_, by rw [hS.length_eq]; exact hkl, hrow, hb⟩
    rw [hS.mem_iff]
    have h1 : x ∈ intKeys D ↔ Maps.has D (.int .i64 x) = true := by
      have hbd : ∀ x : Int, Maps.has D (.int .i64 x) = true → 0 ≤ x ∧ x < 2352 := fun x hx => by
        rw [hf x, Bool.and_eq_true, decide_eq_true_eq] at hx
        have := hfb _ hx.2
        omega
      have hp := Mp.perm_keysI hown (K := Mp.keysB D 2352) ((Mp.keysB_sorted D 2352).imp fun h e => by omega) (Mp.mem_keysB hbd)
      rw [← hp.mem_iff, Mp.mem_keysB hbd]
    rw [h1, hf x]
    simp
end Go.Proofs.Ytpncjadhpnapnaa.D12
