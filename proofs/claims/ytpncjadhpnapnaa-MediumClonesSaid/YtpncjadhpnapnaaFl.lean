/- Chapter 12: the map of the lost offsets: put together as groups, read for ever after. -/
import Derived.Test.YtpncjadhpnapnaaFk
import Derived.Maps.OwnRows
import Derived.Maps.GroupsBeside
namespace Go.Proofs.Ytpncjadhpnapnaa.D12
open Go.RowKit Go.Maps C9
open D13 (RdI ixI)
open Go.WideElems (Fit rd rg)
open Go.ChangeShapes (lits)
set_option linter.unusedVariables false

/-- the groups read as 'f' -/
def GrD (D : DataW Unit) (f : Nat → List Int) : Prop := ∀ i : Nat, i < 5000 → (D.atKey (.int .i64 (i : Nat)) .nil = .nil ∧ f i = []) ∨ D.atKey (.int .i64 (i : Nat)) .nil = .slice (lits .i64 (f i)) []
theorem wfK12 {i : Nat} (h : i < 5000) : (Lit.int .i64 (i : Nat)).wf = true := by simp [Lit.wf, IntKind.min, IntKind.max, IntKind.signed, IntKind.bits]; omega
theorem zeroLo : ∀ w, (zeroValue 30).run Try.prog w = .ok (.slice none 0 0) w := fun _ => by kernel_rfl
theorem lits_inj {a b : List Int} (h : (lits .i64 a : List (DataW Unit)) = lits .i64 b) : a = b := by
  unfold lits at h
  exact (List.map_inj_right (fun x y e => by simpa using e)).1 h
theorem rawMap {w : World} {base b n : Nat} {D : DataW Unit} (h : w.ownsGroups Try.prog 3 base 3 .i64 b n D) : ∃ D2 : DataW Value, w.ownsMap Try.prog 3 Mp.rawE b n D2 := by
  obtain ⟨es, clock, hb, F, hs, _, _⟩ := h
  refine ⟨_, es, clock, hb, ⟨F.size, F.stamped, fun x hx => ?_⟩, hs, rfl⟩
  obtain ⟨y, hy⟩ := F.reads x hx
  have hk := Go.WideElems.rd_key hy
  exact ⟨(y.1, .held x.val), by simp [rd, hk, Mp.rawE]⟩
set_option maxRecDepth 100000 in
theorem LoM.ofGroups {w : World} {base b N : Nat} {D : DataW Unit} {n : Nat} {scr : List Sc} (h : w.ownsGroups Try.prog 3 base 3 .i64 b N D) (hN : N ≤ 100000000) (hn : n ≤ 4096) (hD : GrD D (lostS n scr)) : LoM w (some b) n scr := by
  obtain ⟨D2, h2⟩ := rawMap h
  refine ⟨N, hN, D2, h2, fun i hi => ?_⟩
  have hkey := keyOf_int_mk Try.underlying3 (wfK12 (show i < 5000 by omega))
  obtain ⟨v, zs, hrun, hat, hown, _, _⟩ := h.at lawI12 Try.underlying86 (zeroLo w) (by unfold maxLen; omega) hkey
  obtain ⟨v2, ps, hrun2, hat2⟩ := h2.lookup lawI12 Try.underlying86 (zeroLo w) (zd := .held (.slice none 0 0)) (zp := []) rfl hkey
  rw [hrun] at hrun2
  obtain rfl : v = v2 := by simpa using hrun2
  refine ⟨v, ?_, ?_⟩
  · simp only [Mp.rawE, Option.some.injEq, Prod.mk.injEq] at hat2
    exact hat2.1.symm
  · have hz : zs = lostS n scr i := by
      rcases hD i (by omega) with ⟨h3, h4⟩ | h3
      · rw [h3] at hat
        rcases hown.datum (H := Unit) with ⟨_, h5⟩ | h5
        · rw [h5, h4]
        · rw [h5] at hat; cases hat
      · rw [h3] at hat
        rcases hown.datum (H := Unit) with ⟨h5, _⟩ | h5
        · rw [h5] at hat; cases hat
        · rw [h5] at hat
          injection hat with e1 _
          exact (lits_inj e1).symm
    subst hz
    have hl : (lostS n scr i).length ≤ 2352 := by unfold lostS; rw [List.length_map]; exact Nat.le_trans (List.length_filter_le _ _) (by rw [List.length_range]; exact Nat.le_refl _)
    exact D13.rdI_own hown.1 rfl (by omega) fun x hx => by
      unfold lostS at hx
      obtain ⟨k, hk, rfl⟩ := List.mem_map.1 hx
      have := List.mem_range.1 (List.mem_filter.1 hk).1
      show -9223372036854775808 ≤ (k : Int) ∧ (k : Int) ≤ 9223372036854775807
      omega
/-- a group grows by one number -/
theorem GrD.put {D : DataW Unit} {f : Nat → List Int} (h : GrD D f) (hm : ∃ es, D = .map es) {i : Nat} (hi : i < 5000) (v : Value) (x : Int) (hv : (rowDatum .i64 v (f i ++ [x]) : DataW Unit) = .slice (lits .i64 (f i ++ [x])) []) :
    GrD (D.put (.int .i64 (i : Nat)) (rowDatum .i64 v (f i ++ [x]))) (fun j => if j = i then f i ++ [x] else f j) := by
  intro j hj
  obtain ⟨es, rfl⟩ := hm
  by_cases e : j = i
  · subst e
    right
    rw [atKey_put_same (by exact ⟨es, rfl⟩) (by trivial)]
    show _ = DataW.slice (lits .i64 (if j = j then f j ++ [x] else f j)) []
    rw [if_pos rfl]
    exact hv
  · have hne : ¬ ((j : Nat) : Int) = (i : Nat) := by omega
    rw [atKey_put_other (by simpa using hne)]
    show (_ ∧ (if j = i then _ else f j) = []) ∨ _ = DataW.slice (lits .i64 (if j = i then _ else f j)) []
    rw [if_neg e]
    exact h j hj
end Go.Proofs.Ytpncjadhpnapnaa.D12
