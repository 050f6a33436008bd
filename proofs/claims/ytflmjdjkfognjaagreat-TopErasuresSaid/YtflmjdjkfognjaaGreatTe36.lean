/- Parts: XFj XFk XFl XFm XFn XFo XGa XSeqA -/
import Derived.Test.YtflmjdjkfognjaaGreatTe35
import Derived.Test.YtflmjdjkfognjaaGreatTe29
import Derived.Maps.OwnRows
import Derived.Maps.GroupsBeside
import Derived.ArgAppend
import Derived.Deep.Upon
import Derived.Test.YtflmjdjkfognjaaGreatTe21
import Derived.Deep.Cut
import Derived.Test.YtflmjdjkfognjaaGreatTeShelf
import Derived.Sort.OwnSortedInts
namespace Go.Proofs.YtflmjdjkfognjaaGreat.D12
open Go.RowKit Go.Maps C9
open W8 (is)
set_option linter.unusedVariables false
def part (l : List Int) (i : Nat) : List Int := (l.filter fun x => decide (x / 2352 = (i : Int))).map (· % 2352)
end Go.Proofs.YtflmjdjkfognjaaGreat.D12
namespace Go.Proofs.YtflmjdjkfognjaaGreat.D12
open Go.RowKit Go.Maps C9
open W8 (is)
set_option linter.unusedVariables false
end Go.Proofs.YtflmjdjkfognjaaGreat.D12
namespace Go.Proofs.YtflmjdjkfognjaaGreat.D12
open Go.RowKit Go.Maps C9
open W8 (is)
open Go.WideElems (Fit rd rg)
open Go.ChangeShapes (lits)
set_option linter.unusedVariables false
def GrD (D : DataW Unit) (f : Nat → List Int) : Prop := ∀ i : Nat, i < 5000 → (D.atKey (.int .i64 (i : Nat)) .nil = .nil ∧ f i = []) ∨ D.atKey (.int .i64 (i : Nat)) .nil = .slice (lits .i64 (f i)) []
theorem wfK12 {i : Nat} (h : i < 5000) : (Lit.int .i64 (i : Nat)).wf = true := by simp [Lit.wf, IntKind.min, IntKind.max, IntKind.signed, IntKind.bits]; omega
theorem zeroLo : ∀ w, (zeroValue 53).run Tryz.prog w = .ok (.slice none 0 0) w := fun _ => by kernel_rfl
theorem GrD.put {D : DataW Unit} {f : Nat → List Int} (h : GrD D f) (hm : ∃ es, D = .map es) {i : Nat} (hi : i < 5000) (v : Value) (x : Int) (hv : (rowDatum .i64 v (f i ++ [x]) : DataW Unit) = .slice (lits .i64 (f i ++ [x])) []) :
    GrD (D.put (.int .i64 (i : Nat)) (rowDatum .i64 v (f i ++ [x]))) (fun j => if j = i then f i ++ [x] else f j) := by
  intro j hj
  obtain ⟨es, rfl⟩ := hm
  by_cases e : j = i
  · subst e
    right
    rw [atKey_put_same (by exact ⟨es, rfl⟩) (by trivial)]
    show _ = DataW.slice (lits .i64 (if j = j then f j ++ [x] else f j)) []
    rw [if_pos rfl]
    exact hv
  · have hne : ¬ ((j : Nat) : Int) = (i : Nat) := by omega
    rw [atKey_put_other (by simpa using hne)]
    show (_ ∧ (if j = i then _ else f j) = []) ∨ _ = DataW.slice (lits .i64 (if j = i then _ else f j)) []
    rw [if_neg e]
    exact h j hj
end Go.Proofs.YtflmjdjkfognjaaGreat.D12
namespace Go.Proofs.YtflmjdjkfognjaaGreat.D12
open Go.RowKit Go.Maps C9
open W8 (is)
set_option linter.unusedVariables false
end Go.Proofs.YtflmjdjkfognjaaGreat.D12
namespace Go.Proofs.YtflmjdjkfognjaaGreat.D12
open Go.RowKit Go.Maps C9
open W8 (is)
open Go.ChangeShapes (lits)
set_option linter.unusedVariables false
end Go.Proofs.YtflmjdjkfognjaaGreat.D12
namespace Go.Proofs.YtflmjdjkfognjaaGreat.D12
open Go.RowKit Go.Maps C9
open W8 (is)
open Go.ChangeShapes (lits)
set_option linter.unusedVariables false
structure DealW (wl : World) (g b : Nat) (cs : List Value) (L : List Int) (W : World) : Prop where
  x : Bx W g 214 cs
  gr : ∃ D : DataW Unit, W.ownsGroups Tryz.prog 3 wl.heap.size 3 .i64 b L.length D ∧ GrD D (part L)
  le : wl.grownBy W (some b)
  lt : b < wl.heap.size ∧ g < wl.heap.size ∧ g ≠ b
def anyR (_ : Nat) (_ _ : World) : Prop := True
theorem anyR_mk (r : Nat) (w w' : World) : anyR r w w' := trivial
end Go.Proofs.YtflmjdjkfognjaaGreat.D12
namespace Go.Proofs.YtflmjdjkfognjaaGreat.D12
open Go.RowKit Go.Maps C9 Go.Sort Go.Shelf
open W8 (is)
set_option linter.unusedVariables false
theorem sort12 (v : Value) (M : List Int) (w : World) (b n : Nat) (ho : w.ownsRow b 3 1 v n (is M)) (hn : M.length = n) (hl : n ≤ 1000000) :
    Calls Tryz.prog 214 #[v] w fun e w' => e = .returned (.tuple #[]) ∧ w'.ownsRow b 3 1 v n (is (M.mergeSort fun x y => decide (x ≤ y))) ∧ w.grownBy w' v.ownBlock := by
  subst hn
  rcases ho.2 with ⟨rfl, h0⟩ | ⟨g, cap, cur, rfl, hg, hb, h1, h2, h3, h4⟩
  · have e : M = [] := List.length_eq_zero_iff.1 h0
    subst e
    refine (Tryz.slices_Sort_int_none none 0 w).mono ?_
    rintro e w' ⟨rfl, rfl⟩
    exact ⟨rfl, by simpa using ho, rfl, rfl, rfl, Nat.le_refl _, fun _ _ _ => rfl⟩
  · have ht : cur.toList.take M.length = M.map (Value.int .i64) := by rw [Nat.mul_one] at h4; exact h4
    refine (Tryz.slices_Sort_int g 0 cap M w (holds_of_blockI hb ht) (Array.getElem?_eq_some_iff.1 hb).1 (by omega)).mono ?_
    rintro e w' ⟨rfl, k, os, rfl⟩
    exact ⟨rfl, ownsRow_sortedI (ss := M) (List.length_mergeSort M) hg hb h1 h2 h3, grownBy_sortedI _⟩
theorem grow_nil12 (w : World) : grow w #[] = w := by cases w; simp [grow]
theorem compact_len (M : List Int) : (Lib.compact M).length ≤ M.length := by
  unfold Lib.compact Lib.compactUpTo
  rw [List.length_map]
  exact Nat.le_trans (List.length_filter_le _ _) (by simp)
theorem compact12 (v : Value) (M : List Int) (w : World) (b n : Nat) (ho : w.ownsRow b 3 1 v n (is M)) (hn : M.length = n) (hl : n ≤ 1000000) :
    Calls Tryz.prog 215 #[v] w fun e w' => ∃ v', e = .returned v' ∧ w'.ownsRow b 3 1 v' (Lib.compact M).length (is (Lib.compact M)) ∧ w.grownBy w' v.ownBlock := by
  subst hn
  rcases ho.2 with ⟨rfl, h0⟩ | ⟨g, cap, cur, rfl, hg, hb, h1, h2, h3, h4⟩
  · have e : M = [] := List.length_eq_zero_iff.1 h0
    subst e
    refine (Tryz.slices_Compact_int_empty none 0 w).mono ?_
    rintro e w' ⟨rfl, rfl⟩
    exact ⟨_, rfl, ho, World.grownBy.refl _ _⟩
  · have ht : cur.toList.take M.length = M.map (Value.int .i64) := by rw [Nat.mul_one] at h4; exact h4
    refine (Tryz.slices_Compact_int g 0 cap M w (holds_of_blockI hb ht) (by omega) h1).mono ?_
    rintro e w' ⟨rfl, q, rfl⟩
    have hc := compact_len M
    have e1 : ∀ d : Array Int, putRow (Value.int .i64) (Sort.ahead w q) g 0 d = grow (putRow (Value.int .i64) (Sort.ahead w q) g 0 d) #[] := fun d => (grow_nil12 _).symm
    rw [e1]
    refine ⟨_, rfl, ?_, grownBy_sortedI _⟩
    generalize hts : Lib.compact M ++ List.replicate (M.length - (Lib.compact M).length) 0 = ts
    have hl2 : ts.length = M.length := by rw [← hts]; simp; omega
    have h5 := ownsRow_sortedI (n := q) (os := #[]) (ss := M) (ts := ts) hl2 hg hb h1 h2 h3
    rcases h5.2 with ⟨h6, _⟩ | ⟨g2, cap2, cur2, hv, hg2, hb2, k1, k2, k3, k4⟩
    · cases h6
    · simp only [Value.slice.injEq, Option.some.injEq, Addr.mk.injEq] at hv
      obtain ⟨⟨rfl, _⟩, _, rfl⟩ := hv
      refine ⟨by simp [is], .inr ⟨g, cap, cur2, rfl, hg, hb2, Nat.le_trans hc h1, h2, k3, ?_⟩⟩
      rw [Nat.mul_one] at k4 ⊢
      have : cur2.toList.take (Lib.compact M).length = (cur2.toList.take M.length).take (Lib.compact M).length := by rw [List.take_take, Nat.min_eq_left hc]
      rw [this, k4, ← hts, List.map_append, List.take_left' (by simp)]
      rfl
theorem compact_spec {M : List Int} (h : M.Pairwise (· ≤ ·)) : (Lib.compact M).Pairwise (· < ·) ∧ ∀ x, x ∈ Lib.compact M ↔ x ∈ M := by
  have hle : ∀ i j, i ≤ j → j < M.length → M.toArray[i]! ≤ M.toArray[j]! := fun i j hij hj => by
    have hi : i < M.length := by omega
    rw [getElem!_pos _ _ (by simpa using hi), getElem!_pos _ _ (by simpa using hj)]
    simp only [List.getElem_toArray]
    by_cases e : i = j
    · subst e; exact Int.le_refl _
    · exact List.pairwise_iff_getElem.1 h i j hi hj (by omega)
  have hk : ∀ j, Lib.keeps M.toArray j = true → j = 0 ∨ M.toArray[j]! ≠ M.toArray[j - 1]! := fun j hj => by
    unfold Lib.keeps at hj
    exact of_decide_eq_true hj
  constructor
  · unfold Lib.compact Lib.compactUpTo
    rw [List.pairwise_map, List.pairwise_filter]
    refine List.pairwise_lt_range.imp_of_mem fun {a b} ha hb hab _ kb => ?_
    have hb' := List.mem_range.1 hb
    have h1 := hle a (b - 1) (by omega) (by omega)
    have h2 := hle (b - 1) b (by omega) hb'
    rcases hk b kb with h3 | h3
    · omega
    · omega
  · intro x
    unfold Lib.compact Lib.compactUpTo
    simp only [List.mem_map, List.mem_filter, List.mem_range]
    constructor
    · rintro ⟨j, ⟨hj, _⟩, rfl⟩
      rw [getElem!_pos _ _ (by simpa using hj)]
      simp
    · intro hx
      obtain ⟨j, hj, rfl⟩ := List.getElem_of_mem hx
      have key : ∀ j, j < M.length → ∃ i, (i < M.length ∧ Lib.keeps M.toArray i = true) ∧ M.toArray[i]! = M.toArray[j]! := by
        intro j
        induction j with
        | zero => exact fun hj => ⟨0, ⟨hj, Lib.keeps_lt_one _ 0 (by omega)⟩, rfl⟩
        | succ j ih =>
          intro hj
          by_cases e : M.toArray[j + 1]! = M.toArray[j]!
          · obtain ⟨i, h1, h2⟩ := ih (by omega)
            exact ⟨i, h1, h2.trans e.symm⟩
          · exact ⟨j + 1, ⟨hj, Lib.keeps_pos e⟩, rfl⟩
      obtain ⟨i, h1, h2⟩ := key j hj
      refine ⟨i, h1, h2.trans ?_⟩
      rw [getElem!_pos _ _ (by simpa using hj)]
      simp
theorem Tryz.keys12 (mb : Option Nat) (W : World) : Calls Tryz.prog 213 #[.map mb] W fun e w' => e = .returned (.func (.func 241) #[] #[.pointer (some ⟨W.heap.size, 0, none⟩)]) ∧ w' = W.alloc (.cells #[.map mb] 52) :=
  (callsIn_wide (n := 5)).1 (AnyZI.keys_in Tryz.keysA Fence.wide 5 trivial rfl mb W)
def ColP (f : Nat → Bool) (w : World) (e : Ending) (w' : World) : Prop := ∃ v ss, e = .returned v ∧ (∀ x : Int, x ∈ ss ↔ 0 ≤ x ∧ f x.toNat = true) ∧ ss.length ≤ 2352 ∧ w'.ownsRow w.heap.size 3 1 v ss.length (is ss) ∧ Below w.heap.size w w'
theorem collect12 {W : World} {g : Nat} {mb : Option Nat} {f : Nat → Bool} (hb : Bx W g 52 [.map mb]) (hm : ErM W mb f) (hfb : ∀ k, f k = true → k < 2352) :
    Calls Tryz.prog 212 #[.func (.func 241) #[] #[.pointer (some ⟨g, 0, none⟩)]] W (ColP f W) := by
  cases mb with
  | none =>
    have hseq : SeqGives Fence.wide 3 Tryz.prog 241 #[.pointer (some ⟨g, 0, none⟩)] encZ (fun ss => ss = []) 0 W :=
      AnyZI.keys_gives_nil (ρ := Tryz.keysA_ren) { Tryz.keysA with } Fence.wide 3 trivial rfl g W hb.lt (hb.cell (i := 0) rfl)
    have cS := AnyZI.collect_in Tryz.collectA Fence.wide 5 trivial trivial rfl (by omega) 241 #[.pointer (some ⟨g, 0, none⟩)] trivial (enters_of Tryz.func241 (by kernel_rfl) rfl) _ _ (by unfold maxLen; omega) (by omega) W hseq
    change CallsIn _ _ Tryz.prog 212 _ _ _ at cS
    refine ((callsIn_wide (n := 5)).1 cS).mono ?_
    rintro e w' ⟨v, ss, rfl, rfl, hrow, _, hb⟩
    refine ⟨v, [], rfl, fun x => ?_, by simp, hrow, hb⟩
    have := hm x.toNat
    simp [this]
  | some b =>
    obtain ⟨D, hown, hf⟩ := hm
    have hsz := hown.size_le
    have hseq : SeqGives Fence.wide 3 Tryz.prog 241 #[.pointer (some ⟨g, 0, none⟩)] encZ (fun ss => ss.Perm (intKeys D)) (Maps.size D) W :=
      AnyZI.keys_gives (ρ := Tryz.keysA_ren) { Tryz.keysA with } Fence.wide 3 trivial rfl (by omega) g b 2352 D W hb.lt (hb.cell (i := 0) rfl) hown
    have cS := AnyZI.collect_in Tryz.collectA Fence.wide 5 trivial trivial rfl (by omega) 241 #[.pointer (some ⟨g, 0, none⟩)] trivial (enters_of Tryz.func241 (by kernel_rfl) rfl) _ _ (by unfold maxLen; omega) (by omega) W hseq
    change CallsIn _ _ Tryz.prog 212 _ _ _ at cS
    refine ((callsIn_wide (n := 5)).1 cS).mono ?_
    rintro e w' ⟨v, ss, rfl, hS, hrow, _, hb⟩
    have hkl : (intKeys D).length ≤ 2352 := by
      obtain ⟨es, hD, _, _⟩ := hown.entries lawI12
      subst hD
      have e : (intKeys (DataW.map es)).length = Maps.size (DataW.map es) := by simp [intKeys, Maps.size]
      omega
    refine ⟨v, ss, rfl, fun x => ?_, by rw [hS.length_eq]; exact hkl, hrow, hb⟩
    rw [hS.mem_iff]
    have h1 : x ∈ intKeys D ↔ Maps.has D (.int .i64 x) = true := by
      have hbd : ∀ x : Int, Maps.has D (.int .i64 x) = true → 0 ≤ x ∧ x < 2352 := fun x hx => by
        rw [hf x, Bool.and_eq_true, decide_eq_true_eq] at hx
        have := hfb _ hx.2
        omega
      have hp := Mp.perm_keysI hown (K := Mp.keysB D 2352) ((Mp.keysB_sorted D 2352).imp fun h e => by omega) (Mp.mem_keysB hbd)
      rw [← hp.mem_iff, Mp.mem_keysB hbd]
    rw [h1, hf x]
    simp
end Go.Proofs.YtflmjdjkfognjaaGreat.D12
namespace Go.Proofs.YtflmjdjkfognjaaGreat
open Go.RowKit
set_option linter.unusedVariables false
section
variable {P : Program} {Q : Exit → Act → World → Prop}
def StepA (P : Program) (Q : Exit → Act → World → Prop) (R : Nat → World → World → Prop) (C : Nat → Act → World → Prop) (V : Nat → Value → World → Prop) (sk : Nat → Bool) (eff : Nat → Option Nat) (l : List Oper) (a0 : Act) (i : Nat) (o : Oper) : Prop :=
  ∀ (r : Nat) a w, C r a w → a.tmps.size = a0.tmps.size → (∀ t, freeB l t = true → a.tmps.getD t undef = a0.tmps.getD t undef) →
    (∀ k, (o.after.toList.any fun e => e.on == k && Region.binds .any e) = true → sk k = false → ∀ (ok : Oper), l[k]? = some ok → V k (slotV ok.dst a) w) →
    (∀ (j : Nat) (oj : Oper) (t : Tmp), l[j]? = some oj → oj.dst = some t → (oj.after.toList.any fun e => e.on == i && Region.binds .any e) = true → a.tmps.getD t undef = a0.tmps.getD t undef) →
    (∀ j k, eff j = some k → reach l 3 i j = true → k < r) → (∀ j k, eff j = some k → reach l 3 j i = true → r ≤ k) → (∀ k, eff i = some k → k = r) →
    if sk i then Region.wanted o (yielded l.toArray a.tmps) = false
    else Region.wanted o (yielded l.toArray a.tmps) = true ∧ o.wp P a w (fun a' w' => ∃ v, a' = a.put o.dst v ∧ R r w w' ∧ (match eff i with | some _ => C (r + 1) (a.put o.dst v) w' | none => w' = w) ∧ V i (kept o.dst v) w') Q
def StepsA (P : Program) (Q : Exit → Act → World → Prop) (R : Nat → World → World → Prop) (C : Nat → Act → World → Prop) (V : Nat → Value → World → Prop) (sk : Nat → Bool) (eff : Nat → Option Nat) (l : List Oper) (a0 : Act) : Nat → List Oper → Prop
  | _, [] => True
  | i, o :: r => StepA P Q R C V sk eff l a0 i o ∧ StepsA P Q R C V sk eff l a0 (i + 1) r
theorem StepsA.at {R : Nat → World → World → Prop} {C : Nat → Act → World → Prop} {V : Nat → Value → World → Prop} {sk : Nat → Bool} {eff : Nat → Option Nat} {l : List Oper} {a0 : Act} : ∀ {i : Nat} {r : List Oper}, StepsA P Q R C V sk eff l a0 i r → ∀ {j : Nat} {o : Oper}, r[j]? = some o → StepA P Q R C V sk eff l a0 (i + j) o
  | i, [], _, j, o, h => by simp at h
  | i, x :: r, h, 0, o, ho => by
    have : x = o := by simpa using ho
    subst this; exact h.1
  | i, x :: r, h, j + 1, o, ho => by
    have := StepsA.at h.2 (j := j) (o := o) (by simpa using ho)
    rwa [Nat.add_assoc, Nat.add_comm 1 j] at this
theorem stepA_val {R : World → World → Prop} {V : Nat → Value → World → Prop} {i : Nat} {o : Oper} {a : Act} {w : World} {v : Value} (hr : R w w) (hv : V i (kept o.dst v) w) (h : ∀ K : Act → World → Prop, K (a.put o.dst v) w → o.wp P a w K Q) :
    o.wp P a w (fun a' w' => ∃ v, a' = a.put o.dst v ∧ R w w' ∧ w' = w ∧ V i (kept o.dst v) w') Q := h _ ⟨v, rfl, hr, rfl, hv⟩
theorem stepA_any {R : World → World → Prop} {C : Act → World → Prop} {V : Nat → Value → World → Prop} {i : Nat} {o : Oper} {a : Act} {w : World} (h : ∀ K : Act → World → Prop, (∀ v w', R w w' → C (a.put o.dst v) w' → V i (kept o.dst v) w' → K (a.put o.dst v) w') → o.wp P a w K Q) :
    o.wp P a w (fun a' w' => ∃ v, a' = a.put o.dst v ∧ R w w' ∧ C (a.put o.dst v) w' ∧ V i (kept o.dst v) w') Q := h _ fun v w' h1 h2 h3 => ⟨v, rfl, h1, h2, h3⟩
structure OkayA (l : List Oper) (C : Nat → Act → World → Prop) (V : Nat → Value → World → Prop) (sk : Nat → Bool) (eff : Nat → Option Nat) (n : Nat) (a0 : Act) (listed : Array Bool) (a : Act) (w : World) : Prop where
  c : ∃ r, r ≤ n ∧ C r a w ∧ ∀ i k, i < l.length → eff i = some k → (listed.getD i false = true ↔ k < r)
  defers : a.defers = a0.defers
  size : a.tmps.size = a0.tmps.size
  old : ∀ t, freeB l t = true → a.tmps.getD t undef = a0.tmps.getD t undef
  val : ∀ (i : Nat) (o : Oper), l[i]? = some o → sk i = false → listed.getD i false = true → V i (slotV o.dst a) w
  unl : ∀ (j : Nat) (oj : Oper) (t : Tmp), l[j]? = some oj → oj.dst = some t → listed.getD j false = false → a.tmps.getD t undef = a0.tmps.getD t undef
  closed : ClosedL l listed
theorem wpAny_seqA {l : List Oper} {R : Nat → World → World → Prop} {C : Nat → Act → World → Prop} {V : Nat → Value → World → Prop} {sk : Nat → Bool} {eff : Nat → Option Nat} {n : Nat} {a0 : Act} (hf : formR l a0.tmps.size = true) (hch : chainB l eff sk n = true)
    (hn : ((List.range l.length).any fun i => eff i == some (n - 1)) = true ∨ n = 0)
    (hC : ∀ r a w i (o : Oper) v, l[i]? = some o → eff i = none → C r a w → C r (a.put o.dst v) w) (hV : ∀ i r v w w', (∀ k, eff i = some k → k < r) → R r w w' → V i v w → V i v w')
    (hstep : StepsA P Q R C V sk eff l a0 0 l)
    (hend : ∀ a w, C n a w → a.defers = a0.defers → a.tmps.size = a0.tmps.size → (∀ t, freeB l t = true → a.tmps.getD t undef = a0.tmps.getD t undef) →
      (∀ (i : Nat) (o : Oper), l[i]? = some o → sk i = false → V i (slotV o.dst a) w) → Q .normal a w) :
    ∀ (fuel : Nat) (listed : Array Bool) (a : Act) (w : World), listed.size = l.length → left l.length listed ≤ fuel → OkayA l C V sk eff n a0 listed a w → wpAny P .any l.toArray Q fuel listed a w := by
  have chain : ∀ i k, i < l.length → eff i = some k → sk i = false ∧ k < n ∧ (∀ j m, j < l.length → eff j = some m → (m = k → i = j) ∧ (m + 1 = k → reach l 3 i j = true)) ∧ (k = 0 ∨ ∃ j, j < l.length ∧ eff j = some (k - 1)) := by
    intro i k hi hk
    have := List.all_eq_true.1 hch i (List.mem_range.2 hi)
    rw [hk] at this
    simp only [Bool.and_eq_true, Bool.not_eq_true'] at this
    obtain ⟨⟨⟨h1, h2⟩, h3⟩, h4⟩ := this
    refine ⟨h1, Nat.blt_eq ▸ h2, fun j m hj hm => ?_, ?_⟩
    · have := List.all_eq_true.1 h3 j (List.mem_range.2 hj)
      rw [hm] at this
      simp only [Bool.and_eq_true, Bool.or_eq_true, bne_iff_ne, beq_iff_eq, ne_eq] at this
      exact ⟨fun e => this.1.resolve_left (fun h => h e), fun e => this.2.resolve_left (fun h => h e)⟩
    · rw [Bool.or_eq_true] at h4
      rcases h4 with h4 | h4
      · exact .inl (by simpa using h4)
      · rw [List.any_eq_true] at h4
        obtain ⟨j, hj, he⟩ := h4
        exact .inr ⟨j, List.mem_range.1 hj, by simpa using he⟩
  have hfin : ∀ (listed : Array Bool) (a : Act) (w : World), listed.size = l.length → OkayA l C V sk eff n a0 listed a w → Region.ready .any l.toArray listed = [] → Q .normal a w := fun listed a w hs hok hr => by
    have hall := readyR_nil hf hs hr
    obtain ⟨r, hrn, hc, hcl⟩ := hok.c
    have hr2 : r = n := by
      rcases hn with h | h
      · rw [List.any_eq_true] at h
        obtain ⟨j, hj, he⟩ := h
        have := (hcl j (n - 1) (List.mem_range.1 hj) (by simpa using he)).1 (hall j (List.mem_range.1 hj))
        omega
      · omega
    subst hr2
    exact hend a w hc hok.defers hok.size hok.old fun i o ho hsk => hok.val i o ho hsk (hall i (List.getElem?_eq_some_iff.1 ho).1)
  intro fuel
  induction fuel with
  | zero =>
    intro listed a w hs hle hok
    have hr : Region.ready .any l.toArray listed = [] := by
      rcases hq : Region.ready .any l.toArray listed with _ | ⟨i, r⟩
      · rfl
      · have hi : i ∈ Region.ready .any l.toArray listed := by rw [hq]; exact List.mem_cons_self ..
        have := left_set hs (mem_ready.1 hi).1
        omega
    exact ⟨hr, hfin listed a w hs hok hr⟩
  | succ fuel ih =>
    intro listed a w hs hle hok
    refine ⟨hfin listed a w hs hok, fun i hi => ?_⟩
    obtain ⟨hun, o, ho, hall⟩ := mem_ready.1 hi
    have hol : l[i]? = some o := by simpa using ho
    have hil : i < l.length := (List.getElem?_eq_some_iff.1 hol).1
    have hij : i < listed.size := by rw [hs]; exact hil
    have hunF : listed.getD i false = false := by
      simp only [Array.getD, hij, dif_pos] at hun ⊢
      exact hun
    obtain ⟨_, hlt⟩ := (formR_spec hf).1 i o hol
    obtain ⟨r, hrn, hc, hcl⟩ := hok.c
    have hst := hstep.at hol
    rw [Nat.zero_add] at hst
    have hallo : ∀ (o' : Oper), l[i]? = some o' → ∀ e ∈ o'.after, Region.binds .any e = true → listed.getD e.on false = true := fun o' ho' e he hb => by
      obtain rfl : o = o' := by rw [hol] at ho'; exact Option.some.inj ho'
      exact hall e he hb
    have hlo : ∀ j k, eff j = some k → reach l 3 i j = true → k < r := fun j k hk hre => by
      have h1 := reach_listed hok.closed 3 i j hre hallo
      have hj : j < l.length := by
        by_cases hj : j < l.length
        · exact hj
        · exfalso
          have : ¬ j < listed.size := by omega
          simp [Array.getD, this] at h1
      exact (hcl j k hj hk).1 h1
    have hhi : ∀ j k, eff j = some k → reach l 3 j i = true → r ≤ k := fun j k hk hre => by
      by_cases hj : j < l.length
      · rcases Nat.lt_or_ge k r with h | h
        · exfalso
          have hlj := (hcl j k hj hk).2 h
          obtain ⟨oj, hoj⟩ : ∃ oj, l[j]? = some oj := ⟨l[j], List.getElem?_eq_getElem hj⟩
          have := reach_listed hok.closed 3 j i hre fun o' ho' e he hb => hok.closed j o' ho' hlj e he hb
          rw [hunF] at this; cases this
        · exact h
      · exfalso
        unfold reach at hre
        rw [List.getElem?_eq_none (by omega)] at hre
        cases hre
    have hrk : ∀ k, eff i = some k → k = r := fun k hk => by
      obtain ⟨_, _, h3, h4⟩ := chain i k hil hk
      have h5 : ¬ k < r := fun h => by
        have := (hcl i k hil hk).2 h
        rw [hunF] at this; cases this
      rcases h4 with h4 | ⟨j, hj, hje⟩
      · omega
      · by_cases hk0 : k = 0
        · omega
        · have := hlo j (k - 1) hje ((h3 j (k - 1) hj hje).2 (by omega))
          omega
    have h1 := hst r a w hc hok.size hok.old (fun k hk hsk ok hkl => by
      rw [List.any_eq_true] at hk
      obtain ⟨e, he, hb⟩ := hk
      rw [Bool.and_eq_true] at hb
      have hek : e.on = k := by simpa using hb.1
      exact hok.val k ok hkl hsk (by rw [← hek]; exact hall e (Array.mem_toList_iff.1 he) hb.2)) (fun j oj t hoj hdt hk => by
      refine hok.unl j oj t hoj hdt ?_
      rw [List.any_eq_true] at hk
      obtain ⟨e, he, hb⟩ := hk
      rw [Bool.and_eq_true] at hb
      have hek : e.on = i := by simpa using hb.1
      cases hlj : listed.getD j false with
      | false => rfl
      | true =>
        have h2 := hok.closed j oj hoj hlj e (Array.mem_toList_iff.1 he) hb.2
        rw [hek, hunF] at h2; cases h2) hlo hhi hrk
    have hold : ∀ v, ∀ t, freeB l t = true → (a.put o.dst v).tmps.getD t undef = a0.tmps.getD t undef := fun v t ht => by
      have hne : o.dst ≠ some t := by
        have := List.all_eq_true.1 ht o (List.mem_of_getElem? hol)
        simpa using this
      rw [put_getD_other hne]; exact hok.old t ht
    have hother : ∀ (v : Value) (j : Nat) (oj : Oper), l[j]? = some oj → j ≠ i → slotV oj.dst (a.put o.dst v) = slotV oj.dst a := fun v j oj hoj hne => by
      cases hjt : oj.dst with
      | none => rfl
      | some t =>
        refine put_getD_other fun hd => hne ?_
        exact ((formR_spec hf).2 i j o oj t hol hoj hd hjt).symm
    have hunl : ∀ v (j : Nat) (oj : Oper) (t : Tmp), l[j]? = some oj → oj.dst = some t → (listed.setIfInBounds i true).getD j false = false → (a.put o.dst v).tmps.getD t undef = a0.tmps.getD t undef := fun v j oj t hoj hdt hlj => by
      have hji : j ≠ i := by
        rintro rfl
        rw [getD_set_same hij] at hlj; cases hlj
      have hne : o.dst ≠ some t := fun hd => hji ((formR_spec hf).2 i j o oj t hol hoj hd hdt).symm
      rw [put_getD_other hne]
      refine hok.unl j oj t hoj hdt ?_
      rw [← getD_set_ne (listed := listed) false (Ne.symm hji)]; exact hlj
    have hclo : ClosedL l (listed.setIfInBounds i true) := fun j oj hoj hlj e he hb => by
      rcases getD_set_cases hlj with rfl | hlj
      · exact getD_set_up hij (hallo oj hoj e he hb)
      · exact getD_set_up hij (hok.closed j oj hoj hlj e he hb)
    have hcl0 : eff i = none → ∀ j k, j < l.length → eff j = some k → ((listed.setIfInBounds i true).getD j false = true ↔ k < r) := fun hn j k hj hk => by
      have hne : i ≠ j := fun e => by subst e; rw [hn] at hk; cases hk
      rw [getD_set_ne false hne]; exact hcl j k hj hk
    unfold wpOp
    simp only [ho]
    by_cases hsk : sk i = true
    · rw [if_pos hsk] at h1
      rw [if_neg (by rw [h1]; decide)]
      have hen : eff i = none := by
        cases he : eff i with
        | none => rfl
        | some k =>
          have := (chain i k hil he).1
          rw [hsk] at this; cases this
      refine ih _ _ _ (by simpa using hs) (by have := left_set hs hun; omega) ⟨⟨r, hrn, hC r a w i o _ hol hen hc, hcl0 hen⟩, by rw [put_defers]; exact hok.defers, by rw [put_size]; exact hok.size, hold _, fun j oj hoj hsj hlj => ?_, hunl _, hclo⟩
      rcases getD_set_cases hlj with rfl | hlj
      · rw [hsk] at hsj; cases hsj
      · have hne : j ≠ i := fun e => by subst e; rw [hsk] at hsj; cases hsj
        rw [hother _ j oj hoj hne]
        exact hok.val j oj hoj hsj hlj
    · rw [if_neg hsk] at h1
      rw [if_pos h1.1]
      refine .inl (Oper.wp_mono ?_ h1.2)
      rintro a' w' ⟨v, rfl, hb, hc', hv⟩
      have hcc : ∃ r', r' ≤ n ∧ C r' (a.put o.dst v) w' ∧ ∀ j k, j < l.length → eff j = some k → ((listed.setIfInBounds i true).getD j false = true ↔ k < r') := by
        cases he : eff i with
        | none =>
          rw [he] at hc'
          obtain rfl : w' = w := hc'
          exact ⟨r, hrn, hC r a w' i o v hol he hc, hcl0 he⟩
        | some k0 =>
          rw [he] at hc'
          obtain rfl := hrk k0 he
          obtain ⟨_, hlt0, h3, _⟩ := chain i k0 hil he
          refine ⟨k0 + 1, hlt0, hc', fun j k hj hk => ?_⟩
          by_cases hje : i = j
          · subst hje
            rw [he] at hk
            obtain rfl := Option.some.inj hk
            rw [getD_set_same hij]
            exact ⟨fun _ => by omega, fun _ => rfl⟩
          · rw [getD_set_ne false hje, hcl j k hj hk]
            have : k ≠ k0 := fun e => hje ((h3 j k hj hk).1 e)
            omega
      refine ih _ _ _ (by simpa using hs) (by have := left_set hs hun; omega) ⟨hcc, by rw [put_defers]; exact hok.defers, by rw [put_size]; exact hok.size, hold _, fun j oj hoj hsj hlj => ?_, hunl _, hclo⟩
      by_cases hji : j = i
      · subst hji
        obtain rfl : o = oj := by rw [hol] at hoj; exact Option.some.inj hoj
        have hsv : slotV o.dst (a.put o.dst v) = kept o.dst v := by
          cases hd : o.dst with
          | none => rfl
          | some t => exact put_getD_same (by rw [hok.size]; exact hlt t hd)
        rw [hsv]
        exact hv
      · rcases getD_set_cases hlj with h | hlj
        · exact (hji h).elim
        · rw [hother _ j oj hoj hji]
          exact hV j r _ w w' (fun k hk => (hcl j k (List.getElem?_eq_some_iff.1 hoj).1 hk).1 hlj) hb (hok.val j oj hoj hsj hlj)
theorem wp_region_seqA {id : Nat} {l : List Oper} {a0 : Act} {w : World} (hm : P.follows .mixedOrders = true) (R : Nat → World → World → Prop) (C : Nat → Act → World → Prop) (V : Nat → Value → World → Prop) (sk : Nat → Bool) (eff : Nat → Option Nat) (n : Nat) (hf : formR l a0.tmps.size = true)
    (hch : chainB l eff sk n = true) (hn : ((List.range l.length).any fun i => eff i == some (n - 1)) = true ∨ n = 0)
    (hC : ∀ r a w i (o : Oper) v, l[i]? = some o → eff i = none → C r a w → C r (a.put o.dst v) w) (hV : ∀ i r v w w', (∀ k, eff i = some k → k < r) → R r w w' → V i v w → V i v w') (h0 : C 0 a0 w.drew)
    (hstep : StepsA P Q R C V sk eff l a0 0 l)
    (hend : ∀ a w, C n a w → a.defers = a0.defers → a.tmps.size = a0.tmps.size → (∀ t, freeB l t = true → a.tmps.getD t undef = a0.tmps.getD t undef) →
      (∀ (i : Nat) (o : Oper), l[i]? = some o → sk i = false → V i (slotV o.dst a) w) → Q .normal a w) : (Code.region id l.toArray true).wp P Q a0 w := by
  refine wp_region_any hm ?_
  have hnn : (Array.replicate l.toArray.size false).size = l.length := by simp
  have hz : ∀ i, i < l.length → (Array.replicate l.toArray.size false).getD i false = false := fun i hi => by simp [Array.getD, hi]
  refine wpAny_seqA hf hch hn hC hV hstep hend _ _ _ _ hnn ?_ ⟨⟨0, Nat.zero_le _, h0, fun i k hi _ => ?_⟩, rfl, rfl, fun t _ => rfl, fun i o ho _ hl => ?_, fun _ _ _ _ _ _ => rfl, fun j oj hoj hl => ?_⟩
  · have := List.length_filter_le (fun i => !(Array.replicate l.toArray.size false).getD i true) (List.range l.length)
    unfold left
    simpa using this
  · rw [hz i hi]; simp
  · rw [hz i (List.getElem?_eq_some_iff.1 ho).1] at hl; cases hl
  · rw [hz j (List.getElem?_eq_some_iff.1 hoj).1] at hl; cases hl
end
def keepsB (l : List Oper) (eff : Nat → Option Nat) (t : Tmp) : Bool := (List.range l.length).all fun i => (eff i).isSome || (match l[i]? with | some o => !(o.dst == some t) | none => true)
theorem dst_ne {l : List Oper} {eff : Nat → Option Nat} {t : Tmp} (h : keepsB l eff t = true) {i : Nat} {o : Oper} (ho : l[i]? = some o) (he : eff i = none) : o.dst ≠ some t := by
  have h1 := List.all_eq_true.1 h i (List.mem_range.2 (List.getElem?_eq_some_iff.1 ho).1)
  rw [he, ho] at h1
  simpa using h1
theorem keepsA3 {l : List Oper} {eff : Nat → Option Nat} (t u x : Tmp) (h : keepsB l eff t = true) (h2 : keepsB l eff u = true) (h3 : keepsB l eff x = true) (C : Nat → Value → Value → Value → World → Prop) : ∀ (r : Nat) (a : Act) (w : World) (i : Nat) (o : Oper) (v : Value), l[i]? = some o → eff i = none → C r (a.tmps.getD t undef) (a.tmps.getD u undef) (a.tmps.getD x undef) w → C r ((a.put o.dst v).tmps.getD t undef) ((a.put o.dst v).tmps.getD u undef) ((a.put o.dst v).tmps.getD x undef) w :=
  fun r a w i o v ho he hc => by rw [put_getD_other (dst_ne h ho he), put_getD_other (dst_ne h2 ho he), put_getD_other (dst_ne h3 ho he)]; exact hc
end Go.Proofs.YtflmjdjkfognjaaGreat
