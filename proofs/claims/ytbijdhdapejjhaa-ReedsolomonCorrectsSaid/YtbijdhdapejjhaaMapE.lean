/- A map from int to bool whose keys lie below a bound; a range over it counts what is true. -/
import Derived.Test.YtbijdhdapejjhaaMap
import Derived.Maps.RangeWalk
namespace Go.Proofs.Ytbijdhdapejjhaa
open Go.RowKit Go.Maps
set_option linter.unusedVariables false

/-- block 'b' is a map of at most 'n' entries with keys in [0, N); at the int 'x' it reads 'f x' -/
def SetE (w : World) (b n N : Nat) (f : Int → Bool) : Prop :=
  ∃ D : DataW Unit, w.ownsMap Try.prog 3 (plainElem Try.prog 4) b n D ∧ (∀ x, -9223372036854775808 ≤ x → x ≤ 9223372036854775807 → D.atKey (.int .i64 x) (.lit (.bool false)) = .lit (.bool (f x))) ∧ (∀ x, has D (.int .i64 x) = true → 0 ≤ x ∧ x < N)
theorem SetE.made (w : World) (N : Nat) : SetE (w.alloc (.map #[] 0)) w.heap.size 0 N (fun _ => false) := ⟨.map [], World.ownsMap_made _ _ _ _, fun x _ _ => rfl, fun x h => by simp [has] at h⟩
theorem SetE.lt {w : World} {b n N : Nat} {f : Int → Bool} (h : SetE w b n N f) : b < w.heap.size := by
  obtain ⟨D, h, _⟩ := h; exact h.lt
theorem SetE.kept {w w' : World} {b n N : Nat} {f : Int → Bool} (h : SetE w b n N f) (hk : w'.heap[b]? = w.heap[b]?) : SetE w' b n N f := by
  obtain ⟨D, ⟨es, clock, hb, F, hs, hD⟩, hf⟩ := h
  exact ⟨D, ⟨es, clock, hk.trans hb, F, hs, hD⟩, hf⟩
/-- 'm[x] = v' -/
theorem wpList_setE {w : World} {ops : Array Oper} {rest : List Oper} {o : Oper} {a : Act} {Q : Exit → Act → World → Prop}
    (hg : o.guard = none) (m x v : Operand) (hop : o.op = Op.mapUpdate 36 m x v) {b n N : Nat} {f : Int → Bool} (hown : SetE w b n N f) (hm : a.eval m = .map (some b)) {X : Nat} (hx : a.eval x = .int .i64 X) {V : Bool} (hv : a.eval v = .bool V)
    (h2 : X < N) (hN : N ≤ 1000000) (hn : n < 1000000)
    (hK : ∀ w', SetE w' b (n + 1) N (setF f X V) → w.grownBy w' (some b) → wpList Try.prog ops Q rest (a.put o.dst undef) w') : wpList Try.prog ops Q (o :: rest) a w := by
  obtain ⟨D, hown, hf, hk⟩ := hown
  refine wpList_mapUpdate_own _ hg m x v 36 hop 3 4 lawInt Try.underlying36 _ b n D hm hown (by unfold maxLen; omega) _ _ _ hx hv (keyOf_int_mk Try.underlying3 (wfI (x := (X : Int)) (by omega) (by omega))) _ [] (plainElem_bool Try.underlying4 V) ?_
  intro w' ho hgr
  refine hK w' ⟨_, ho, fun y g1 g2 => ?_, fun y hy => ?_⟩ hgr
  · unfold setF
    by_cases e : y = X
    · subst e
      rw [if_pos rfl, atKey_put_same hown.isMap]
      trivial
    · rw [if_neg e, atKey_put_other (by simpa using e), hf y g1 g2]
  · by_cases e : y = X
    · subst e; omega
    · rw [has_put_other (by simpa using e)] at hy
      exact hk y hy

/-- how many of the first 'N' keys that have come are true -/
def cntE (left : Lit → Bool) (f : Int → Bool) : Nat → Nat
  | 0 => 0
  | n + 1 => cntE left f n + if (!left (.int .i64 n) && f n) = true then 1 else 0
theorem cntE_le (left : Lit → Bool) (f : Int → Bool) : ∀ n, cntE left f n ≤ n
  | 0 => Nat.le_refl _
  | n + 1 => by have := cntE_le left f n; unfold cntE; split <;> omega
theorem cntE_step (left : Lit → Bool) (f : Int → Bool) (x : Nat) (hl : left (.int .i64 x) = true) : ∀ n, cntE (fun z => left z && !z.sameKey (.int .i64 x)) f n = cntE left f n + if x < n ∧ f x = true then 1 else 0
  | 0 => by simp [cntE]
  | n + 1 => by
    rw [cntE, cntE, cntE_step left f x hl n]
    by_cases e : n = x
    · subst e
      have hs : (Lit.int .i64 (n : Int)).sameKey (.int .i64 (n : Int)) = true := WideAt.sameKey_self trivial
      simp [hl, hs]
    · have hs : (Lit.int .i64 (n : Int)).sameKey (.int .i64 (x : Int)) = false := by
        rw [Bool.eq_false_iff]; intro h
        have := WideAt.sameKey_eq h
        simp only [Lit.int.injEq] at this
        omega
      have e2 : (x < n + 1) ↔ (x < n) := by omega
      simp only [hs, e2, Bool.not_false, Bool.and_true]
      omega
/-- before a key has come nothing is counted -/
theorem cntE_none (D : DataW Unit) (f : Int → Bool) (hf : ∀ x, -9223372036854775808 ≤ x → x ≤ 9223372036854775807 → D.atKey (.int .i64 x) (.lit (.bool false)) = .lit (.bool (f x))) : ∀ n : Nat, n ≤ 1000000 → cntE (has D) f n = 0
  | 0, _ => rfl
  | n + 1, h => by
    rw [cntE, cntE_none D f hf n (by omega)]
    cases hh : has D (.int .i64 (n : Int)) with
    | true => simp
    | false =>
      have h1 := hf n (by omega) (by omega)
      rw [atKey_of_not_has hh] at h1
      have h2 : f n = false := by simpa using h1.symm
      simp [h2]
end Go.Proofs.Ytbijdhdapejjhaa
