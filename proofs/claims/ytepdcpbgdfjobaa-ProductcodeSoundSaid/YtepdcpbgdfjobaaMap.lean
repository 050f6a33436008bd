/- A map from int to bool that the call made: read as a function. -/
import Derived.Maps.OwnOps
import Derived.Maps.OwnSet
import Derived.Maps.Views
import Derived.Test.YtepdcpbgdfjobaaCodes
namespace Go.Proofs.Ytepdcpbgdfjobaa
open Go.RowKit Go.Maps
set_option linter.unusedVariables false

theorem lawInt : Keyed Try.prog 3 := int_keyed Try.underlying3
theorem zeroBool : ∀ w, (zeroValue 4).run Try.prog w = .ok (.bool false) w := fun _ => by kernel_rfl
theorem wfI {x : Int} (h1 : -9223372036854775808 ≤ x) (h2 : x ≤ 9223372036854775807) : (Lit.int .i64 x).wf = true := by simp [Lit.wf, IntKind.min, IntKind.max, IntKind.signed, IntKind.bits]; omega
theorem plainElem_bool_inv {H : Type} {P : Program} {e : TypeId} (he : P.underlying e = some .bool) {v : Value} {z : DataW H × List MemPlace} (h : plainElem P e v = some z) : ∃ a, v = .bool a ∧ z = (.lit (.bool a), []) := by
  unfold plainElem at h
  rw [he] at h
  cases v <;> simp at h
  exact ⟨_, rfl, h.symm⟩

/-- block 'b' is a map of at most 'n' entries; at the int 'x' it reads 'f x' -/
def SetI (w : World) (b n : Nat) (f : Int → Bool) : Prop :=
  ∃ D : DataW Unit, w.ownsMap Try.prog 3 (plainElem Try.prog 4) b n D ∧ ∀ x, -9223372036854775808 ≤ x → x ≤ 9223372036854775807 → D.atKey (.int .i64 x) (.lit (.bool false)) = .lit (.bool (f x))
theorem SetI.made (w : World) : SetI (w.alloc (.map #[] 0)) w.heap.size 0 (fun _ => false) := ⟨.map [], World.ownsMap_made _ _ _ _, fun x _ _ => rfl⟩
theorem SetI.lt {w : World} {b n : Nat} {f : Int → Bool} (h : SetI w b n f) : b < w.heap.size := by
  obtain ⟨D, h, _⟩ := h; exact h.lt
theorem SetI.kept {w w' : World} {b n : Nat} {f : Int → Bool} (h : SetI w b n f) (hk : w'.heap[b]? = w.heap[b]?) : SetI w' b n f := by
  obtain ⟨D, ⟨es, clock, hb, F, hs, hD⟩, hf⟩ := h
  exact ⟨D, ⟨es, clock, hk.trans hb, F, hs, hD⟩, hf⟩
theorem SetI.below {w w' : World} {b n : Nat} {f : Int → Bool} (h : SetI w b n f) (hb : Below w.heap.size w w') : SetI w' b n f := h.kept (hb.block b h.lt)
theorem SetI.run {w : World} {b n : Nat} {f : Int → Bool} (h : SetI w b n f) (x : Int) (h1 : -9223372036854775808 ≤ x) (h2 : x ≤ 9223372036854775807) :
    (Instr.lookup 44 (.map (some b)) (.int .i64 x) false).run Try.prog w = .ok (.bool (f x)) w := by
  obtain ⟨D, hown, hf⟩ := h
  obtain ⟨v, ps, hrun, hv⟩ := hown.lookup lawInt Try.underlying44 (zeroBool w) (plainElem_bool Try.underlying4 false) (keyOf_int_mk Try.underlying3 (wfI h1 h2))
  obtain ⟨c, rfl, hc⟩ := plainElem_bool_inv Try.underlying4 hv
  simp only [Prod.mk.injEq] at hc
  rw [hf x h1 h2] at hc
  have : c = f x := by simpa using hc.1.symm
  rw [hrun, this]
theorem SetI.runD {w : World} {b n : Nat} {f : Int → Bool} (h : SetI w b n f) (x : Int) (h1 : -9223372036854775808 ≤ x) (h2 : x ≤ 9223372036854775807) (m : Nat) :
    (Instr.lookup 44 (.map (some b)) (.int .i64 x) false).run Try.prog (w.drewN m) = .ok (.bool (f x)) (w.drewN m) := SetI.run (SetI.kept (w' := w.drewN m) h rfl) x h1 h2
def setF (f : Int → Bool) (x : Int) (v : Bool) : Int → Bool := fun y => if y = x then v else f y
/-- 'm[x] = v' -/
theorem wpList_setI {w : World} {ops : Array Oper} {rest : List Oper} {o : Oper} {a : Act} {Q : Exit → Act → World → Prop}
    (hg : o.guard = none) (m x v : Operand) (hop : o.op = Op.mapUpdate 44 m x v) {b n : Nat} {f : Int → Bool} (hown : SetI w b n f) (hm : a.eval m = .map (some b)) {X : Int} (hx : a.eval x = .int .i64 X) {V : Bool} (hv : a.eval v = .bool V)
    (h1 : -9223372036854775808 ≤ X) (h2 : X ≤ 9223372036854775807) (hn : n < 1000000)
    (hK : ∀ w', SetI w' b (n + 1) (setF f X V) → w.grownBy w' (some b) → wpList Try.prog ops Q rest (a.put o.dst undef) w') : wpList Try.prog ops Q (o :: rest) a w := by
  obtain ⟨D, hown, hf⟩ := hown
  refine wpList_mapUpdate_own _ hg m x v 44 hop 3 4 lawInt Try.underlying44 _ b n D hm hown (by unfold maxLen; omega) _ _ _ hx hv (keyOf_int_mk Try.underlying3 (wfI h1 h2)) _ [] (plainElem_bool Try.underlying4 V) ?_
  intro w' ho hgr
  refine hK w' ⟨_, ho, fun y g1 g2 => ?_⟩ hgr
  unfold setF
  by_cases e : y = X
  · subst e
    rw [if_pos rfl, atKey_put_same hown.isMap]
    trivial
  · rw [if_neg e, atKey_put_other (by simpa using e), hf y g1 g2]
end Go.Proofs.Ytepdcpbgdfjobaa
