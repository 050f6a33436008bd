/- A region that draws its order, in a round of a range over a function: as XInr. No program is named here. -/
import Derived.OrdersIn
import Derived.RangeFuncCalls
import Derived.Test.YtepdcpbgdfjobaaInr
namespace Go.Proofs.Ytepdcpbgdfjobaa
open Go Go.RowKit
set_option linter.unusedVariables false

section
variable {P : Program} {Q : Exit → Act → World → Prop} {n l₀ : Nat}
def plainOp (o : Oper) : Bool := match o.op with
  | .defer _ => false
  | _ => true
theorem plainOp_ne {o : Oper} (h : plainOp o = true) : ∀ c, o.op ≠ .defer c := fun c e => by simp [plainOp, e] at h
theorem callsIn_round {f : FuncId} {args : Array Value} {w : World} {R : Ending → World → Prop} (h : Calls P f args w R) : CallsIn (Fence.wide.inRound l₀) n P f args w R := CallsIn.inRound l₀ (callsIn_wide.2 h)
/-- an operation of a round is carried out as everywhere, if it defers nothing -/
theorem oper_in {o : Oper} {a : Act} {w : World} {K : Act → World → Prop} (hd : plainOp o = true) (h : o.wp P a w K Q) : o.wpIn (Fence.wide.inRound l₀) n P a w K Q := by
  refine ⟨fun _ _ => trivial, ?_⟩
  have e : o.semAt (Fence.wide.inRound l₀).round a.eval = execOp a.eval o := Oper.semAt_some l₀ _ o (plainOp_ne hd)
  rw [e]
  unfold Oper.wp at h
  generalize (execOp a.eval o).run P w = r at *
  cases r with
  | ok x w' =>
    cases x with
    | value v => exact h
    | skip => exact h
    | defer d => exact h
    | enter f args => exact ⟨fun hh => (by cases hh), callsIn_round h⟩
    | row r args => exact ⟨fun hh => (by cases hh), fun c cs _ => let ⟨v, w'', hR, hs⟩ := h c cs; ⟨v, w'', hR, stepsIn_wide.2 hs⟩⟩
    | _ => exact h.elim
  | halt x w' =>
    cases x <;> exact h
theorem plainOps_at {l : List Oper} (h : l.all plainOp = true) {i : Nat} {o : Oper} (ho : l[i]? = some o) : plainOp o = true := List.all_eq_true.1 h o (List.mem_of_getElem? ho)

/-- the walk of every order, in a round -/
theorem wpAny_in {l : List Oper} (hd : l.all plainOp = true) (hQ : ¬ LetsOut Q) : ∀ (fuel : Nat) (listed : Array Bool) (a : Act) (w : World), wpAny P .any l.toArray Q fuel listed a w → wpAnyIn (Fence.wide.inRound l₀) n P .any l.toArray Q fuel listed a w
  | 0, listed, a, w, h => h
  | fuel + 1, listed, a, w, h => by
    refine ⟨h.1, fun i hi => ?_⟩
    have h2 := h.2 i hi
    unfold wpOp at h2
    unfold wpOpIn
    cases ho : l.toArray[i]? with
    | none =>
      rw [ho] at h2
      exact wpAny_in hd hQ fuel _ a w h2
    | some o =>
      rw [ho] at h2
      simp only at h2 ⊢
      by_cases hw : Region.wanted o (yielded l.toArray a.tmps) = true
      · rw [if_pos hw] at h2 ⊢
        rcases h2 with h2 | ⟨_, h2⟩
        · exact oper_in (plainOps_at hd (by simpa using ho)) (Oper.wp_mono (fun a w => wpAny_in hd hQ fuel _ a w) h2)
        · exact (hQ h2).elim
      · rw [if_neg hw] at h2 ⊢
        exact ⟨fun _ _ => trivial, wpAny_in hd hQ fuel _ _ w h2⟩

/-- 'wp_region_inr' in a round -/
theorem wpIn_region_inr {id : Nat} {l : List Oper} {a0 : Act} {w : World} (hQ : ¬ LetsOut Q) (hd : l.all plainOp = true) (hm : P.follows .mixedOrders = true) (R : World → World → Prop) (C : World → Prop) (V : Nat → Value → World → Prop) (sk : Nat → Bool) (hf : formR l a0.tmps.size = true)
    (hC : ∀ w w', R w w' → C w → C w') (hV : ∀ i v w w', R w w' → V i v w → V i v w') (h0 : C w.drew)
    (hstep : StepsR P Q R C V sk l a0 0 l)
    (hend : ∀ a w, C w → a.defers = a0.defers → a.tmps.size = a0.tmps.size → (∀ t, freeB l t = true → a.tmps.getD t undef = a0.tmps.getD t undef) →
      (∀ (i : Nat) (o : Oper), l[i]? = some o → sk i = false → V i (slotV o.dst a) w) → Q .normal a w) : (Code.region id l.toArray true).wpIn (Fence.wide.inRound l₀) n P Q a0 w := by
  refine wpIn_region_any hm (wpAny_in hd hQ _ _ _ _ ?_)
  have hn : (Array.replicate l.toArray.size false).size = l.length := by simp
  refine wpAny_inr hf hC hV hstep hend _ _ _ _ hn ?_ ⟨h0, rfl, rfl, fun t _ => rfl, fun i o ho _ hl => ?_⟩
  · have := List.length_filter_le (fun i => !(Array.replicate l.toArray.size false).getD i true) (List.range l.length)
    unfold left
    simpa using this
  · exfalso
    have hi := (List.getElem?_eq_some_iff.1 ho).1
    simp [Array.getD, hi] at hl
end
end Go.Proofs.Ytepdcpbgdfjobaa
