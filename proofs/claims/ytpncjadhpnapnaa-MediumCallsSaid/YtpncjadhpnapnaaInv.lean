/- A region that draws its order, by what is known of each operation's value: every operation is walked once. No program is named here. -/
import Derived.Test.YtpncjadhpnapnaaStep
namespace Go.Proofs.Ytpncjadhpnapnaa
open Go.RowKit
set_option linter.unusedVariables false

section
variable {P : Program} {Q : Exit → Act → World → Prop}
/-- no operation writes this slot -/
def freeB (l : List Oper) (t : Tmp) : Bool := l.all fun o => o.dst != some t
/-- an operation, and what it leans on -/
def StepI (P : Program) (Q : Exit → Act → World → Prop) (C : World → Prop) (V : Nat → Value → World → Prop) (l : List Oper) (a0 : Act) (i : Nat) (o : Oper) : Prop :=
  ∀ a w, C w → a.tmps.size = a0.tmps.size → (∀ t, freeB l t = true → a.tmps.getD t undef = a0.tmps.getD t undef) →
    (∀ k, (o.after.toList.any fun e => e.on == k && Region.binds .any e) = true → ∀ (ok : Oper) (t : Tmp), l[k]? = some ok → ok.dst = some t → V k (a.tmps.getD t undef) w) →
    o.wp P a w (fun a' w' => ∃ v, a' = a.put o.dst v ∧ Below w.heap.size w w' ∧ V i v w') Q
def StepsI (P : Program) (Q : Exit → Act → World → Prop) (C : World → Prop) (V : Nat → Value → World → Prop) (l : List Oper) (a0 : Act) : Nat → List Oper → Prop
  | _, [] => True
  | i, o :: r => StepI P Q C V l a0 i o ∧ StepsI P Q C V l a0 (i + 1) r
theorem StepsI.at {C : World → Prop} {V : Nat → Value → World → Prop} {l : List Oper} {a0 : Act} : ∀ {i : Nat} {r : List Oper}, StepsI P Q C V l a0 i r → ∀ {j : Nat} {o : Oper}, r[j]? = some o → StepI P Q C V l a0 (i + j) o
  | i, [], _, j, o, h => by simp at h
  | i, x :: r, h, 0, o, ho => by
    have : x = o := by simpa using ho
    subst this; exact h.1
  | i, x :: r, h, j + 1, o, ho => by
    have := StepsI.at h.2 (j := j) (o := o) (by simpa using ho)
    rwa [Nat.add_assoc, Nat.add_comm 1 j] at this
/-- the region's form: no guards, edges back, slots apart -/
def formB (l : List Oper) (n : Nat) : Bool :=
  (List.range l.length).all (fun i => ((l[i]?).map fun o => o.guard.isNone && o.after.toList.all (fun e => Nat.blt e.on i) && (match o.dst with | some t => Nat.blt t n | none => true)).getD true) &&
  decide ((l.filterMap (·.dst)).Nodup)
theorem form_spec {l : List Oper} {n : Nat} (h : formB l n = true) : (∀ (i : Nat) (o : Oper), l[i]? = some o → o.guard = none ∧ (∀ e ∈ o.after, e.on < i) ∧ ∀ t, o.dst = some t → t < n) ∧
    ∀ (i j : Nat) (oi oj : Oper) (t : Tmp), l[i]? = some oi → l[j]? = some oj → oi.dst = some t → oj.dst = some t → i = j := by
  unfold formB at h
  rw [Bool.and_eq_true] at h
  obtain ⟨h1, h2⟩ := h
  refine ⟨fun i o ho => ?_, ?_⟩
  · have hi := (List.getElem?_eq_some_iff.1 ho).1
    have := List.all_eq_true.1 h1 i (List.mem_range.2 hi)
    rw [ho] at this
    simp only [Option.map_some, Option.getD_some, Bool.and_eq_true, Option.isNone_iff_eq_none] at this
    obtain ⟨⟨g1, g2⟩, g3⟩ := this
    refine ⟨g1, fun e he => ?_, fun t ht => ?_⟩
    · have := List.all_eq_true.1 g2 e (Array.mem_toList_iff.2 he)
      exact Nat.blt_eq ▸ this
    · rw [ht] at g3; exact Nat.blt_eq ▸ g3
  · have hn := of_decide_eq_true h2
    clear h1 h2
    induction l with
    | nil => intro i j oi oj t h; simp at h
    | cons x r ih =>
      intro i j oi oj t hi hj hti htj
      have hnr : (r.filterMap (·.dst)).Nodup := by
        cases hx : x.dst with
        | none => simpa [List.filterMap_cons, hx] using hn
        | some u => simp only [List.filterMap_cons, hx] at hn; exact (List.nodup_cons.1 hn).2
      have hx0 : ∀ (k : Nat) (ok : Oper), r[k]? = some ok → ok.dst = some t → x.dst ≠ some t := fun k ok hk hd hx => by
        simp only [List.filterMap_cons, hx] at hn
        exact (List.nodup_cons.1 hn).1 (List.mem_filterMap.2 ⟨ok, List.mem_of_getElem? hk, hd⟩)
      cases i with
      | zero =>
        cases j with
        | zero => rfl
        | succ j =>
          have e : x = oi := by simpa using hi
          subst e
          exact absurd hti (hx0 j oj (by simpa using hj) htj)
      | succ i =>
        cases j with
        | zero =>
          have e : x = oj := by simpa using hj
          subst e
          exact absurd htj (hx0 i oi (by simpa using hi) hti)
        | succ j =>
          have := ih hnr i j oi oj t (by simpa using hi) (by simpa using hj) hti htj
          omega
theorem stepVal {V : Nat → Value → World → Prop} {i : Nat} {o : Oper} {a : Act} {w : World} {v : Value} (hv : V i v w) (h : ∀ K : Act → World → Prop, K (a.put o.dst v) w → o.wp P a w K Q) :
    o.wp P a w (fun a' w' => ∃ v, a' = a.put o.dst v ∧ Below w.heap.size w w' ∧ V i v w') Q := h _ ⟨v, rfl, Below.refl _ _, hv⟩
theorem stepCall {V : Nat → Value → World → Prop} {i : Nat} {o : Oper} {a : Act} {w : World} {v : Value} (hv : ∀ w', V i v w') (h : ∀ K : Act → World → Prop, (∀ w', Below w.heap.size w w' → K (a.put o.dst v) w') → o.wp P a w K Q) :
    o.wp P a w (fun a' w' => ∃ v, a' = a.put o.dst v ∧ Below w.heap.size w w' ∧ V i v w') Q := h _ fun w' hb => ⟨v, rfl, hb, hv w'⟩
theorem stepNew {V : Nat → Value → World → Prop} {i : Nat} {o : Oper} {a : Act} {w w' : World} {v : Value} (hb : Below w.heap.size w w') (hv : V i v w') (h : ∀ K : Act → World → Prop, K (a.put o.dst v) w' → o.wp P a w K Q) :
    o.wp P a w (fun a' w' => ∃ v, a' = a.put o.dst v ∧ Below w.heap.size w w' ∧ V i v w') Q := h _ ⟨v, rfl, hb, hv⟩
theorem arr_eq (tm : Array Value) (n : Nat) (h : tm.size = n) : tm = ((List.range n).map fun i => tm.getD i undef).toArray := by
  apply Array.ext
  · simp [h]
  · intro i h1 h2
    simp [Array.getD, h1]
/-- where the region stands -/
structure Okay (l : List Oper) (C : World → Prop) (V : Nat → Value → World → Prop) (a0 : Act) (listed : Array Bool) (a : Act) (w : World) : Prop where
  c : C w
  defers : a.defers = a0.defers
  size : a.tmps.size = a0.tmps.size
  old : ∀ t, freeB l t = true → a.tmps.getD t undef = a0.tmps.getD t undef
  val : ∀ (i : Nat) (o : Oper) (t : Tmp), l[i]? = some o → listed.getD i false = true → o.dst = some t → V i (a.tmps.getD t undef) w
/-- how many are left -/
def left (n : Nat) (listed : Array Bool) : Nat := ((List.range n).filter fun i => !listed.getD i true).length
theorem left_set {n i : Nat} {listed : Array Bool} (hn : listed.size = n) (hi : listed.getD i true = false) : left n (listed.setIfInBounds i true) < left n listed := by
  unfold left
  have hil : i < listed.size := by
    rcases Nat.lt_or_ge i listed.size with h | h
    · exact h
    · simp [Array.getD, Nat.not_lt.2 h] at hi
  have e : (List.range n).filter (fun j => !(listed.setIfInBounds i true).getD j true) = ((List.range n).filter fun j => !listed.getD j true).filter (fun j => decide (j ≠ i)) := by
    rw [List.filter_filter]
    refine List.filter_congr fun j hj => ?_
    by_cases hji : i = j
    · subst hji; simp [hil]
    · rw [getD_set_ne true hji]; simp [Ne.symm hji]
  rw [e]
  refine List.length_filter_lt_length_iff_exists.2 ⟨i, List.mem_filter.2 ⟨List.mem_range.2 (by omega), by simp [hi]⟩, by simp⟩
theorem ready_nil {l : List Oper} {n : Nat} (hf : formB l n = true) {listed : Array Bool} (hs : listed.size = l.length) (h : Region.ready .any l.toArray listed = []) : ∀ i, i < l.length → listed.getD i false = true := by
  intro i
  induction i using Nat.strongRecOn with
  | ind i ih =>
    intro hi
    obtain ⟨o, ho⟩ : ∃ o, l[i]? = some o := ⟨l[i], List.getElem?_eq_getElem hi⟩
    have hsp := (form_spec hf).1 i o ho
    rcases hb : listed.getD i true with _ | _
    · have : i ∈ Region.ready .any l.toArray listed := mem_ready.2 ⟨hb, o, by simpa using ho, fun e he _ => ih e.on (hsp.2.1 e he) (by have := hsp.2.1 e he; omega)⟩
      rw [h] at this; cases this
    · have : i < listed.size := by omega
      simp only [Array.getD, this, dif_pos] at hb ⊢
      exact hb
theorem put_getD_same {a : Act} {t : Tmp} {v : Value} (h : t < a.tmps.size) : (a.put (some t) v).tmps.getD t undef = v := by
  simp [Act.put, Array.getD, h]
theorem put_getD_other {a : Act} {d : Option Tmp} {t : Tmp} {v : Value} (h : d ≠ some t) : (a.put d v).tmps.getD t undef = a.tmps.getD t undef := by
  cases d with
  | none => rfl
  | some d =>
    have hne : d ≠ t := fun e => h (by rw [e])
    simp [Act.put, Array.getElem?_setIfInBounds_ne hne]
theorem put_size {a : Act} {d : Option Tmp} {v : Value} : (a.put d v).tmps.size = a.tmps.size := by
  cases d <;> simp [Act.put]
theorem put_defers {a : Act} {d : Option Tmp} {v : Value} : (a.put d v).defers = a.defers := by
  cases d <;> simp [Act.put]
theorem getD_set_cases {listed : Array Bool} {i j : Nat} (h : (listed.setIfInBounds i true).getD j false = true) : j = i ∨ listed.getD j false = true := by
  by_cases e : j = i
  · exact .inl e
  · rw [getD_set_ne false (Ne.symm e)] at h; exact .inr h

theorem wpAny_inv {l : List Oper} {C : World → Prop} {V : Nat → Value → World → Prop} {a0 : Act} (hf : formB l a0.tmps.size = true)
    (hC : ∀ w w', Below w.heap.size w w' → C w → C w') (hV : ∀ i v w w', Below w.heap.size w w' → V i v w → V i v w')
    (hstep : StepsI P Q C V l a0 0 l)
    (hend : ∀ a w, C w → a.defers = a0.defers → a.tmps.size = a0.tmps.size → (∀ t, freeB l t = true → a.tmps.getD t undef = a0.tmps.getD t undef) →
      (∀ (i : Nat) (o : Oper) (t : Tmp), l[i]? = some o → o.dst = some t → V i (a.tmps.getD t undef) w) → Q .normal a w) :
    ∀ (fuel : Nat) (listed : Array Bool) (a : Act) (w : World), listed.size = l.length → left l.length listed ≤ fuel → Okay l C V a0 listed a w → wpAny P .any l.toArray Q fuel listed a w := by
  have hfin : ∀ (listed : Array Bool) (a : Act) (w : World), listed.size = l.length → Okay l C V a0 listed a w → Region.ready .any l.toArray listed = [] → Q .normal a w := fun listed a w hs hok hr =>
    hend a w hok.c hok.defers hok.size hok.old fun i o t ho ht => hok.val i o t ho (ready_nil hf hs hr i (List.getElem?_eq_some_iff.1 ho).1) ht
  intro fuel
  induction fuel with
  | zero =>
    intro listed a w hs hle hok
    have hr : Region.ready .any l.toArray listed = [] := by
      rcases hq : Region.ready .any l.toArray listed with _ | ⟨i, r⟩
      · rfl
      · have hi : i ∈ Region.ready .any l.toArray listed := by rw [hq]; exact List.mem_cons_self ..
        have := left_set hs (mem_ready.1 hi).1
        omega
    exact ⟨hr, hfin listed a w hs hok hr⟩
  | succ fuel ih =>
    intro listed a w hs hle hok
    refine ⟨hfin listed a w hs hok, fun i hi => ?_⟩
    obtain ⟨hun, o, ho, hall⟩ := mem_ready.1 hi
    have hol : l[i]? = some o := by simpa using ho
    obtain ⟨hg, _, hlt⟩ := (form_spec hf).1 i o hol
    have hst := hstep.at hol
    rw [Nat.zero_add] at hst
    have h1 := hst a w hok.c hok.size hok.old fun k hk ok t hkl hkt => by
      rw [List.any_eq_true] at hk
      obtain ⟨e, he, hb⟩ := hk
      rw [Bool.and_eq_true] at hb
      have hek : e.on = k := by simpa using hb.1
      exact hok.val k ok t hkl (by rw [← hek]; exact hall e (Array.mem_toList_iff.1 he) hb.2) hkt
    unfold wpOp
    simp only [ho]
    rw [if_pos (by simp [Region.wanted, hg])]
    refine .inl (Oper.wp_mono ?_ h1)
    rintro a' w' ⟨v, rfl, hb, hv⟩
    refine ih _ _ _ (by simpa using hs) (by have := left_set hs hun; omega) ⟨hC _ _ hb hok.c, by rw [put_defers]; exact hok.defers, by rw [put_size]; exact hok.size, fun t ht => ?_, fun j oj t hoj hlj hjt => ?_⟩
    · have hne : o.dst ≠ some t := by
        have := List.all_eq_true.1 ht o (List.mem_of_getElem? hol)
        simpa using this
      rw [put_getD_other hne]; exact hok.old t ht
    · rcases getD_set_cases hlj with rfl | hlj
      · obtain rfl : o = oj := by rw [hol] at hoj; exact Option.some.inj hoj
        rw [hjt, put_getD_same (by rw [hok.size]; exact hlt t hjt)]
        exact hv
      · have hji : o.dst ≠ some t := fun hd => by
          have := (form_spec hf).2 i j o oj t hol hoj hd hjt
          subst this
          have hil : i < listed.size := by rw [hs]; exact (List.getElem?_eq_some_iff.1 hol).1
          simp only [Array.getD, hil, dif_pos] at hun hlj
          rw [hun] at hlj; cases hlj
        rw [put_getD_other hji]
        exact hV j _ w w' hb (hok.val j oj t hoj hlj hjt)
/-- a region that draws its order, every operation alone -/
theorem wp_region_inv {id : Nat} {l : List Oper} {a0 : Act} {w : World} (hm : P.follows .mixedOrders = true) (C : World → Prop) (V : Nat → Value → World → Prop) (hf : formB l a0.tmps.size = true)
    (hC : ∀ w w', Below w.heap.size w w' → C w → C w') (hV : ∀ i v w w', Below w.heap.size w w' → V i v w → V i v w') (h0 : C w.drew)
    (hstep : StepsI P Q C V l a0 0 l)
    (hend : ∀ a w, C w → a.defers = a0.defers → a.tmps.size = a0.tmps.size → (∀ t, freeB l t = true → a.tmps.getD t undef = a0.tmps.getD t undef) →
      (∀ (i : Nat) (o : Oper) (t : Tmp), l[i]? = some o → o.dst = some t → V i (a.tmps.getD t undef) w) → Q .normal a w) : (Code.region id l.toArray true).wp P Q a0 w := by
  refine wp_region_any hm ?_
  have hn : (Array.replicate l.toArray.size false).size = l.length := by simp
  refine wpAny_inv hf hC hV hstep hend _ _ _ _ hn ?_ ⟨h0, rfl, rfl, fun t _ => rfl, fun i o t ho hl _ => ?_⟩
  · have := List.length_filter_le (fun i => !(Array.replicate l.toArray.size false).getD i true) (List.range l.length)
    unfold left
    simpa using this
  · exfalso
    have hi := (List.getElem?_eq_some_iff.1 ho).1
    simp [Array.getD, hi] at hl
end
end Go.Proofs.Ytpncjadhpnapnaa
