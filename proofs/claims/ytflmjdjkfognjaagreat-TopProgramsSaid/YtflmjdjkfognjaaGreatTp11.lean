/- Shaken out of XInv XInr -/
import Derived.Test.YtflmjdjkfognjaaGreatTp10
namespace Go.Proofs.YtflmjdjkfognjaaGreat
open Go.RowKit
set_option linter.unusedVariables false
section
variable {P : Program} {Q : Exit → Act → World → Prop}
/-- no operation writes this slot -/
def freeB (l : List Oper) (t : Tmp) : Bool := l.all fun o => o.dst != some t
/-- an operation, and what it leans on -/
def StepI (P : Program) (Q : Exit → Act → World → Prop) (C : World → Prop) (V : Nat → Value → World → Prop) (l : List Oper) (a0 : Act) (i : Nat) (o : Oper) : Prop :=
  ∀ a w, C w → a.tmps.size = a0.tmps.size → (∀ t, freeB l t = true → a.tmps.getD t undef = a0.tmps.getD t undef) →
    (∀ k, (o.after.toList.any fun e => e.on == k && Region.binds .any e) = true → ∀ (ok : Oper) (t : Tmp), l[k]? = some ok → ok.dst = some t → V k (a.tmps.getD t undef) w) →
    o.wp P a w (fun a' w' => ∃ v, a' = a.put o.dst v ∧ Below w.heap.size w w' ∧ V i v w') Q
def StepsI (P : Program) (Q : Exit → Act → World → Prop) (C : World → Prop) (V : Nat → Value → World → Prop) (l : List Oper) (a0 : Act) : Nat → List Oper → Prop
  | _, [] => True
  | i, o :: r => StepI P Q C V l a0 i o ∧ StepsI P Q C V l a0 (i + 1) r
theorem StepsI.at {C : World → Prop} {V : Nat → Value → World → Prop} {l : List Oper} {a0 : Act} : ∀ {i : Nat} {r : List Oper}, StepsI P Q C V l a0 i r → ∀ {j : Nat} {o : Oper}, r[j]? = some o → StepI P Q C V l a0 (i + j) o
  | i, [], _, j, o, h => by simp at h
  | i, x :: r, h, 0, o, ho => by
    have : x = o := by simpa using ho
    subst this; exact h.1
  | i, x :: r, h, j + 1, o, ho => by
    have := StepsI.at h.2 (j := j) (o := o) (by simpa using ho)
    rwa [Nat.add_assoc, Nat.add_comm 1 j] at this
/-- the region's form: no guards, edges back, slots apart -/
def formB (l : List Oper) (n : Nat) : Bool :=
  (List.range l.length).all (fun i => ((l[i]?).map fun o => o.guard.isNone && o.after.toList.all (fun e => Nat.blt e.on i) && (match o.dst with | some t => Nat.blt t n | none => true)).getD true) &&
  decide ((l.filterMap (·.dst)).Nodup)
theorem form_spec {l : List Oper} {n : Nat} (h : formB l n = true) : (∀ (i : Nat) (o : Oper), l[i]? = some o → o.guard = none ∧ (∀ e ∈ o.after, e.on < i) ∧ ∀ t, o.dst = some t → t < n) ∧
    ∀ (i j : Nat) (oi oj : Oper) (t : Tmp), l[i]? = some oi → l[j]? = some oj → oi.dst = some t → oj.dst = some t → i = j := by
  unfold formB at h
  rw [Bool.and_eq_true] at h
  obtain ⟨h1, h2⟩ := h
  refine ⟨fun i o ho => ?_, ?_⟩
  · have hi := (List.getElem?_eq_some_iff.1 ho).1
    have := List.all_eq_true.1 h1 i (List.mem_range.2 hi)
    rw [ho] at this
    simp only [Option.map_some, Option.getD_some, Bool.and_eq_true, Option.isNone_iff_eq_none] at this
    obtain ⟨⟨g1, g2⟩, g3⟩ := this
    refine ⟨g1, fun e he => ?_, fun t ht => ?_⟩
    · have := List.all_eq_true.1 g2 e (Array.mem_toList_iff.2 he)
      exact Nat.blt_eq ▸ this
    · rw [ht] at g3; exact Nat.blt_eq ▸ g3
  · have hn := of_decide_eq_true h2
    clear h1 h2
    induction l with
    | nil => intro i j oi oj t h; simp at h
    | cons x r ih =>
      intro i j oi oj t hi hj hti htj
      have hnr : (r.filterMap (·.dst)).Nodup := by
        cases hx : x.dst with
        | none => simpa [List.filterMap_cons, hx] using hn
        | some u => simp only [List.filterMap_cons, hx] at hn; exact (List.nodup_cons.1 hn).2
      have hx0 : ∀ (k : Nat) (ok : Oper), r[k]? = some ok → ok.dst = some t → x.dst ≠ some t := fun k ok hk hd hx => by
        simp only [List.filterMap_cons, hx] at hn
        exact (List.nodup_cons.1 hn).1 (List.mem_filterMap.2 ⟨ok, List.mem_of_getElem? hk, hd⟩)
      cases i with
      | zero =>
        cases j with
        | zero => rfl
        | succ j =>
          have e : x = oi := by simpa using hi
          subst e
          exact absurd hti (hx0 j oj (by simpa using hj) htj)
      | succ i =>
        cases j with
        | zero =>
          have e : x = oj := by simpa using hj
          subst e
          exact absurd htj (hx0 i oi (by simpa using hi) hti)
        | succ j =>
          have := ih hnr i j oi oj t (by simpa using hi) (by simpa using hj) hti htj
          omega
theorem stepVal {V : Nat → Value → World → Prop} {i : Nat} {o : Oper} {a : Act} {w : World} {v : Value} (hv : V i v w) (h : ∀ K : Act → World → Prop, K (a.put o.dst v) w → o.wp P a w K Q) :
    o.wp P a w (fun a' w' => ∃ v, a' = a.put o.dst v ∧ Below w.heap.size w w' ∧ V i v w') Q := h _ ⟨v, rfl, Below.refl _ _, hv⟩
theorem stepCall {V : Nat → Value → World → Prop} {i : Nat} {o : Oper} {a : Act} {w : World} {v : Value} (hv : ∀ w', V i v w') (h : ∀ K : Act → World → Prop, (∀ w', Below w.heap.size w w' → K (a.put o.dst v) w') → o.wp P a w K Q) :
    o.wp P a w (fun a' w' => ∃ v, a' = a.put o.dst v ∧ Below w.heap.size w w' ∧ V i v w') Q := h _ fun w' hb => ⟨v, rfl, hb, hv w'⟩
theorem stepNew {V : Nat → Value → World → Prop} {i : Nat} {o : Oper} {a : Act} {w w' : World} {v : Value} (hb : Below w.heap.size w w') (hv : V i v w') (h : ∀ K : Act → World → Prop, K (a.put o.dst v) w' → o.wp P a w K Q) :
    o.wp P a w (fun a' w' => ∃ v, a' = a.put o.dst v ∧ Below w.heap.size w w' ∧ V i v w') Q := h _ ⟨v, rfl, hb, hv⟩
theorem arr_eq (tm : Array Value) (n : Nat) (h : tm.size = n) : tm = ((List.range n).map fun i => tm.getD i undef).toArray := by
  apply Array.ext
  · simp [h]
  · intro i h1 h2
    simp [Array.getD, h1]
/-- where the region stands -/
structure Okay (l : List Oper) (C : World → Prop) (V : Nat → Value → World → Prop) (a0 : Act) (listed : Array Bool) (a : Act) (w : World) : Prop where
  c : C w
  defers : a.defers = a0.defers
  size : a.tmps.size = a0.tmps.size
  old : ∀ t, freeB l t = true → a.tmps.getD t undef = a0.tmps.getD t undef
  val : ∀ (i : Nat) (o : Oper) (t : Tmp), l[i]? = some o → listed.getD i false = true → o.dst = some t → V i (a.tmps.getD t undef) w
/-- how many are left -/
def left (n : Nat) (listed : Array Bool) : Nat := ((List.range n).filter fun i => !listed.getD i true).length
theorem left_set {n i : Nat} {listed : Array Bool} (hn : listed.size = n) (hi : listed.getD i true = false) : left n (listed.setIfInBounds i true) < left n listed := by
  unfold left
  have hil : i < listed.size := by
    rcases Nat.lt_or_ge i listed.size with h | h
    · exact h
    · simp [Array.getD, Nat.not_lt.2 h] at hi
  have e : (List.range n).filter (fun j => !(listed.setIfInBounds i true).getD j true) = ((List.range n).filter fun j => !listed.getD j true).filter (fun j => decide (j ≠ i)) := by
    rw [List.filter_filter]
    refine List.filter_congr fun j hj => ?_
    by_cases hji : i = j
    · subst hji; simp [hil]
    · rw [getD_set_ne true hji]; simp [Ne.symm hji]
  rw [e]
  refine List.length_filter_lt_length_iff_exists.2 ⟨i, List.mem_filter.2 ⟨List.mem_range.2 (by omega), by simp [hi]⟩, by simp⟩
theorem ready_nil {l : List Oper} {n : Nat} (hf : formB l n = true) {listed : Array Bool} (hs : listed.size = l.length) (h : Region.ready .any l.toArray listed = []) : ∀ i, i < l.length → listed.getD i false = true := by
  intro i
  induction i using Nat.strongRecOn with
  | ind i ih =>
    intro hi
    obtain ⟨o, ho⟩ : ∃ o, l[i]? = some o := ⟨l[i], List.getElem?_eq_getElem hi⟩
    have hsp := (form_spec hf).1 i o ho
    rcases hb : listed.getD i true with _ | _
    · have : i ∈ Region.ready .any l.toArray listed := mem_ready.2 ⟨hb, o, by simpa using ho, fun e he _ => ih e.on (hsp.2.1 e he) (by have := hsp.2.1 e he; omega)⟩
      rw [h] at this; cases this
    · have : i < listed.size := by omega
      simp only [Array.getD, this, dif_pos] at hb ⊢
      exact hb
theorem put_getD_same {a : Act} {t : Tmp} {v : Value} (h : t < a.tmps.size) : (a.put (some t) v).tmps.getD t undef = v := by
  simp [Act.put, Array.getD, h]
theorem put_getD_other {a : Act} {d : Option Tmp} {t : Tmp} {v : Value} (h : d ≠ some t) : (a.put d v).tmps.getD t undef = a.tmps.getD t undef := by
  cases d with
  | none => rfl
  | some d =>
    have hne : d ≠ t := fun e => h (by rw [e])
    simp [Act.put, Array.getElem?_setIfInBounds_ne hne]
theorem put_size {a : Act} {d : Option Tmp} {v : Value} : (a.put d v).tmps.size = a.tmps.size := by
  cases d <;> simp [Act.put]
theorem put_defers {a : Act} {d : Option Tmp} {v : Value} : (a.put d v).defers = a.defers := by
  cases d <;> simp [Act.put]
theorem getD_set_cases {listed : Array Bool} {i j : Nat} (h : (listed.setIfInBounds i true).getD j false = true) : j = i ∨ listed.getD j false = true := by
  by_cases e : j = i
  · exact .inl e
  · rw [getD_set_ne false (Ne.symm e)] at h; exact .inr h
theorem wpAny_inv {l : List Oper} {C : World → Prop} {V : Nat → Value → World → Prop} {a0 : Act} (hf : formB l a0.tmps.size = true)
    (hC : ∀ w w', Below w.heap.size w w' → C w → C w') (hV : ∀ i v w w', Below w.heap.size w w' → V i v w → V i v w')
    (hstep : StepsI P Q C V l a0 0 l)
    (hend : ∀ a w, C w → a.defers = a0.defers → a.tmps.size = a0.tmps.size → (∀ t, freeB l t = true → a.tmps.getD t undef = a0.tmps.getD t undef) →
      (∀ (i : Nat) (o : Oper) (t : Tmp), l[i]? = some o → o.dst = some t → V i (a.tmps.getD t undef) w) → Q .normal a w) :
    ∀ (fuel : Nat) (listed : Array Bool) (a : Act) (w : World), listed.size = l.length → left l.length listed ≤ fuel → Okay l C V a0 listed a w → wpAny P .any l.toArray Q fuel listed a w := by
  have hfin : ∀ (listed : Array Bool) (a : Act) (w : World), listed.size = l.length → Okay l C V a0 listed a w → Region.ready .any l.toArray listed = [] → Q .normal a w := fun listed a w hs hok hr =>
    hend a w hok.c hok.defers hok.size hok.old fun i o t ho ht => hok.val i o t ho (ready_nil hf hs hr i (List.getElem?_eq_some_iff.1 ho).1) ht
  intro fuel
  induction fuel with
  | zero =>
    intro listed a w hs hle hok
    have hr : Region.ready .any l.toArray listed = [] := by
      rcases hq : Region.ready .any l.toArray listed with _ | ⟨i, r⟩
      · rfl
      · have hi : i ∈ Region.ready .any l.toArray listed := by rw [hq]; exact List.mem_cons_self ..
        have := left_set hs (mem_ready.1 hi).1
        omega
    exact ⟨hr, hfin listed a w hs hok hr⟩
  | succ fuel ih =>
    intro listed a w hs hle hok
    refine ⟨hfin listed a w hs hok, fun i hi => ?_⟩
    obtain ⟨hun, o, ho, hall⟩ := mem_ready.1 hi
    have hol : l[i]? = some o := by simpa using ho
    obtain ⟨hg, _, hlt⟩ := (form_spec hf).1 i o hol
    have hst := hstep.at hol
    rw [Nat.zero_add] at hst
    have h1 := hst a w hok.c hok.size hok.old fun k hk ok t hkl hkt => by
      rw [List.any_eq_true] at hk
      obtain ⟨e, he, hb⟩ := hk
      rw [Bool.and_eq_true] at hb
      have hek : e.on = k := by simpa using hb.1
      exact hok.val k ok t hkl (by rw [← hek]; exact hall e (Array.mem_toList_iff.1 he) hb.2) hkt
    unfold wpOp
    simp only [ho]
    rw [if_pos (by simp [Region.wanted, hg])]
    refine .inl (Oper.wp_mono ?_ h1)
    rintro a' w' ⟨v, rfl, hb, hv⟩
    refine ih _ _ _ (by simpa using hs) (by have := left_set hs hun; omega) ⟨hC _ _ hb hok.c, by rw [put_defers]; exact hok.defers, by rw [put_size]; exact hok.size, fun t ht => ?_, fun j oj t hoj hlj hjt => ?_⟩
    · have hne : o.dst ≠ some t := by
        have := List.all_eq_true.1 ht o (List.mem_of_getElem? hol)
        simpa using this
      rw [put_getD_other hne]; exact hok.old t ht
    · rcases getD_set_cases hlj with rfl | hlj
      · obtain rfl : o = oj := by rw [hol] at hoj; exact Option.some.inj hoj
        rw [hjt, put_getD_same (by rw [hok.size]; exact hlt t hjt)]
        exact hv
      · have hji : o.dst ≠ some t := fun hd => by
          have := (form_spec hf).2 i j o oj t hol hoj hd hjt
          subst this
          have hil : i < listed.size := by rw [hs]; exact (List.getElem?_eq_some_iff.1 hol).1
          simp only [Array.getD, hil, dif_pos] at hun hlj
          rw [hun] at hlj; cases hlj
        rw [put_getD_other hji]
        exact hV j _ w w' hb (hok.val j oj t hoj hlj hjt)
/-- a region that draws its order, every operation alone -/
theorem wp_region_inv {id : Nat} {l : List Oper} {a0 : Act} {w : World} (hm : P.follows .mixedOrders = true) (C : World → Prop) (V : Nat → Value → World → Prop) (hf : formB l a0.tmps.size = true)
    (hC : ∀ w w', Below w.heap.size w w' → C w → C w') (hV : ∀ i v w w', Below w.heap.size w w' → V i v w → V i v w') (h0 : C w.drew)
    (hstep : StepsI P Q C V l a0 0 l)
    (hend : ∀ a w, C w → a.defers = a0.defers → a.tmps.size = a0.tmps.size → (∀ t, freeB l t = true → a.tmps.getD t undef = a0.tmps.getD t undef) →
      (∀ (i : Nat) (o : Oper) (t : Tmp), l[i]? = some o → o.dst = some t → V i (a.tmps.getD t undef) w) → Q .normal a w) : (Code.region id l.toArray true).wp P Q a0 w := by
  refine wp_region_any hm ?_
  have hn : (Array.replicate l.toArray.size false).size = l.length := by simp
  refine wpAny_inv hf hC hV hstep hend _ _ _ _ hn ?_ ⟨h0, rfl, rfl, fun t _ => rfl, fun i o t ho hl _ => ?_⟩
  · have := List.length_filter_le (fun i => !(Array.replicate l.toArray.size false).getD i true) (List.range l.length)
    unfold left
    simpa using this
  · exfalso
    have hi := (List.getElem?_eq_some_iff.1 ho).1
    simp [Array.getD, hi] at hl
end
end Go.Proofs.YtflmjdjkfognjaaGreat
namespace Go.Proofs.YtflmjdjkfognjaaGreat
open Go.RowKit
set_option linter.unusedVariables false
section
variable {P : Program} {Q : Exit → Act → World → Prop}
/-- what a slot holds, if there is one; a value, if it is kept -/
def slotV (d : Option Tmp) (a : Act) : Value := match d with
  | some t => a.tmps.getD t undef
  | none => undef
def kept (d : Option Tmp) (v : Value) : Value := match d with
  | some _ => v
  | none => undef
/-- an operation, and what it leans on; 'sk': it is skipped by its guard -/
def StepR (P : Program) (Q : Exit → Act → World → Prop) (R : World → World → Prop) (C : World → Prop) (V : Nat → Value → World → Prop) (sk : Nat → Bool) (l : List Oper) (a0 : Act) (i : Nat) (o : Oper) : Prop :=
  ∀ a w, C w → a.tmps.size = a0.tmps.size → (∀ t, freeB l t = true → a.tmps.getD t undef = a0.tmps.getD t undef) →
    (∀ k, (o.after.toList.any fun e => e.on == k && Region.binds .any e) = true → sk k = false → ∀ (ok : Oper), l[k]? = some ok → V k (slotV ok.dst a) w) →
    if sk i then Region.wanted o (yielded l.toArray a.tmps) = false
    else Region.wanted o (yielded l.toArray a.tmps) = true ∧ o.wp P a w (fun a' w' => ∃ v, a' = a.put o.dst v ∧ R w w' ∧ V i (kept o.dst v) w') Q
def StepsR (P : Program) (Q : Exit → Act → World → Prop) (R : World → World → Prop) (C : World → Prop) (V : Nat → Value → World → Prop) (sk : Nat → Bool) (l : List Oper) (a0 : Act) : Nat → List Oper → Prop
  | _, [] => True
  | i, o :: r => StepR P Q R C V sk l a0 i o ∧ StepsR P Q R C V sk l a0 (i + 1) r
theorem StepsR.at {R : World → World → Prop} {C : World → Prop} {V : Nat → Value → World → Prop} {sk : Nat → Bool} {l : List Oper} {a0 : Act} : ∀ {i : Nat} {r : List Oper}, StepsR P Q R C V sk l a0 i r → ∀ {j : Nat} {o : Oper}, r[j]? = some o → StepR P Q R C V sk l a0 (i + j) o
  | i, [], _, j, o, h => by simp at h
  | i, x :: r, h, 0, o, ho => by
    have : x = o := by simpa using ho
    subst this; exact h.1
  | i, x :: r, h, j + 1, o, ho => by
    have := StepsR.at h.2 (j := j) (o := o) (by simpa using ho)
    rwa [Nat.add_assoc, Nat.add_comm 1 j] at this
/-- the region's form: edges back, slots apart -/
def formR (l : List Oper) (n : Nat) : Bool :=
  (List.range l.length).all (fun i => ((l[i]?).map fun o => o.after.toList.all (fun e => !Region.binds .any e || Nat.blt e.on i) && (match o.dst with | some t => Nat.blt t n | none => true)).getD true) &&
  decide ((l.filterMap (·.dst)).Nodup)
theorem formR_spec {l : List Oper} {n : Nat} (h : formR l n = true) : (∀ (i : Nat) (o : Oper), l[i]? = some o → (∀ e ∈ o.after, Region.binds .any e = true → e.on < i) ∧ ∀ t, o.dst = some t → t < n) ∧
    ∀ (i j : Nat) (oi oj : Oper) (t : Tmp), l[i]? = some oi → l[j]? = some oj → oi.dst = some t → oj.dst = some t → i = j := by
  unfold formR at h
  rw [Bool.and_eq_true] at h
  obtain ⟨h1, h2⟩ := h
  refine ⟨fun i o ho => ?_, ?_⟩
  · have hi := (List.getElem?_eq_some_iff.1 ho).1
    have := List.all_eq_true.1 h1 i (List.mem_range.2 hi)
    rw [ho] at this
    simp only [Option.map_some, Option.getD_some, Bool.and_eq_true] at this
    obtain ⟨g2, g3⟩ := this
    refine ⟨fun e he hbi => ?_, fun t ht => ?_⟩
    · have := List.all_eq_true.1 g2 e (Array.mem_toList_iff.2 he)
      rw [hbi, Bool.not_true, Bool.false_or] at this
      exact Nat.blt_eq ▸ this
    · rw [ht] at g3; exact Nat.blt_eq ▸ g3
  · have hn := of_decide_eq_true h2
    clear h1 h2
    induction l with
    | nil => intro i j oi oj t h; simp at h
    | cons x r ih =>
      intro i j oi oj t hi hj hti htj
      have hnr : (r.filterMap (·.dst)).Nodup := by
        cases hx : x.dst with
        | none => simpa [List.filterMap_cons, hx] using hn
        | some u => simp only [List.filterMap_cons, hx] at hn; exact (List.nodup_cons.1 hn).2
      have hx0 : ∀ (k : Nat) (ok : Oper), r[k]? = some ok → ok.dst = some t → x.dst ≠ some t := fun k ok hk hd hx => by
        simp only [List.filterMap_cons, hx] at hn
        exact (List.nodup_cons.1 hn).1 (List.mem_filterMap.2 ⟨ok, List.mem_of_getElem? hk, hd⟩)
      cases i with
      | zero =>
        cases j with
        | zero => rfl
        | succ j =>
          have e : x = oi := by simpa using hi
          subst e
          exact absurd hti (hx0 j oj (by simpa using hj) htj)
      | succ i =>
        cases j with
        | zero =>
          have e : x = oj := by simpa using hj
          subst e
          exact absurd htj (hx0 i oi (by simpa using hi) hti)
        | succ j =>
          have := ih hnr i j oi oj t (by simpa using hi) (by simpa using hj) hti htj
          omega
/-- a guard, out of the value of the operation that it names -/
theorem wanted_none {o : Oper} {y : Nat → Option Bool} (h : o.guard = none) : Region.wanted o y = true := by simp [Region.wanted, h]
theorem wanted_of {o : Oper} {ops : Array Oper} {tmps : Array Value} {j : Nat} {want b : Bool} {t : Tmp} (h : o.guard = some (j, want)) (hd : ((ops[j]?).bind (·.dst)) = some t) (hv : tmps.getD t undef = .bool b) : Region.wanted o (yielded ops tmps) = (b == want) := by
  have hs : tmps[t]? = some (.bool b) := by
    by_cases hlt : t < tmps.size
    · rw [Array.getElem?_eq_getElem hlt]
      simp only [Array.getD, hlt, dif_pos] at hv
      exact congrArg some hv
    · simp only [Array.getD, hlt, dif_neg, not_false_eq_true] at hv
      cases hv
  simp [Region.wanted, h, yielded, hd, hs]
theorem stepR_val {R : World → World → Prop} {V : Nat → Value → World → Prop} {i : Nat} {o : Oper} {a : Act} {w : World} {v : Value} (hr : R w w) (hv : V i (kept o.dst v) w) (h : ∀ K : Act → World → Prop, K (a.put o.dst v) w → o.wp P a w K Q) :
    o.wp P a w (fun a' w' => ∃ v, a' = a.put o.dst v ∧ R w w' ∧ V i (kept o.dst v) w') Q := h _ ⟨v, rfl, hr, hv⟩
theorem stepR_call {R : World → World → Prop} {V : Nat → Value → World → Prop} {i : Nat} {o : Oper} {a : Act} {w : World} {v : Value} (hr : ∀ w', Below w.heap.size w w' → R w w') (hv : ∀ w', V i (kept o.dst v) w') (h : ∀ K : Act → World → Prop, (∀ w', Below w.heap.size w w' → K (a.put o.dst v) w') → o.wp P a w K Q) :
    o.wp P a w (fun a' w' => ∃ v, a' = a.put o.dst v ∧ R w w' ∧ V i (kept o.dst v) w') Q := h _ fun w' hb => ⟨v, rfl, hr w' hb, hv w'⟩
theorem stepR_new {R : World → World → Prop} {V : Nat → Value → World → Prop} {i : Nat} {o : Oper} {a : Act} {w w' : World} {v : Value} (hr : R w w') (hv : V i (kept o.dst v) w') (h : ∀ K : Act → World → Prop, K (a.put o.dst v) w' → o.wp P a w K Q) :
    o.wp P a w (fun a' w' => ∃ v, a' = a.put o.dst v ∧ R w w' ∧ V i (kept o.dst v) w') Q := h _ ⟨v, rfl, hr, hv⟩
theorem stepR_do {p q : Prop} {b : Bool} (hb : b = false) {c : Prop} (h1 : p) (h2 : q) : if b = true then c else p ∧ q := by rw [if_neg (by rw [hb]; decide)]; exact ⟨h1, h2⟩
/-- where the region stands -/
structure OkayR (l : List Oper) (C : World → Prop) (V : Nat → Value → World → Prop) (sk : Nat → Bool) (a0 : Act) (listed : Array Bool) (a : Act) (w : World) : Prop where
  c : C w
  defers : a.defers = a0.defers
  size : a.tmps.size = a0.tmps.size
  old : ∀ t, freeB l t = true → a.tmps.getD t undef = a0.tmps.getD t undef
  val : ∀ (i : Nat) (o : Oper), l[i]? = some o → sk i = false → listed.getD i false = true → V i (slotV o.dst a) w
theorem readyR_nil {l : List Oper} {n : Nat} (hf : formR l n = true) {listed : Array Bool} (hs : listed.size = l.length) (h : Region.ready .any l.toArray listed = []) : ∀ i, i < l.length → listed.getD i false = true := by
  intro i
  induction i using Nat.strongRecOn with
  | ind i ih =>
    intro hi
    obtain ⟨o, ho⟩ : ∃ o, l[i]? = some o := ⟨l[i], List.getElem?_eq_getElem hi⟩
    have hsp := (formR_spec hf).1 i o ho
    rcases hb : listed.getD i true with _ | _
    · have : i ∈ Region.ready .any l.toArray listed := mem_ready.2 ⟨hb, o, by simpa using ho, fun e he hbi => ih e.on (hsp.1 e he hbi) (by have := hsp.1 e he hbi; omega)⟩
      rw [h] at this; cases this
    · have : i < listed.size := by omega
      simp only [Array.getD, this, dif_pos] at hb ⊢
      exact hb
theorem wpAny_inr {l : List Oper} {R : World → World → Prop} {C : World → Prop} {V : Nat → Value → World → Prop} {sk : Nat → Bool} {a0 : Act} (hf : formR l a0.tmps.size = true)
    (hC : ∀ w w', R w w' → C w → C w') (hV : ∀ i v w w', R w w' → V i v w → V i v w')
    (hstep : StepsR P Q R C V sk l a0 0 l)
    (hend : ∀ a w, C w → a.defers = a0.defers → a.tmps.size = a0.tmps.size → (∀ t, freeB l t = true → a.tmps.getD t undef = a0.tmps.getD t undef) →
      (∀ (i : Nat) (o : Oper), l[i]? = some o → sk i = false → V i (slotV o.dst a) w) → Q .normal a w) :
    ∀ (fuel : Nat) (listed : Array Bool) (a : Act) (w : World), listed.size = l.length → left l.length listed ≤ fuel → OkayR l C V sk a0 listed a w → wpAny P .any l.toArray Q fuel listed a w := by
  have hfin : ∀ (listed : Array Bool) (a : Act) (w : World), listed.size = l.length → OkayR l C V sk a0 listed a w → Region.ready .any l.toArray listed = [] → Q .normal a w := fun listed a w hs hok hr =>
    hend a w hok.c hok.defers hok.size hok.old fun i o ho hsk => hok.val i o ho hsk (readyR_nil hf hs hr i (List.getElem?_eq_some_iff.1 ho).1)
  intro fuel
  induction fuel with
  | zero =>
    intro listed a w hs hle hok
    have hr : Region.ready .any l.toArray listed = [] := by
      rcases hq : Region.ready .any l.toArray listed with _ | ⟨i, r⟩
      · rfl
      · have hi : i ∈ Region.ready .any l.toArray listed := by rw [hq]; exact List.mem_cons_self ..
        have := left_set hs (mem_ready.1 hi).1
        omega
    exact ⟨hr, hfin listed a w hs hok hr⟩
  | succ fuel ih =>
    intro listed a w hs hle hok
    refine ⟨hfin listed a w hs hok, fun i hi => ?_⟩
    obtain ⟨hun, o, ho, hall⟩ := mem_ready.1 hi
    have hol : l[i]? = some o := by simpa using ho
    obtain ⟨_, hlt⟩ := (formR_spec hf).1 i o hol
    have hst := hstep.at hol
    rw [Nat.zero_add] at hst
    have h1 := hst a w hok.c hok.size hok.old fun k hk hsk ok hkl => by
      rw [List.any_eq_true] at hk
      obtain ⟨e, he, hb⟩ := hk
      rw [Bool.and_eq_true] at hb
      have hek : e.on = k := by simpa using hb.1
      exact hok.val k ok hkl hsk (by rw [← hek]; exact hall e (Array.mem_toList_iff.1 he) hb.2)
    have hold : ∀ v, ∀ t, freeB l t = true → (a.put o.dst v).tmps.getD t undef = a0.tmps.getD t undef := fun v t ht => by
      have hne : o.dst ≠ some t := by
        have := List.all_eq_true.1 ht o (List.mem_of_getElem? hol)
        simpa using this
      rw [put_getD_other hne]; exact hok.old t ht
    have hother : ∀ (v : Value) (j : Nat) (oj : Oper), l[j]? = some oj → j ≠ i → slotV oj.dst (a.put o.dst v) = slotV oj.dst a := fun v j oj hoj hne => by
      cases hjt : oj.dst with
      | none => rfl
      | some t =>
        refine put_getD_other fun hd => hne ?_
        exact ((formR_spec hf).2 i j o oj t hol hoj hd hjt).symm
    unfold wpOp
    simp only [ho]
    by_cases hsk : sk i = true
    · rw [if_pos hsk] at h1
      rw [if_neg (by rw [h1]; decide)]
      refine ih _ _ _ (by simpa using hs) (by have := left_set hs hun; omega) ⟨hok.c, by rw [put_defers]; exact hok.defers, by rw [put_size]; exact hok.size, hold _, fun j oj hoj hsj hlj => ?_⟩
      rcases getD_set_cases hlj with rfl | hlj
      · rw [hsk] at hsj; cases hsj
      · have hne : j ≠ i := fun e => by subst e; rw [hsk] at hsj; cases hsj
        rw [hother _ j oj hoj hne]
        exact hok.val j oj hoj hsj hlj
    · rw [if_neg hsk] at h1
      rw [if_pos h1.1]
      refine .inl (Oper.wp_mono ?_ h1.2)
      rintro a' w' ⟨v, rfl, hb, hv⟩
      refine ih _ _ _ (by simpa using hs) (by have := left_set hs hun; omega) ⟨hC _ _ hb hok.c, by rw [put_defers]; exact hok.defers, by rw [put_size]; exact hok.size, hold _, fun j oj hoj hsj hlj => ?_⟩
      by_cases hji : j = i
      · subst hji
        obtain rfl : o = oj := by rw [hol] at hoj; exact Option.some.inj hoj
        have hsv : slotV o.dst (a.put o.dst v) = kept o.dst v := by
          cases hd : o.dst with
          | none => rfl
          | some t => exact put_getD_same (by rw [hok.size]; exact hlt t hd)
        rw [hsv]
        exact hv
      · rcases getD_set_cases hlj with h | hlj
        · exact (hji h).elim
        · rw [hother _ j oj hoj hji]
          exact hV j _ w w' hb (hok.val j oj hoj hsj hlj)
/-- a region that draws its order, every operation alone; stores and guards too -/
theorem wp_region_inr {id : Nat} {l : List Oper} {a0 : Act} {w : World} (hm : P.follows .mixedOrders = true) (R : World → World → Prop) (C : World → Prop) (V : Nat → Value → World → Prop) (sk : Nat → Bool) (hf : formR l a0.tmps.size = true)
    (hC : ∀ w w', R w w' → C w → C w') (hV : ∀ i v w w', R w w' → V i v w → V i v w') (h0 : C w.drew)
    (hstep : StepsR P Q R C V sk l a0 0 l)
    (hend : ∀ a w, C w → a.defers = a0.defers → a.tmps.size = a0.tmps.size → (∀ t, freeB l t = true → a.tmps.getD t undef = a0.tmps.getD t undef) →
      (∀ (i : Nat) (o : Oper), l[i]? = some o → sk i = false → V i (slotV o.dst a) w) → Q .normal a w) : (Code.region id l.toArray true).wp P Q a0 w := by
  refine wp_region_any hm ?_
  have hn : (Array.replicate l.toArray.size false).size = l.length := by simp
  refine wpAny_inr hf hC hV hstep hend _ _ _ _ hn ?_ ⟨h0, rfl, rfl, fun t _ => rfl, fun i o ho _ hl => ?_⟩
  · have := List.length_filter_le (fun i => !(Array.replicate l.toArray.size false).getD i true) (List.range l.length)
    unfold left
    simpa using this
  · exfalso
    have hi := (List.getElem?_eq_some_iff.1 ho).1
    simp [Array.getD, hi] at hl
end
section
/-- a block's cells, some set from an offset on -/
def setN (W : World) (g : Nat) : Nat → List Value → World
  | _, [] => W
  | o, v :: r => setN (W.setCell ⟨g, o, none⟩ v) g (o + 1) r
def putN : List Value → Nat → List Value → List Value
  | cs, _, [] => cs
  | cs, o, v :: r => putN (cs.set o v) (o + 1) r
theorem putN_length : ∀ (vs cs : List Value) (o : Nat), (putN cs o vs).length = cs.length
  | [], _, _ => rfl
  | v :: r, cs, o => by rw [putN, putN_length r]; simp
theorem Bx.setN {g : Nat} {t : TypeId} : ∀ (vs : List Value) {W : World} {cs : List Value} (o : Nat), Bx W g t cs → Bx (setN W g o vs) g t (putN cs o vs)
  | [], _, _, _, h => h
  | v :: r, _, _, o, h => Bx.setN r (o + 1) (h.set o v)
theorem KeptR.setN {g : Nat} {w : World} : ∀ (vs : List Value) {W : World} (o : Nat), KeptR (some g) w W → KeptR (some g) w (setN W g o vs)
  | [], _, _, h => h
  | v :: r, W, o, h => KeptR.setN r (o + 1) ⟨by simpa using h.1, fun k h1 h2 => (Below.heap_setCell W ⟨g, o, none⟩ v k (fun e => h2 (congrArg some e))).trans (h.2 k h1 h2)⟩
theorem Below.setN {B g : Nat} {w : World} (hg : B ≤ g) : ∀ (vs : List Value) {W : World} (o : Nat), Below B w W → Below B w (setN W g o vs)
  | [], _, _, h => h
  | v :: r, _, o, h => Below.setN hg r (o + 1) (h.setCell hg v)
/-- what a region may do that stores into one block of the call's own: 'D' says what stays once it is so -/
def RegW (B g : Nat) (t : TypeId) (n : Nat) (D : Nat → World → Prop) (w W : World) : Prop :=
  Below B w W ∧ KeptR (some g) w W ∧ ((∃ cs : List Value, cs.length = n ∧ Bx w g t cs) → ∃ cs : List Value, cs.length = n ∧ Bx W g t cs) ∧ ∀ k, D k w → D k W
variable {B g : Nat} {t : TypeId} {n : Nat} {D : Nat → World → Prop} {w W W' : World}
theorem RegW.refl : RegW B g t n D w w := ⟨Below.refl _ _, KeptR.refl _ _, id, fun _ => id⟩
theorem RegW.call (hD : ∀ k w W, Below w.heap.size w W → D k w → D k W) (hB : B ≤ w.heap.size) (hb : Below w.heap.size w W) : RegW B g t n D w W :=
  ⟨hb.mono hB, (KeptR.refl _ _).call hb, fun ⟨cs, h1, h2⟩ => ⟨cs, h1, h2.call hb⟩, fun k => hD k _ _ hb⟩
theorem RegW.store (hg : B ≤ g) (o : Nat) (vs : List Value) (hD : ∀ k, D k w → D k (Go.Proofs.YtflmjdjkfognjaaGreat.setN w g o vs)) : RegW B g t n D w (Go.Proofs.YtflmjdjkfognjaaGreat.setN w g o vs) :=
  ⟨Below.setN hg vs o (Below.refl _ _), KeptR.setN vs o (KeptR.refl _ _), fun ⟨cs, h1, h2⟩ => ⟨_, by rw [putN_length]; exact h1, h2.setN vs o⟩, hD⟩
theorem setN_other : ∀ (vs : List Value) {W : World} (o : Nat) (p : Addr), (p.block ≠ g ∨ p.off < o ∨ o + vs.length ≤ p.off) → (Go.Proofs.YtflmjdjkfognjaaGreat.setN W g o vs).cell? p = W.cell? p
  | [], _, _, _, _ => rfl
  | v :: r, W, o, p, h => by
    rw [Go.Proofs.YtflmjdjkfognjaaGreat.setN, setN_other r (o + 1) p (by simp only [List.length_cons] at h; omega)]
    refine World.cell?_setCell_other W _ _ _ fun e => ?_
    subst e
    simp only [List.length_cons] at h
    omega
theorem range_other {o : Nat} {vs xs : List Value} {o' : Nat} (h : w.rangeAt g o' xs) (hd : o' + xs.length ≤ o ∨ o + vs.length ≤ o') : (Go.Proofs.YtflmjdjkfognjaaGreat.setN w g o vs).rangeAt g o' xs := fun i v hv => by
  have hi := (List.getElem?_eq_some_iff.1 hv).1
  rw [setN_other vs o _ (by simp only; omega)]
  exact h i v hv
theorem putN_get : ∀ (vs cs : List Value) (o i : Nat) (v : Value), o + vs.length ≤ cs.length → vs[i]? = some v → (putN cs o vs)[o + i]? = some v
  | [], _, _, _, _, _, h => by simp at h
  | x :: r, cs, o, 0, v, hl, h => by
    have e : x = v := by simpa using h
    subst e
    simp only [List.length_cons] at hl
    show (putN (cs.set o x) (o + 1) r)[o]? = some x
    rw [putN_lt r _ (o + 1) o (by omega), List.getElem?_set_self (by omega)]
  | x :: r, cs, o, i + 1, v, hl, h => by
    simp only [List.length_cons] at hl
    have := putN_get r (cs.set o x) (o + 1) i v (by simp; omega) (by simpa using h)
    rwa [Nat.add_assoc, Nat.add_comm 1 i] at this
where
  putN_lt : ∀ (vs cs : List Value) (o j : Nat), j < o → (putN cs o vs)[j]? = cs[j]?
  | [], _, _, _, _ => rfl
  | x :: r, cs, o, j, h => by rw [putN, putN_lt r _ (o + 1) j (by omega), List.getElem?_set_ne (by omega)]
theorem range_same {o : Nat} {vs : List Value} (h : ∃ cs : List Value, cs.length = n ∧ Bx w g t cs) (hl : o + vs.length ≤ n) : (Go.Proofs.YtflmjdjkfognjaaGreat.setN w g o vs).rangeAt g o vs := fun i v hv => by
  obtain ⟨cs, h1, h2⟩ := h
  exact (h2.setN vs o).cell (putN_get vs cs o i v (by omega) hv)
theorem Bx.ofRange {cs ds : List Value} (h : Bx w g t cs) (hd : w.rangeAt g 0 ds) (hl : ds.length = cs.length) : Bx w g t ds := by
  have e : cs = ds := by
    apply List.ext_getElem?
    intro i
    by_cases hi : i < ds.length
    · have h1 := hd i _ (List.getElem?_eq_getElem hi)
      rw [Nat.zero_add, h.cell (List.getElem?_eq_getElem (by omega))] at h1
      rw [List.getElem?_eq_getElem hi, List.getElem?_eq_getElem (by omega)]
      exact h1
    · rw [List.getElem?_eq_none (by omega), List.getElem?_eq_none (by omega)]
  subst e
  exact h
theorem range_join {b o : Nat} {xs ys : List Value} (h : w.rangeAt b o xs) (h' : w.rangeAt b (o + xs.length) ys) : w.rangeAt b o (xs ++ ys) := fun i v hv => by
  by_cases hi : i < xs.length
  · rw [List.getElem?_append_left hi] at hv; exact h i v hv
  · rw [List.getElem?_append_right (by omega)] at hv
    have := h' _ v hv
    rwa [show o + xs.length + (i - xs.length) = o + i by omega] at this
end
end Go.Proofs.YtflmjdjkfognjaaGreat
