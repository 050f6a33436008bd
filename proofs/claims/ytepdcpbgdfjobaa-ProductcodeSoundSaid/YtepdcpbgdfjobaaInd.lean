/- A region that draws its order, by what is known of each operation's value and of those that it leans on: a new block, and a store into it. No program is named here. -/
import Derived.Test.YtepdcpbgdfjobaaInr
namespace Go.Proofs.Ytepdcpbgdfjobaa
open Go.RowKit
set_option linter.unusedVariables false

section
variable {P : Program} {Q : Exit → Act → World → Prop}
/-- what the operations hold that an operation leans on -/
def depV (l : List Oper) (i : Nat) (a : Act) (k : Nat) : Value := match l[i]?, l[k]? with
  | some oi, some ok => if (oi.after.toList.any fun e => e.on == k && Region.binds .any e) = true then slotV ok.dst a else undef
  | _, _ => undef
/-- an operation, and what it leans on; 'sk': it is skipped by its guard -/
def StepD (P : Program) (Q : Exit → Act → World → Prop) (R : World → World → Prop) (C : World → Prop) (V : Nat → Value → (Nat → Value) → World → Prop) (sk : Nat → Bool) (l : List Oper) (a0 : Act) (i : Nat) (o : Oper) : Prop :=
  ∀ a w, C w → a.tmps.size = a0.tmps.size → (∀ t, freeB l t = true → a.tmps.getD t undef = a0.tmps.getD t undef) →
    (∀ k, (o.after.toList.any fun e => e.on == k && Region.binds .any e) = true → sk k = false → ∀ (ok : Oper), l[k]? = some ok → V k (slotV ok.dst a) (depV l k a) w) →
    if sk i then Region.wanted o (yielded l.toArray a.tmps) = false
    else Region.wanted o (yielded l.toArray a.tmps) = true ∧ o.wp P a w (fun a' w' => ∃ v, a' = a.put o.dst v ∧ R w w' ∧ V i (kept o.dst v) (depV l i a) w') Q
def StepsD (P : Program) (Q : Exit → Act → World → Prop) (R : World → World → Prop) (C : World → Prop) (V : Nat → Value → (Nat → Value) → World → Prop) (sk : Nat → Bool) (l : List Oper) (a0 : Act) : Nat → List Oper → Prop
  | _, [] => True
  | i, o :: r => StepD P Q R C V sk l a0 i o ∧ StepsD P Q R C V sk l a0 (i + 1) r
theorem StepsD.at {R : World → World → Prop} {C : World → Prop} {V : Nat → Value → (Nat → Value) → World → Prop} {sk : Nat → Bool} {l : List Oper} {a0 : Act} : ∀ {i : Nat} {r : List Oper}, StepsD P Q R C V sk l a0 i r → ∀ {j : Nat} {o : Oper}, r[j]? = some o → StepD P Q R C V sk l a0 (i + j) o
  | i, [], _, j, o, h => by simp at h
  | i, x :: r, h, 0, o, ho => by
    have : x = o := by simpa using ho
    subst this; exact h.1
  | i, x :: r, h, j + 1, o, ho => by
    have := StepsD.at h.2 (j := j) (o := o) (by simpa using ho)
    rwa [Nat.add_assoc, Nat.add_comm 1 j] at this
theorem stepD_val {R : World → World → Prop} {V : Nat → Value → (Nat → Value) → World → Prop} {d : Nat → Value} {i : Nat} {o : Oper} {a : Act} {w : World} {v : Value} (hr : R w w) (hv : V i (kept o.dst v) d w) (h : ∀ K : Act → World → Prop, K (a.put o.dst v) w → o.wp P a w K Q) :
    o.wp P a w (fun a' w' => ∃ v, a' = a.put o.dst v ∧ R w w' ∧ V i (kept o.dst v) d w') Q := h _ ⟨v, rfl, hr, hv⟩
theorem stepD_call {R : World → World → Prop} {V : Nat → Value → (Nat → Value) → World → Prop} {d : Nat → Value} {i : Nat} {o : Oper} {a : Act} {w : World} {v : Value} (hr : ∀ w', Below w.heap.size w w' → R w w') (hv : ∀ w', V i (kept o.dst v) d w') (h : ∀ K : Act → World → Prop, (∀ w', Below w.heap.size w w' → K (a.put o.dst v) w') → o.wp P a w K Q) :
    o.wp P a w (fun a' w' => ∃ v, a' = a.put o.dst v ∧ R w w' ∧ V i (kept o.dst v) d w') Q := h _ fun w' hb => ⟨v, rfl, hr w' hb, hv w'⟩
theorem stepD_new {R : World → World → Prop} {V : Nat → Value → (Nat → Value) → World → Prop} {d : Nat → Value} {i : Nat} {o : Oper} {a : Act} {w w' : World} {v : Value} (hr : R w w') (hv : V i (kept o.dst v) d w') (h : ∀ K : Act → World → Prop, K (a.put o.dst v) w' → o.wp P a w K Q) :
    o.wp P a w (fun a' w' => ∃ v, a' = a.put o.dst v ∧ R w w' ∧ V i (kept o.dst v) d w') Q := h _ ⟨v, rfl, hr, hv⟩
/-- where the region stands -/
structure OkayD (l : List Oper) (C : World → Prop) (V : Nat → Value → (Nat → Value) → World → Prop) (sk : Nat → Bool) (a0 : Act) (listed : Array Bool) (a : Act) (w : World) : Prop where
  c : C w
  defers : a.defers = a0.defers
  size : a.tmps.size = a0.tmps.size
  old : ∀ t, freeB l t = true → a.tmps.getD t undef = a0.tmps.getD t undef
  dn : ∀ (i : Nat) (o : Oper), l[i]? = some o → listed.getD i false = true → ∀ e ∈ o.after, Region.binds .any e = true → listed.getD e.on false = true
  val : ∀ (i : Nat) (o : Oper), l[i]? = some o → sk i = false → listed.getD i false = true → V i (slotV o.dst a) (depV l i a) w
theorem wpAny_ind {l : List Oper} {R : World → World → Prop} {C : World → Prop} {V : Nat → Value → (Nat → Value) → World → Prop} {sk : Nat → Bool} {a0 : Act} (hf : formR l a0.tmps.size = true)
    (hC : ∀ w w', R w w' → C w → C w') (hV : ∀ i v d w w', R w w' → V i v d w → V i v d w')
    (hstep : StepsD P Q R C V sk l a0 0 l)
    (hend : ∀ a w, C w → a.defers = a0.defers → a.tmps.size = a0.tmps.size → (∀ t, freeB l t = true → a.tmps.getD t undef = a0.tmps.getD t undef) →
      (∀ (i : Nat) (o : Oper), l[i]? = some o → sk i = false → V i (slotV o.dst a) (depV l i a) w) → Q .normal a w) :
    ∀ (fuel : Nat) (listed : Array Bool) (a : Act) (w : World), listed.size = l.length → left l.length listed ≤ fuel → OkayD l C V sk a0 listed a w → wpAny P .any l.toArray Q fuel listed a w := by
  have hfin : ∀ (listed : Array Bool) (a : Act) (w : World), listed.size = l.length → OkayD l C V sk a0 listed a w → Region.ready .any l.toArray listed = [] → Q .normal a w := fun listed a w hs hok hr =>
    hend a w hok.c hok.defers hok.size hok.old fun i o ho hsk => hok.val i o ho hsk (readyR_nil hf hs hr i (List.getElem?_eq_some_iff.1 ho).1)
  intro fuel
  induction fuel with
  | zero =>
    intro listed a w hs hle hok
    have hr : Region.ready .any l.toArray listed = [] := by
      rcases hq : Region.ready .any l.toArray listed with _ | ⟨i, r⟩
      · rfl
      · have hi : i ∈ Region.ready .any l.toArray listed := by rw [hq]; exact List.mem_cons_self ..
        have := left_set hs (mem_ready.1 hi).1
        omega
    exact ⟨hr, hfin listed a w hs hok hr⟩
  | succ fuel ih =>
    intro listed a w hs hle hok
    refine ⟨hfin listed a w hs hok, fun i hi => ?_⟩
    obtain ⟨hun, o, ho, hall⟩ := mem_ready.1 hi
    have hol : l[i]? = some o := by simpa using ho
    obtain ⟨_, hlt⟩ := (formR_spec hf).1 i o hol
    have hst := hstep.at hol
    rw [Nat.zero_add] at hst
    have h1 := hst a w hok.c hok.size hok.old fun k hk hsk ok hkl => by
      rw [List.any_eq_true] at hk
      obtain ⟨e, he, hb⟩ := hk
      rw [Bool.and_eq_true] at hb
      have hek : e.on = k := by simpa using hb.1
      exact hok.val k ok hkl hsk (by rw [← hek]; exact hall e (Array.mem_toList_iff.1 he) hb.2)
    have hold : ∀ v, ∀ t, freeB l t = true → (a.put o.dst v).tmps.getD t undef = a0.tmps.getD t undef := fun v t ht => by
      have hne : o.dst ≠ some t := by
        have := List.all_eq_true.1 ht o (List.mem_of_getElem? hol)
        simpa using this
      rw [put_getD_other hne]; exact hok.old t ht
    have hother : ∀ (v : Value) (j : Nat) (oj : Oper), l[j]? = some oj → j ≠ i → slotV oj.dst (a.put o.dst v) = slotV oj.dst a := fun v j oj hoj hne => by
      cases hjt : oj.dst with
      | none => rfl
      | some t =>
        refine put_getD_other fun hd => hne ?_
        exact ((formR_spec hf).2 i j o oj t hol hoj hd hjt).symm
    have hlisted : ∀ k, listed.getD k false = true → k ≠ i := fun k hk e => by
      subst e
      have hil : k < listed.size := by rw [hs]; exact (List.getElem?_eq_some_iff.1 hol).1
      simp only [Array.getD, hil, dif_pos] at hun hk
      rw [hun] at hk; cases hk
    have hset : ∀ k, listed.getD k false = true → (listed.setIfInBounds i true).getD k false = true := fun k hk => by
      rw [getD_set_ne false (Ne.symm (hlisted k hk))]; exact hk
    have hdn : ∀ (j : Nat) (oj : Oper), l[j]? = some oj → (listed.setIfInBounds i true).getD j false = true → ∀ e ∈ oj.after, Region.binds .any e = true → (listed.setIfInBounds i true).getD e.on false = true := fun j oj hoj hlj e he hbi => by
      rcases getD_set_cases hlj with rfl | hlj
      · obtain rfl : o = oj := by rw [hol] at hoj; exact Option.some.inj hoj
        exact hset _ (hall e he hbi)
      · exact hset _ (hok.dn j oj hoj hlj e he hbi)
    have hdv : ∀ (v : Value) (j : Nat) (oj : Oper), l[j]? = some oj → (listed.setIfInBounds i true).getD j false = true → depV l j (a.put o.dst v) = depV l j a := fun v j oj hoj hlj => by
      funext k
      unfold depV
      rw [hoj]
      cases hk : l[k]? with
      | none => rfl
      | some ok =>
        simp only
        by_cases hedge : (oj.after.toList.any fun e => e.on == k && Region.binds .any e) = true
        · rw [if_pos hedge, if_pos hedge]
          refine hother v k ok hk ?_
          rw [List.any_eq_true] at hedge
          obtain ⟨e, he, hb⟩ := hedge
          rw [Bool.and_eq_true] at hb
          have hek : e.on = k := by simpa using hb.1
          rw [← hek]
          rcases getD_set_cases hlj with rfl | hlj
          · obtain rfl : o = oj := by rw [hol] at hoj; exact Option.some.inj hoj
            exact hlisted _ (hall e (Array.mem_toList_iff.1 he) hb.2)
          · exact hlisted _ (hok.dn j oj hoj hlj e (Array.mem_toList_iff.1 he) hb.2)
        · rw [if_neg hedge, if_neg hedge]
    unfold wpOp
    simp only [ho]
    by_cases hsk : sk i = true
    · rw [if_pos hsk] at h1
      rw [if_neg (by rw [h1]; decide)]
      refine ih _ _ _ (by simpa using hs) (by have := left_set hs hun; omega) ⟨hok.c, by rw [put_defers]; exact hok.defers, by rw [put_size]; exact hok.size, hold _, hdn, fun j oj hoj hsj hlj => ?_⟩
      rw [hdv _ j oj hoj hlj]
      rcases getD_set_cases hlj with rfl | hlj
      · rw [hsk] at hsj; cases hsj
      · have hne : j ≠ i := fun e => by subst e; rw [hsk] at hsj; cases hsj
        rw [hother _ j oj hoj hne]
        exact hok.val j oj hoj hsj hlj
    · rw [if_neg hsk] at h1
      rw [if_pos h1.1]
      refine .inl (Oper.wp_mono ?_ h1.2)
      rintro a' w' ⟨v, rfl, hb, hv⟩
      refine ih _ _ _ (by simpa using hs) (by have := left_set hs hun; omega) ⟨hC _ _ hb hok.c, by rw [put_defers]; exact hok.defers, by rw [put_size]; exact hok.size, hold _, hdn, fun j oj hoj hsj hlj => ?_⟩
      rw [hdv _ j oj hoj hlj]
      by_cases hji : j = i
      · subst hji
        obtain rfl : o = oj := by rw [hol] at hoj; exact Option.some.inj hoj
        have hsv : slotV o.dst (a.put o.dst v) = kept o.dst v := by
          cases hd : o.dst with
          | none => rfl
          | some t => exact put_getD_same (by rw [hok.size]; exact hlt t hd)
        rw [hsv]
        exact hv
      · rcases getD_set_cases hlj with h | hlj
        · exact (hji h).elim
        · rw [hother _ j oj hoj hji]
          exact hV j _ _ w w' hb (hok.val j oj hoj hsj hlj)
/-- a region that draws its order, every operation alone; stores and guards too -/
theorem wp_region_ind {id : Nat} {l : List Oper} {a0 : Act} {w : World} (hm : P.follows .mixedOrders = true) (R : World → World → Prop) (C : World → Prop) (V : Nat → Value → (Nat → Value) → World → Prop) (sk : Nat → Bool) (hf : formR l a0.tmps.size = true)
    (hC : ∀ w w', R w w' → C w → C w') (hV : ∀ i v d w w', R w w' → V i v d w → V i v d w') (h0 : C w.drew)
    (hstep : StepsD P Q R C V sk l a0 0 l)
    (hend : ∀ a w, C w → a.defers = a0.defers → a.tmps.size = a0.tmps.size → (∀ t, freeB l t = true → a.tmps.getD t undef = a0.tmps.getD t undef) →
      (∀ (i : Nat) (o : Oper), l[i]? = some o → sk i = false → V i (slotV o.dst a) (depV l i a) w) → Q .normal a w) : (Code.region id l.toArray true).wp P Q a0 w := by
  refine wp_region_any hm ?_
  have hn : (Array.replicate l.toArray.size false).size = l.length := by simp
  refine wpAny_ind hf hC hV hstep hend _ _ _ _ hn ?_ ⟨h0, rfl, rfl, fun t _ => rfl, fun i o ho hl => ?_, fun i o ho _ hl => ?_⟩
  · have := List.length_filter_le (fun i => !(Array.replicate l.toArray.size false).getD i true) (List.range l.length)
    unfold left
    simpa using this
  · exfalso
    have hi := (List.getElem?_eq_some_iff.1 ho).1
    simp [Array.getD, hi] at hl
  · exfalso
    have hi := (List.getElem?_eq_some_iff.1 ho).1
    simp [Array.getD, hi] at hl
end
section
variable {B : Nat} {t : TypeId} {cs0 : List Value} {w W : World}
theorem putN_all : ∀ (vs pre : List Value) (cs : List Value), cs.length = vs.length → putN (pre ++ cs) pre.length vs = pre ++ vs
  | [], pre, cs, h => by
    have : cs = [] := List.length_eq_zero_iff.1 h
    subst this; rfl
  | v :: r, pre, [], h => by simp at h
  | v :: r, pre, c :: cs, h => by
    have e : (pre ++ c :: cs).set pre.length v = (pre ++ [v]) ++ cs := by
      rw [List.set_append_right _ _ (Nat.le_refl _), Nat.sub_self]; simp
    rw [putN, e, show pre.length + 1 = (pre ++ [v]).length by simp, putN_all r (pre ++ [v]) cs (by simpa using h)]
    simp
theorem putN_eq {cs vs : List Value} (h : cs.length = vs.length) : putN cs 0 vs = vs := putN_all vs [] cs h
/-- what a region may do that makes a block and fills it with 'cs0' -/
def RegN (B : Nat) (t : TypeId) (cs0 : List Value) (w W : World) : Prop :=
  Below B w W ∧ (∀ g, (∃ cs : List Value, cs.length = cs0.length ∧ Bx w g t cs) → ∃ cs : List Value, cs.length = cs0.length ∧ Bx W g t cs) ∧ ∀ g, Bx w g t cs0 → Bx W g t cs0
theorem RegN.refl : RegN B t cs0 w w := ⟨Below.refl _ _, fun _ => id, fun _ => id⟩
theorem RegN.call (hB : B ≤ w.heap.size) (hb : Below w.heap.size w W) : RegN B t cs0 w W :=
  ⟨hb.mono hB, fun _ ⟨cs, h1, h2⟩ => ⟨cs, h1, h2.call hb⟩, fun _ h => h.call hb⟩
theorem RegN.alloc (hB : B ≤ w.heap.size) (o : Obj) : RegN B t cs0 w (w.alloc o) := RegN.call hB ((Below.refl _ _).alloc (Nat.le_refl _) o)
theorem Bx.full {g : Nat} {cs : List Value} (h : Bx w g t cs) (hl : cs.length = cs0.length) : Bx (Go.Proofs.Ytepdcpbgdfjobaa.setN w g 0 cs0) g t cs0 := by
  have := h.setN cs0 0
  rwa [putN_eq hl] at this
theorem Bx.setOther {g g' : Nat} {t' : TypeId} {cs vs : List Value} {o : Nat} (h : Bx w g' t' cs) (hne : g' ≠ g) : Bx (Go.Proofs.Ytepdcpbgdfjobaa.setN w g o vs) g' t' cs :=
  ((KeptR.setN vs o (KeptR.refl (some g) w)).2 g' h.lt (fun e => hne (Option.some.inj e))).trans h
theorem RegN.store {g : Nat} (hg : B ≤ g) (ho : ∃ cs : List Value, cs.length = cs0.length ∧ Bx w g t cs) : RegN B t cs0 w (setN w g 0 cs0) := by
  obtain ⟨cs, h1, h2⟩ := ho
  refine ⟨Below.setN hg cs0 0 (Below.refl _ _), fun g' ⟨cs', h3, h4⟩ => ?_, fun g' h => ?_⟩
  · by_cases e : g' = g
    · subst e; exact ⟨_, rfl, h2.full h1⟩
    · exact ⟨_, h3, h4.setOther e⟩
  · by_cases e : g' = g
    · subst e; exact h2.full h1
    · exact h.setOther e
end
end Go.Proofs.Ytepdcpbgdfjobaa
