/- A region that draws its order, as in XInr; a slot may be read that a later operation of the region writes. No program is named here. -/
import Derived.Test.YtpncjadhpnapnaaInr
namespace Go.Proofs.Ytpncjadhpnapnaa
open Go.RowKit
set_option linter.unusedVariables false

section
variable {P : Program} {Q : Exit → Act → World → Prop}
/-- an operation, and what it leans on; 'sk': it is skipped by its guard -/
def StepR2 (P : Program) (Q : Exit → Act → World → Prop) (R : World → World → Prop) (C : World → Prop) (V : Nat → Value → World → Prop) (sk : Nat → Bool) (l : List Oper) (a0 : Act) (i : Nat) (o : Oper) : Prop :=
  ∀ a w, C w → a.tmps.size = a0.tmps.size → (∀ t, freeB l t = true → a.tmps.getD t undef = a0.tmps.getD t undef) →
    (∀ k, (o.after.toList.any fun e => e.on == k && Region.binds .any e) = true → sk k = false → ∀ (ok : Oper), l[k]? = some ok → V k (slotV ok.dst a) w) →
    (∀ (j : Nat) (oj : Oper) (t : Tmp), l[j]? = some oj → oj.dst = some t → (oj.after.toList.any fun e => e.on == i && Region.binds .any e) = true → a.tmps.getD t undef = a0.tmps.getD t undef) →
    if sk i then Region.wanted o (yielded l.toArray a.tmps) = false
    else Region.wanted o (yielded l.toArray a.tmps) = true ∧ o.wp P a w (fun a' w' => ∃ v, a' = a.put o.dst v ∧ R w w' ∧ V i (kept o.dst v) w') Q
def StepsR2 (P : Program) (Q : Exit → Act → World → Prop) (R : World → World → Prop) (C : World → Prop) (V : Nat → Value → World → Prop) (sk : Nat → Bool) (l : List Oper) (a0 : Act) : Nat → List Oper → Prop
  | _, [] => True
  | i, o :: r => StepR2 P Q R C V sk l a0 i o ∧ StepsR2 P Q R C V sk l a0 (i + 1) r
theorem StepsR2.at {R : World → World → Prop} {C : World → Prop} {V : Nat → Value → World → Prop} {sk : Nat → Bool} {l : List Oper} {a0 : Act} : ∀ {i : Nat} {r : List Oper}, StepsR2 P Q R C V sk l a0 i r → ∀ {j : Nat} {o : Oper}, r[j]? = some o → StepR2 P Q R C V sk l a0 (i + j) o
  | i, [], _, j, o, h => by simp at h
  | i, x :: r, h, 0, o, ho => by
    have : x = o := by simpa using ho
    subst this; exact h.1
  | i, x :: r, h, j + 1, o, ho => by
    have := StepsR2.at h.2 (j := j) (o := o) (by simpa using ho)
    rwa [Nat.add_assoc, Nat.add_comm 1 j] at this
/-- where the region stands -/
structure OkayR2 (l : List Oper) (C : World → Prop) (V : Nat → Value → World → Prop) (sk : Nat → Bool) (a0 : Act) (listed : Array Bool) (a : Act) (w : World) : Prop where
  c : C w
  defers : a.defers = a0.defers
  size : a.tmps.size = a0.tmps.size
  old : ∀ t, freeB l t = true → a.tmps.getD t undef = a0.tmps.getD t undef
  val : ∀ (i : Nat) (o : Oper), l[i]? = some o → sk i = false → listed.getD i false = true → V i (slotV o.dst a) w
  unl : ∀ (j : Nat) (oj : Oper) (t : Tmp), l[j]? = some oj → oj.dst = some t → listed.getD j false = false → a.tmps.getD t undef = a0.tmps.getD t undef
  closed : ∀ (j : Nat) (oj : Oper), l[j]? = some oj → listed.getD j false = true → ∀ e ∈ oj.after, Region.binds .any e = true → listed.getD e.on false = true
theorem wpAny_in2 {l : List Oper} {R : World → World → Prop} {C : World → Prop} {V : Nat → Value → World → Prop} {sk : Nat → Bool} {a0 : Act} (hf : formR l a0.tmps.size = true)
    (hC : ∀ w w', R w w' → C w → C w') (hV : ∀ i v w w', R w w' → V i v w → V i v w')
    (hstep : StepsR2 P Q R C V sk l a0 0 l)
    (hend : ∀ a w, C w → a.defers = a0.defers → a.tmps.size = a0.tmps.size → (∀ t, freeB l t = true → a.tmps.getD t undef = a0.tmps.getD t undef) →
      (∀ (i : Nat) (o : Oper), l[i]? = some o → sk i = false → V i (slotV o.dst a) w) → Q .normal a w) :
    ∀ (fuel : Nat) (listed : Array Bool) (a : Act) (w : World), listed.size = l.length → left l.length listed ≤ fuel → OkayR2 l C V sk a0 listed a w → wpAny P .any l.toArray Q fuel listed a w := by
  have hfin : ∀ (listed : Array Bool) (a : Act) (w : World), listed.size = l.length → OkayR2 l C V sk a0 listed a w → Region.ready .any l.toArray listed = [] → Q .normal a w := fun listed a w hs hok hr =>
    hend a w hok.c hok.defers hok.size hok.old fun i o ho hsk => hok.val i o ho hsk (readyR_nil hf hs hr i (List.getElem?_eq_some_iff.1 ho).1)
  intro fuel
  induction fuel with
  | zero =>
    intro listed a w hs hle hok
    have hr : Region.ready .any l.toArray listed = [] := by
      rcases hq : Region.ready .any l.toArray listed with _ | ⟨i, r⟩
      · rfl
      · have hi : i ∈ Region.ready .any l.toArray listed := by rw [hq]; exact List.mem_cons_self ..
        have := left_set hs (mem_ready.1 hi).1
        omega
    exact ⟨hr, hfin listed a w hs hok hr⟩
  | succ fuel ih =>
    intro listed a w hs hle hok
    refine ⟨hfin listed a w hs hok, fun i hi => ?_⟩
    obtain ⟨hun, o, ho, hall⟩ := mem_ready.1 hi
    have hol : l[i]? = some o := by simpa using ho
    obtain ⟨_, hlt⟩ := (formR_spec hf).1 i o hol
    have hst := hstep.at hol
    rw [Nat.zero_add] at hst
    have h1 := hst a w hok.c hok.size hok.old fun k hk hsk ok hkl => by
      rw [List.any_eq_true] at hk
      obtain ⟨e, he, hb⟩ := hk
      rw [Bool.and_eq_true] at hb
      have hek : e.on = k := by simpa using hb.1
      exact hok.val k ok hkl hsk (by rw [← hek]; exact hall e (Array.mem_toList_iff.1 he) hb.2)
    replace h1 := h1 fun j oj t hoj hdt hk => by
      refine hok.unl j oj t hoj hdt ?_
      rw [List.any_eq_true] at hk
      obtain ⟨e, he, hb⟩ := hk
      rw [Bool.and_eq_true] at hb
      have hek : e.on = i := by simpa using hb.1
      cases hlj : listed.getD j false with
      | false => rfl
      | true =>
        have h2 := hok.closed j oj hoj hlj e (Array.mem_toList_iff.1 he) hb.2
        rw [hek] at h2
        have h3 : i < listed.size := by rw [hs]; exact (List.getElem?_eq_some_iff.1 hol).1
        simp only [Array.getD, h3, dif_pos] at hun h2
        rw [hun] at h2; exact absurd h2 (by decide)
    have hunl : ∀ v (j : Nat) (oj : Oper) (t : Tmp), l[j]? = some oj → oj.dst = some t → (listed.setIfInBounds i true).getD j false = false → (a.put o.dst v).tmps.getD t undef = a0.tmps.getD t undef := fun v j oj t hoj hdt hlj => by
      have hij : i < listed.size := by rw [hs]; exact (List.getElem?_eq_some_iff.1 hol).1
      have hji : j ≠ i := by
        rintro rfl
        simp [Array.getD, hij] at hlj
      have hne : o.dst ≠ some t := fun hd => hji ((formR_spec hf).2 i j o oj t hol hoj hd hdt).symm
      rw [put_getD_other hne]
      refine hok.unl j oj t hoj hdt ?_
      cases hlj2 : listed.getD j false with
      | false => rfl
      | true =>
        rw [← hlj, ← hlj2]
        simp only [Array.getD_eq_getD_getElem?, Array.getElem?_setIfInBounds]
        rw [if_neg (Ne.symm hji)]
    have hcl : ∀ (j : Nat) (oj : Oper), l[j]? = some oj → (listed.setIfInBounds i true).getD j false = true → ∀ e ∈ oj.after, Region.binds .any e = true → (listed.setIfInBounds i true).getD e.on false = true := fun j oj hoj hlj e he hb => by
      have up : ∀ k, listed.getD k false = true → (listed.setIfInBounds i true).getD k false = true := fun k hk => by
        have hij : i < listed.size := by rw [hs]; exact (List.getElem?_eq_some_iff.1 hol).1
        simp only [Array.getD_eq_getD_getElem?, Array.getElem?_setIfInBounds] at hk ⊢
        split
        · simp
        · exact hk
      rcases getD_set_cases hlj with rfl | hlj
      · obtain rfl : o = oj := by rw [hol] at hoj; exact Option.some.inj hoj
        exact up _ (hall e he hb)
      · exact up _ (hok.closed j oj hoj hlj e he hb)
    have hold : ∀ v, ∀ t, freeB l t = true → (a.put o.dst v).tmps.getD t undef = a0.tmps.getD t undef := fun v t ht => by
      have hne : o.dst ≠ some t := by
        have := List.all_eq_true.1 ht o (List.mem_of_getElem? hol)
        simpa using this
      rw [put_getD_other hne]; exact hok.old t ht
    have hother : ∀ (v : Value) (j : Nat) (oj : Oper), l[j]? = some oj → j ≠ i → slotV oj.dst (a.put o.dst v) = slotV oj.dst a := fun v j oj hoj hne => by
      cases hjt : oj.dst with
      | none => rfl
      | some t =>
        refine put_getD_other fun hd => hne ?_
        exact ((formR_spec hf).2 i j o oj t hol hoj hd hjt).symm
    unfold wpOp
    simp only [ho]
    by_cases hsk : sk i = true
    · rw [if_pos hsk] at h1
      rw [if_neg (by rw [h1]; decide)]
      refine ih _ _ _ (by simpa using hs) (by have := left_set hs hun; omega) ⟨hok.c, by rw [put_defers]; exact hok.defers, by rw [put_size]; exact hok.size, hold _, fun j oj hoj hsj hlj => ?_, hunl _, hcl⟩
      rcases getD_set_cases hlj with rfl | hlj
      · rw [hsk] at hsj; cases hsj
      · have hne : j ≠ i := fun e => by subst e; rw [hsk] at hsj; cases hsj
        rw [hother _ j oj hoj hne]
        exact hok.val j oj hoj hsj hlj
    · rw [if_neg hsk] at h1
      rw [if_pos h1.1]
      refine .inl (Oper.wp_mono ?_ h1.2)
      rintro a' w' ⟨v, rfl, hb, hv⟩
      refine ih _ _ _ (by simpa using hs) (by have := left_set hs hun; omega) ⟨hC _ _ hb hok.c, by rw [put_defers]; exact hok.defers, by rw [put_size]; exact hok.size, hold _, fun j oj hoj hsj hlj => ?_, hunl _, hcl⟩
      by_cases hji : j = i
      · subst hji
        obtain rfl : o = oj := by rw [hol] at hoj; exact Option.some.inj hoj
        have hsv : slotV o.dst (a.put o.dst v) = kept o.dst v := by
          cases hd : o.dst with
          | none => rfl
          | some t => exact put_getD_same (by rw [hok.size]; exact hlt t hd)
        rw [hsv]
        exact hv
      · rcases getD_set_cases hlj with h | hlj
        · exact (hji h).elim
        · rw [hother _ j oj hoj hji]
          exact hV j _ w w' hb (hok.val j oj hoj hsj hlj)
/-- a region that draws its order, every operation alone; stores and guards too -/
theorem wp_region_in2 {id : Nat} {l : List Oper} {a0 : Act} {w : World} (hm : P.follows .mixedOrders = true) (R : World → World → Prop) (C : World → Prop) (V : Nat → Value → World → Prop) (sk : Nat → Bool) (hf : formR l a0.tmps.size = true)
    (hC : ∀ w w', R w w' → C w → C w') (hV : ∀ i v w w', R w w' → V i v w → V i v w') (h0 : C w.drew)
    (hstep : StepsR2 P Q R C V sk l a0 0 l)
    (hend : ∀ a w, C w → a.defers = a0.defers → a.tmps.size = a0.tmps.size → (∀ t, freeB l t = true → a.tmps.getD t undef = a0.tmps.getD t undef) →
      (∀ (i : Nat) (o : Oper), l[i]? = some o → sk i = false → V i (slotV o.dst a) w) → Q .normal a w) : (Code.region id l.toArray true).wp P Q a0 w := by
  refine wp_region_any hm ?_
  have hn : (Array.replicate l.toArray.size false).size = l.length := by simp
  refine wpAny_in2 hf hC hV hstep hend _ _ _ _ hn ?_ ⟨h0, rfl, rfl, fun t _ => rfl, fun i o ho _ hl => ?_, fun _ _ _ _ _ _ => rfl, fun j oj hoj hl => ?_⟩
  · have := List.length_filter_le (fun i => !(Array.replicate l.toArray.size false).getD i true) (List.range l.length)
    unfold left
    simpa using this
  · exfalso
    have hi := (List.getElem?_eq_some_iff.1 ho).1
    simp [Array.getD, hi] at hl
  · exfalso
    have hi := (List.getElem?_eq_some_iff.1 hoj).1
    simp [Array.getD, hi] at hl
end
end Go.Proofs.Ytpncjadhpnapnaa
