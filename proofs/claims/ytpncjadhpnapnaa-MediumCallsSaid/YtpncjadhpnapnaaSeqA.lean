/- A region that draws its order and whose calls and stores are in a chain, as XSeq; what is known behind the first 'r' links may look at the values that the links gave. No program is named here. -/
import Derived.Test.YtpncjadhpnapnaaSeq
namespace Go.Proofs.Ytpncjadhpnapnaa
open Go.RowKit
set_option linter.unusedVariables false

section
variable {P : Program} {Q : Exit → Act → World → Prop}
def StepA (P : Program) (Q : Exit → Act → World → Prop) (R : Nat → World → World → Prop) (C : Nat → Act → World → Prop) (V : Nat → Value → World → Prop) (sk : Nat → Bool) (eff : Nat → Option Nat) (l : List Oper) (a0 : Act) (i : Nat) (o : Oper) : Prop :=
  ∀ (r : Nat) a w, C r a w → a.tmps.size = a0.tmps.size → (∀ t, freeB l t = true → a.tmps.getD t undef = a0.tmps.getD t undef) →
    (∀ k, (o.after.toList.any fun e => e.on == k && Region.binds .any e) = true → sk k = false → ∀ (ok : Oper), l[k]? = some ok → V k (slotV ok.dst a) w) →
    (∀ (j : Nat) (oj : Oper) (t : Tmp), l[j]? = some oj → oj.dst = some t → (oj.after.toList.any fun e => e.on == i && Region.binds .any e) = true → a.tmps.getD t undef = a0.tmps.getD t undef) →
    (∀ j k, eff j = some k → reach l 3 i j = true → k < r) → (∀ j k, eff j = some k → reach l 3 j i = true → r ≤ k) → (∀ k, eff i = some k → k = r) →
    if sk i then Region.wanted o (yielded l.toArray a.tmps) = false
    else Region.wanted o (yielded l.toArray a.tmps) = true ∧ o.wp P a w (fun a' w' => ∃ v, a' = a.put o.dst v ∧ R r w w' ∧ (match eff i with | some _ => C (r + 1) (a.put o.dst v) w' | none => w' = w) ∧ V i (kept o.dst v) w') Q
def StepsA (P : Program) (Q : Exit → Act → World → Prop) (R : Nat → World → World → Prop) (C : Nat → Act → World → Prop) (V : Nat → Value → World → Prop) (sk : Nat → Bool) (eff : Nat → Option Nat) (l : List Oper) (a0 : Act) : Nat → List Oper → Prop
  | _, [] => True
  | i, o :: r => StepA P Q R C V sk eff l a0 i o ∧ StepsA P Q R C V sk eff l a0 (i + 1) r
theorem StepsA.at {R : Nat → World → World → Prop} {C : Nat → Act → World → Prop} {V : Nat → Value → World → Prop} {sk : Nat → Bool} {eff : Nat → Option Nat} {l : List Oper} {a0 : Act} : ∀ {i : Nat} {r : List Oper}, StepsA P Q R C V sk eff l a0 i r → ∀ {j : Nat} {o : Oper}, r[j]? = some o → StepA P Q R C V sk eff l a0 (i + j) o
  | i, [], _, j, o, h => by simp at h
  | i, x :: r, h, 0, o, ho => by
    have : x = o := by simpa using ho
    subst this; exact h.1
  | i, x :: r, h, j + 1, o, ho => by
    have := StepsA.at h.2 (j := j) (o := o) (by simpa using ho)
    rwa [Nat.add_assoc, Nat.add_comm 1 j] at this
theorem stepA_val {R : World → World → Prop} {V : Nat → Value → World → Prop} {i : Nat} {o : Oper} {a : Act} {w : World} {v : Value} (hr : R w w) (hv : V i (kept o.dst v) w) (h : ∀ K : Act → World → Prop, K (a.put o.dst v) w → o.wp P a w K Q) :
    o.wp P a w (fun a' w' => ∃ v, a' = a.put o.dst v ∧ R w w' ∧ w' = w ∧ V i (kept o.dst v) w') Q := h _ ⟨v, rfl, hr, rfl, hv⟩
/-- an operation that turns the world, its value told by the way -/
theorem stepA_any {R : World → World → Prop} {C : Act → World → Prop} {V : Nat → Value → World → Prop} {i : Nat} {o : Oper} {a : Act} {w : World} (h : ∀ K : Act → World → Prop, (∀ v w', R w w' → C (a.put o.dst v) w' → V i (kept o.dst v) w' → K (a.put o.dst v) w') → o.wp P a w K Q) :
    o.wp P a w (fun a' w' => ∃ v, a' = a.put o.dst v ∧ R w w' ∧ C (a.put o.dst v) w' ∧ V i (kept o.dst v) w') Q := h _ fun v w' h1 h2 h3 => ⟨v, rfl, h1, h2, h3⟩
/-- where the region stands -/
structure OkayA (l : List Oper) (C : Nat → Act → World → Prop) (V : Nat → Value → World → Prop) (sk : Nat → Bool) (eff : Nat → Option Nat) (n : Nat) (a0 : Act) (listed : Array Bool) (a : Act) (w : World) : Prop where
  c : ∃ r, r ≤ n ∧ C r a w ∧ ∀ i k, i < l.length → eff i = some k → (listed.getD i false = true ↔ k < r)
  defers : a.defers = a0.defers
  size : a.tmps.size = a0.tmps.size
  old : ∀ t, freeB l t = true → a.tmps.getD t undef = a0.tmps.getD t undef
  val : ∀ (i : Nat) (o : Oper), l[i]? = some o → sk i = false → listed.getD i false = true → V i (slotV o.dst a) w
  unl : ∀ (j : Nat) (oj : Oper) (t : Tmp), l[j]? = some oj → oj.dst = some t → listed.getD j false = false → a.tmps.getD t undef = a0.tmps.getD t undef
  closed : ClosedL l listed
theorem wpAny_seqA {l : List Oper} {R : Nat → World → World → Prop} {C : Nat → Act → World → Prop} {V : Nat → Value → World → Prop} {sk : Nat → Bool} {eff : Nat → Option Nat} {n : Nat} {a0 : Act} (hf : formR l a0.tmps.size = true) (hch : chainB l eff sk n = true)
    (hn : ((List.range l.length).any fun i => eff i == some (n - 1)) = true ∨ n = 0)
    (hC : ∀ r a w i (o : Oper) v, l[i]? = some o → eff i = none → C r a w → C r (a.put o.dst v) w) (hV : ∀ i r v w w', (∀ k, eff i = some k → k < r) → R r w w' → V i v w → V i v w')
    (hstep : StepsA P Q R C V sk eff l a0 0 l)
    (hend : ∀ a w, C n a w → a.defers = a0.defers → a.tmps.size = a0.tmps.size → (∀ t, freeB l t = true → a.tmps.getD t undef = a0.tmps.getD t undef) →
      (∀ (i : Nat) (o : Oper), l[i]? = some o → sk i = false → V i (slotV o.dst a) w) → Q .normal a w) :
    ∀ (fuel : Nat) (listed : Array Bool) (a : Act) (w : World), listed.size = l.length → left l.length listed ≤ fuel → OkayA l C V sk eff n a0 listed a w → wpAny P .any l.toArray Q fuel listed a w := by
  have chain : ∀ i k, i < l.length → eff i = some k → sk i = false ∧ k < n ∧ (∀ j m, j < l.length → eff j = some m → (m = k → i = j) ∧ (m + 1 = k → reach l 3 i j = true)) ∧ (k = 0 ∨ ∃ j, j < l.length ∧ eff j = some (k - 1)) := by
    intro i k hi hk
    have := List.all_eq_true.1 hch i (List.mem_range.2 hi)
    rw [hk] at this
    simp only [Bool.and_eq_true, Bool.not_eq_true'] at this
    obtain ⟨⟨⟨h1, h2⟩, h3⟩, h4⟩ := this
    refine ⟨h1, Nat.blt_eq ▸ h2, fun j m hj hm => ?_, ?_⟩
    · have := List.all_eq_true.1 h3 j (List.mem_range.2 hj)
      rw [hm] at this
      simp only [Bool.and_eq_true, Bool.or_eq_true, bne_iff_ne, beq_iff_eq, ne_eq] at this
      exact ⟨fun e => this.1.resolve_left (fun h => h e), fun e => this.2.resolve_left (fun h => h e)⟩
    · rw [Bool.or_eq_true] at h4
      rcases h4 with h4 | h4
      · exact .inl (by simpa using h4)
      · rw [List.any_eq_true] at h4
        obtain ⟨j, hj, he⟩ := h4
        exact .inr ⟨j, List.mem_range.1 hj, by simpa using he⟩
  have hfin : ∀ (listed : Array Bool) (a : Act) (w : World), listed.size = l.length → OkayA l C V sk eff n a0 listed a w → Region.ready .any l.toArray listed = [] → Q .normal a w := fun listed a w hs hok hr => by
    have hall := readyR_nil hf hs hr
    obtain ⟨r, hrn, hc, hcl⟩ := hok.c
    have hr2 : r = n := by
      rcases hn with h | h
      · rw [List.any_eq_true] at h
        obtain ⟨j, hj, he⟩ := h
        have := (hcl j (n - 1) (List.mem_range.1 hj) (by simpa using he)).1 (hall j (List.mem_range.1 hj))
        omega
      · omega
    subst hr2
    exact hend a w hc hok.defers hok.size hok.old fun i o ho hsk => hok.val i o ho hsk (hall i (List.getElem?_eq_some_iff.1 ho).1)
  intro fuel
  induction fuel with
  | zero =>
    intro listed a w hs hle hok
    have hr : Region.ready .any l.toArray listed = [] := by
      rcases hq : Region.ready .any l.toArray listed with _ | ⟨i, r⟩
      · rfl
      · have hi : i ∈ Region.ready .any l.toArray listed := by rw [hq]; exact List.mem_cons_self ..
        have := left_set hs (mem_ready.1 hi).1
        omega
    exact ⟨hr, hfin listed a w hs hok hr⟩
  | succ fuel ih =>
    intro listed a w hs hle hok
    refine ⟨hfin listed a w hs hok, fun i hi => ?_⟩
    obtain ⟨hun, o, ho, hall⟩ := mem_ready.1 hi
    have hol : l[i]? = some o := by simpa using ho
    have hil : i < l.length := (List.getElem?_eq_some_iff.1 hol).1
    have hij : i < listed.size := by rw [hs]; exact hil
    have hunF : listed.getD i false = false := by
      simp only [Array.getD, hij, dif_pos] at hun ⊢
      exact hun
    obtain ⟨_, hlt⟩ := (formR_spec hf).1 i o hol
    obtain ⟨r, hrn, hc, hcl⟩ := hok.c
    have hst := hstep.at hol
    rw [Nat.zero_add] at hst
    have hallo : ∀ (o' : Oper), l[i]? = some o' → ∀ e ∈ o'.after, Region.binds .any e = true → listed.getD e.on false = true := fun o' ho' e he hb => by
      obtain rfl : o = o' := by rw [hol] at ho'; exact Option.some.inj ho'
      exact hall e he hb
    have hlo : ∀ j k, eff j = some k → reach l 3 i j = true → k < r := fun j k hk hre => by
      have h1 := reach_listed hok.closed 3 i j hre hallo
      have hj : j < l.length := by
        by_cases hj : j < l.length
        · exact hj
        · exfalso
          have : ¬ j < listed.size := by omega
          simp [Array.getD, this] at h1
      exact (hcl j k hj hk).1 h1
    have hhi : ∀ j k, eff j = some k → reach l 3 j i = true → r ≤ k := fun j k hk hre => by
      by_cases hj : j < l.length
      · rcases Nat.lt_or_ge k r with h | h
        · exfalso
          have hlj := (hcl j k hj hk).2 h
          obtain ⟨oj, hoj⟩ : ∃ oj, l[j]? = some oj := ⟨l[j], List.getElem?_eq_getElem hj⟩
          have := reach_listed hok.closed 3 j i hre fun o' ho' e he hb => hok.closed j o' ho' hlj e he hb
          rw [hunF] at this; cases this
        · exact h
      · exfalso
        unfold reach at hre
        rw [List.getElem?_eq_none (by omega)] at hre
        cases hre
    have hrk : ∀ k, eff i = some k → k = r := fun k hk => by
      obtain ⟨_, _, h3, h4⟩ := chain i k hil hk
      have h5 : ¬ k < r := fun h => by
        have := (hcl i k hil hk).2 h
        rw [hunF] at this; cases this
      rcases h4 with h4 | ⟨j, hj, hje⟩
      · omega
      · by_cases hk0 : k = 0
        · omega
        · have := hlo j (k - 1) hje ((h3 j (k - 1) hj hje).2 (by omega))
          omega
    have h1 := hst r a w hc hok.size hok.old (fun k hk hsk ok hkl => by
      rw [List.any_eq_true] at hk
      obtain ⟨e, he, hb⟩ := hk
      rw [Bool.and_eq_true] at hb
      have hek : e.on = k := by simpa using hb.1
      exact hok.val k ok hkl hsk (by rw [← hek]; exact hall e (Array.mem_toList_iff.1 he) hb.2)) (fun j oj t hoj hdt hk => by
      refine hok.unl j oj t hoj hdt ?_
      rw [List.any_eq_true] at hk
      obtain ⟨e, he, hb⟩ := hk
      rw [Bool.and_eq_true] at hb
      have hek : e.on = i := by simpa using hb.1
      cases hlj : listed.getD j false with
      | false => rfl
      | true =>
        have h2 := hok.closed j oj hoj hlj e (Array.mem_toList_iff.1 he) hb.2
        rw [hek, hunF] at h2; cases h2) hlo hhi hrk
    have hold : ∀ v, ∀ t, freeB l t = true → (a.put o.dst v).tmps.getD t undef = a0.tmps.getD t undef := fun v t ht => by
      have hne : o.dst ≠ some t := by
        have := List.all_eq_true.1 ht o (List.mem_of_getElem? hol)
        simpa using this
      rw [put_getD_other hne]; exact hok.old t ht
    have hother : ∀ (v : Value) (j : Nat) (oj : Oper), l[j]? = some oj → j ≠ i → slotV oj.dst (a.put o.dst v) = slotV oj.dst a := fun v j oj hoj hne => by
      cases hjt : oj.dst with
      | none => rfl
      | some t =>
        refine put_getD_other fun hd => hne ?_
        exact ((formR_spec hf).2 i j o oj t hol hoj hd hjt).symm
    have hunl : ∀ v (j : Nat) (oj : Oper) (t : Tmp), l[j]? = some oj → oj.dst = some t → (listed.setIfInBounds i true).getD j false = false → (a.put o.dst v).tmps.getD t undef = a0.tmps.getD t undef := fun v j oj t hoj hdt hlj => by
      have hji : j ≠ i := by
        rintro rfl
        rw [getD_set_same hij] at hlj; cases hlj
      have hne : o.dst ≠ some t := fun hd => hji ((formR_spec hf).2 i j o oj t hol hoj hd hdt).symm
      rw [put_getD_other hne]
      refine hok.unl j oj t hoj hdt ?_
      rw [← getD_set_ne (listed := listed) false (Ne.symm hji)]; exact hlj
    have hclo : ClosedL l (listed.setIfInBounds i true) := fun j oj hoj hlj e he hb => by
      rcases getD_set_cases hlj with rfl | hlj
      · exact getD_set_up hij (hallo oj hoj e he hb)
      · exact getD_set_up hij (hok.closed j oj hoj hlj e he hb)
    have hcl0 : eff i = none → ∀ j k, j < l.length → eff j = some k → ((listed.setIfInBounds i true).getD j false = true ↔ k < r) := fun hn j k hj hk => by
      have hne : i ≠ j := fun e => by subst e; rw [hn] at hk; cases hk
      rw [getD_set_ne false hne]; exact hcl j k hj hk
    unfold wpOp
    simp only [ho]
    by_cases hsk : sk i = true
    · rw [if_pos hsk] at h1
      rw [if_neg (by rw [h1]; decide)]
      have hen : eff i = none := by
        cases he : eff i with
        | none => rfl
        | some k =>
          have := (chain i k hil he).1
          rw [hsk] at this; cases this
      refine ih _ _ _ (by simpa using hs) (by have := left_set hs hun; omega) ⟨⟨r, hrn, hC r a w i o _ hol hen hc, hcl0 hen⟩, by rw [put_defers]; exact hok.defers, by rw [put_size]; exact hok.size, hold _, fun j oj hoj hsj hlj => ?_, hunl _, hclo⟩
      rcases getD_set_cases hlj with rfl | hlj
      · rw [hsk] at hsj; cases hsj
      · have hne : j ≠ i := fun e => by subst e; rw [hsk] at hsj; cases hsj
        rw [hother _ j oj hoj hne]
        exact hok.val j oj hoj hsj hlj
    · rw [if_neg hsk] at h1
      rw [if_pos h1.1]
      refine .inl (Oper.wp_mono ?_ h1.2)
      rintro a' w' ⟨v, rfl, hb, hc', hv⟩
      have hcc : ∃ r', r' ≤ n ∧ C r' (a.put o.dst v) w' ∧ ∀ j k, j < l.length → eff j = some k → ((listed.setIfInBounds i true).getD j false = true ↔ k < r') := by
        cases he : eff i with
        | none =>
          rw [he] at hc'
          obtain rfl : w' = w := hc'
          exact ⟨r, hrn, hC r a w' i o v hol he hc, hcl0 he⟩
        | some k0 =>
          rw [he] at hc'
          obtain rfl := hrk k0 he
          obtain ⟨_, hlt0, h3, _⟩ := chain i k0 hil he
          refine ⟨k0 + 1, hlt0, hc', fun j k hj hk => ?_⟩
          by_cases hje : i = j
          · subst hje
            rw [he] at hk
            obtain rfl := Option.some.inj hk
            rw [getD_set_same hij]
            exact ⟨fun _ => by omega, fun _ => rfl⟩
          · rw [getD_set_ne false hje, hcl j k hj hk]
            have : k ≠ k0 := fun e => hje ((h3 j k hj hk).1 e)
            omega
      refine ih _ _ _ (by simpa using hs) (by have := left_set hs hun; omega) ⟨hcc, by rw [put_defers]; exact hok.defers, by rw [put_size]; exact hok.size, hold _, fun j oj hoj hsj hlj => ?_, hunl _, hclo⟩
      by_cases hji : j = i
      · subst hji
        obtain rfl : o = oj := by rw [hol] at hoj; exact Option.some.inj hoj
        have hsv : slotV o.dst (a.put o.dst v) = kept o.dst v := by
          cases hd : o.dst with
          | none => rfl
          | some t => exact put_getD_same (by rw [hok.size]; exact hlt t hd)
        rw [hsv]
        exact hv
      · rcases getD_set_cases hlj with h | hlj
        · exact (hji h).elim
        · rw [hother _ j oj hoj hji]
          exact hV j r _ w w' (fun k hk => (hcl j k (List.getElem?_eq_some_iff.1 hoj).1 hk).1 hlj) hb (hok.val j oj hoj hsj hlj)
/-- a region that draws its order, its calls and stores in a chain -/
theorem wp_region_seqA {id : Nat} {l : List Oper} {a0 : Act} {w : World} (hm : P.follows .mixedOrders = true) (R : Nat → World → World → Prop) (C : Nat → Act → World → Prop) (V : Nat → Value → World → Prop) (sk : Nat → Bool) (eff : Nat → Option Nat) (n : Nat) (hf : formR l a0.tmps.size = true)
    (hch : chainB l eff sk n = true) (hn : ((List.range l.length).any fun i => eff i == some (n - 1)) = true ∨ n = 0)
    (hC : ∀ r a w i (o : Oper) v, l[i]? = some o → eff i = none → C r a w → C r (a.put o.dst v) w) (hV : ∀ i r v w w', (∀ k, eff i = some k → k < r) → R r w w' → V i v w → V i v w') (h0 : C 0 a0 w.drew)
    (hstep : StepsA P Q R C V sk eff l a0 0 l)
    (hend : ∀ a w, C n a w → a.defers = a0.defers → a.tmps.size = a0.tmps.size → (∀ t, freeB l t = true → a.tmps.getD t undef = a0.tmps.getD t undef) →
      (∀ (i : Nat) (o : Oper), l[i]? = some o → sk i = false → V i (slotV o.dst a) w) → Q .normal a w) : (Code.region id l.toArray true).wp P Q a0 w := by
  refine wp_region_any hm ?_
  have hnn : (Array.replicate l.toArray.size false).size = l.length := by simp
  have hz : ∀ i, i < l.length → (Array.replicate l.toArray.size false).getD i false = false := fun i hi => by simp [Array.getD, hi]
  refine wpAny_seqA hf hch hn hC hV hstep hend _ _ _ _ hnn ?_ ⟨⟨0, Nat.zero_le _, h0, fun i k hi _ => ?_⟩, rfl, rfl, fun t _ => rfl, fun i o ho _ hl => ?_, fun _ _ _ _ _ _ => rfl, fun j oj hoj hl => ?_⟩
  · have := List.length_filter_le (fun i => !(Array.replicate l.toArray.size false).getD i true) (List.range l.length)
    unfold left
    simpa using this
  · rw [hz i hi]; simp
  · rw [hz i (List.getElem?_eq_some_iff.1 ho).1] at hl; cases hl
  · rw [hz j (List.getElem?_eq_some_iff.1 hoj).1] at hl; cases hl
end
/-- the slot is written by links alone -/
def keepsB (l : List Oper) (eff : Nat → Option Nat) (t : Tmp) : Bool := (List.range l.length).all fun i => (eff i).isSome || (match l[i]? with | some o => !(o.dst == some t) | none => true)
theorem dst_ne {l : List Oper} {eff : Nat → Option Nat} {t : Tmp} (h : keepsB l eff t = true) {i : Nat} {o : Oper} (ho : l[i]? = some o) (he : eff i = none) : o.dst ≠ some t := by
  have h1 := List.all_eq_true.1 h i (List.mem_range.2 (List.getElem?_eq_some_iff.1 ho).1)
  rw [he, ho] at h1
  simpa using h1
theorem keepsA1 {l : List Oper} {eff : Nat → Option Nat} (t : Tmp) (h : keepsB l eff t = true) (C : Nat → Value → World → Prop) : ∀ (r : Nat) (a : Act) (w : World) (i : Nat) (o : Oper) (v : Value), l[i]? = some o → eff i = none → C r (a.tmps.getD t undef) w → C r ((a.put o.dst v).tmps.getD t undef) w :=
  fun r a w i o v ho he hc => by rw [put_getD_other (dst_ne h ho he)]; exact hc
theorem keepsA2 {l : List Oper} {eff : Nat → Option Nat} (t u : Tmp) (h : keepsB l eff t = true) (h2 : keepsB l eff u = true) (C : Nat → Value → Value → World → Prop) : ∀ (r : Nat) (a : Act) (w : World) (i : Nat) (o : Oper) (v : Value), l[i]? = some o → eff i = none → C r (a.tmps.getD t undef) (a.tmps.getD u undef) w → C r ((a.put o.dst v).tmps.getD t undef) ((a.put o.dst v).tmps.getD u undef) w :=
  fun r a w i o v ho he hc => by rw [put_getD_other (dst_ne h ho he), put_getD_other (dst_ne h2 ho he)]; exact hc
theorem keepsA3 {l : List Oper} {eff : Nat → Option Nat} (t u x : Tmp) (h : keepsB l eff t = true) (h2 : keepsB l eff u = true) (h3 : keepsB l eff x = true) (C : Nat → Value → Value → Value → World → Prop) : ∀ (r : Nat) (a : Act) (w : World) (i : Nat) (o : Oper) (v : Value), l[i]? = some o → eff i = none → C r (a.tmps.getD t undef) (a.tmps.getD u undef) (a.tmps.getD x undef) w → C r ((a.put o.dst v).tmps.getD t undef) ((a.put o.dst v).tmps.getD u undef) ((a.put o.dst v).tmps.getD x undef) w :=
  fun r a w i o v ho he hc => by rw [put_getD_other (dst_ne h ho he), put_getD_other (dst_ne h2 ho he), put_getD_other (dst_ne h3 ho he)]; exact hc
end Go.Proofs.Ytpncjadhpnapnaa
