/- The law 'masterdisc/masterdisclaw13.DefectReturns' returns true for every input, and leaves its arguments as they were. -/
import Derived.Test.YtjnedcncfdpjoaaInr
import Derived.Test.YtjnedcncfdpjoaaEj
import Derived.Test.YtjnedcncfdpjoaaEn3
import Derived.Test.YtjnedcncfdpjoaaQc
import Derived.Test.YtjnedcncfdpjoaaTk
import Derived.Test.YtjnedcncfdpjoaaTocApp
import Derived.Outline
import Derived.Test.YtjnedcncfdpjoaaChecked
import Derived.Maps.OwnOps
import Derived.Maps.OwnSet
import Derived.Maps.Views
import Derived.WideKeyEntry
import Derived.Below
import Derived.ProofKit
import Derived.WalkKit
import Derived.Test.YtjnedcncfdpjoaaRows
import Derived.Test.YtjnedcncfdpjoaaOpen
/- A region that draws its order, as in XInr; a slot may be read that a later operation of the region writes. No program is named here. -/
namespace Go.Proofs.Ytjnedcncfdpjoaa
open Go.RowKit
set_option linter.unusedVariables false

section
variable {P : Program} {Q : Exit → Act → World → Prop}
/-- an operation, and what it leans on; 'sk': it is skipped by its guard -/
def StepR2 (P : Program) (Q : Exit → Act → World → Prop) (R : World → World → Prop) (C : World → Prop) (V : Nat → Value → World → Prop) (sk : Nat → Bool) (l : List Oper) (a0 : Act) (i : Nat) (o : Oper) : Prop :=
  ∀ a w, C w → a.tmps.size = a0.tmps.size → (∀ t, freeB l t = true → a.tmps.getD t undef = a0.tmps.getD t undef) →
    (∀ k, (o.after.toList.any fun e => e.on == k && Region.binds .any e) = true → sk k = false → ∀ (ok : Oper), l[k]? = some ok → V k (slotV ok.dst a) w) →
    (∀ (j : Nat) (oj : Oper) (t : Tmp), l[j]? = some oj → oj.dst = some t → (oj.after.toList.any fun e => e.on == i && Region.binds .any e) = true → a.tmps.getD t undef = a0.tmps.getD t undef) →
    if sk i then Region.wanted o (yielded l.toArray a.tmps) = false
    else Region.wanted o (yielded l.toArray a.tmps) = true ∧ o.wp P a w (fun a' w' => ∃ v, a' = a.put o.dst v ∧ R w w' ∧ V i (kept o.dst v) w') Q
def StepsR2 (P : Program) (Q : Exit → Act → World → Prop) (R : World → World → Prop) (C : World → Prop) (V : Nat → Value → World → Prop) (sk : Nat → Bool) (l : List Oper) (a0 : Act) : Nat → List Oper → Prop
  | _, [] => True
  | i, o :: r => StepR2 P Q R C V sk l a0 i o ∧ StepsR2 P Q R C V sk l a0 (i + 1) r
theorem StepsR2.at {R : World → World → Prop} {C : World → Prop} {V : Nat → Value → World → Prop} {sk : Nat → Bool} {l : List Oper} {a0 : Act} : ∀ {i : Nat} {r : List Oper}, StepsR2 P Q R C V sk l a0 i r → ∀ {j : Nat} {o : Oper}, r[j]? = some o → StepR2 P Q R C V sk l a0 (i + j) o
  | i, [], _, j, o, h => by simp at h
  | i, x :: r, h, 0, o, ho => by
    have : x = o := by simpa using ho
    subst this; exact h.1
  | i, x :: r, h, j + 1, o, ho => by
    have := StepsR2.at h.2 (j := j) (o := o) (by simpa using ho)
    rwa [Nat.add_assoc, Nat.add_comm 1 j] at this
/-- where the region stands -/
structure OkayR2 (l : List Oper) (C : World → Prop) (V : Nat → Value → World → Prop) (sk : Nat → Bool) (a0 : Act) (listed : Array Bool) (a : Act) (w : World) : Prop where
  c : C w
  defers : a.defers = a0.defers
  size : a.tmps.size = a0.tmps.size
  old : ∀ t, freeB l t = true → a.tmps.getD t undef = a0.tmps.getD t undef
  val : ∀ (i : Nat) (o : Oper), l[i]? = some o → sk i = false → listed.getD i false = true → V i (slotV o.dst a) w
  unl : ∀ (j : Nat) (oj : Oper) (t : Tmp), l[j]? = some oj → oj.dst = some t → listed.getD j false = false → a.tmps.getD t undef = a0.tmps.getD t undef
  closed : ∀ (j : Nat) (oj : Oper), l[j]? = some oj → listed.getD j false = true → ∀ e ∈ oj.after, Region.binds .any e = true → listed.getD e.on false = true
theorem wpAny_in2 {l : List Oper} {R : World → World → Prop} {C : World → Prop} {V : Nat → Value → World → Prop} {sk : Nat → Bool} {a0 : Act} (hf : formR l a0.tmps.size = true)
    (hC : ∀ w w', R w w' → C w → C w') (hV : ∀ i v w w', R w w' → V i v w → V i v w')
    (hstep : StepsR2 P Q R C V sk l a0 0 l)
    (hend : ∀ a w, C w → a.defers = a0.defers → a.tmps.size = a0.tmps.size → (∀ t, freeB l t = true → a.tmps.getD t undef = a0.tmps.getD t undef) →
      (∀ (i : Nat) (o : Oper), l[i]? = some o → sk i = false → V i (slotV o.dst a) w) → Q .normal a w) :
    ∀ (fuel : Nat) (listed : Array Bool) (a : Act) (w : World), listed.size = l.length → left l.length listed ≤ fuel → OkayR2 l C V sk a0 listed a w → wpAny P .any l.toArray Q fuel listed a w := by
  have hfin : ∀ (listed : Array Bool) (a : Act) (w : World), listed.size = l.length → OkayR2 l C V sk a0 listed a w → Region.ready .any l.toArray listed = [] → Q .normal a w := fun listed a w hs hok hr =>
    hend a w hok.c hok.defers hok.size hok.old fun i o ho hsk => hok.val i o ho hsk (readyR_nil hf hs hr i (List.getElem?_eq_some_iff.1 ho).1)
  intro fuel
  induction fuel with
  | zero =>
    intro listed a w hs hle hok
    have hr : Region.ready .any l.toArray listed = [] := by
      rcases hq : Region.ready .any l.toArray listed with _ | ⟨i, r⟩
      · rfl
      · have hi : i ∈ Region.ready .any l.toArray listed := by rw [hq]; exact List.mem_cons_self ..
        have := left_set hs (mem_ready.1 hi).1
        omega
    exact ⟨hr, hfin listed a w hs hok hr⟩
  | succ fuel ih =>
    intro listed a w hs hle hok
    refine ⟨hfin listed a w hs hok, fun i hi => ?_⟩
    obtain ⟨hun, o, ho, hall⟩ := mem_ready.1 hi
    have hol : l[i]? = some o := by simpa using ho
    obtain ⟨_, hlt⟩ := (formR_spec hf).1 i o hol
    have hst := hstep.at hol
    rw [Nat.zero_add] at hst
    have h1 := hst a w hok.c hok.size hok.old fun k hk hsk ok hkl => by
      rw [List.any_eq_true] at hk
      obtain ⟨e, he, hb⟩ := hk
      rw [Bool.and_eq_true] at hb
      have hek : e.on = k := by simpa using hb.1
      exact hok.val k ok hkl hsk (by rw [← hek]; exact hall e (Array.mem_toList_iff.1 he) hb.2)
    replace h1 := h1 fun j oj t hoj hdt hk => by
      refine hok.unl j oj t hoj hdt ?_
      rw [List.any_eq_true] at hk
      obtain ⟨e, he, hb⟩ := hk
      rw [Bool.and_eq_true] at hb
      have hek : e.on = i := by simpa using hb.1
      cases hlj : listed.getD j false with
      | false => rfl
      | true =>
        have h2 := hok.closed j oj hoj hlj e (Array.mem_toList_iff.1 he) hb.2
        rw [hek] at h2
        have h3 : i < listed.size := by rw [hs]; exact (List.getElem?_eq_some_iff.1 hol).1
        simp only [Array.getD, h3, dif_pos] at hun h2
        rw [hun] at h2; exact absurd h2 (by decide)
    have hunl : ∀ v (j : Nat) (oj : Oper) (t : Tmp), l[j]? = some oj → oj.dst = some t → (listed.setIfInBounds i true).getD j false = false → (a.put o.dst v).tmps.getD t undef = a0.tmps.getD t undef := fun v j oj t hoj hdt hlj => by
      have hij : i < listed.size := by rw [hs]; exact (List.getElem?_eq_some_iff.1 hol).1
      have hji : j ≠ i := by
        rintro rfl
        simp [Array.getD, hij] at hlj
      have hne : o.dst ≠ some t := fun hd => hji ((formR_spec hf).2 i j o oj t hol hoj hd hdt).symm
      rw [put_getD_other hne]
      refine hok.unl j oj t hoj hdt ?_
      cases hlj2 : listed.getD j false with
      | false => rfl
      | true =>
        rw [← hlj, ← hlj2]
        simp only [Array.getD_eq_getD_getElem?, Array.getElem?_setIfInBounds]
        rw [if_neg (Ne.symm hji)]
    have hcl : ∀ (j : Nat) (oj : Oper), l[j]? = some oj → (listed.setIfInBounds i true).getD j false = true → ∀ e ∈ oj.after, Region.binds .any e = true → (listed.setIfInBounds i true).getD e.on false = true := fun j oj hoj hlj e he hb => by
      have up : ∀ k, listed.getD k false = true → (listed.setIfInBounds i true).getD k false = true := fun k hk => by
        have hij : i < listed.size := by rw [hs]; exact (List.getElem?_eq_some_iff.1 hol).1
        simp only [Array.getD_eq_getD_getElem?, Array.getElem?_setIfInBounds] at hk ⊢
        split
        · simp
        · exact hk
      rcases getD_set_cases hlj with rfl | hlj
      · obtain rfl : o = oj := by rw [hol] at hoj; exact Option.some.inj hoj
        exact up _ (hall e he hb)
      · exact up _ (hok.closed j oj hoj hlj e he hb)
    have hold : ∀ v, ∀ t, freeB l t = true → (a.put o.dst v).tmps.getD t undef = a0.tmps.getD t undef := fun v t ht => by
      have hne : o.dst ≠ some t := by
        have := List.all_eq_true.1 ht o (List.mem_of_getElem? hol)
        simpa using this
      rw [put_getD_other hne]; exact hok.old t ht
    have hother : ∀ (v : Value) (j : Nat) (oj : Oper), l[j]? = some oj → j ≠ i → slotV oj.dst (a.put o.dst v) = slotV oj.dst a := fun v j oj hoj hne => by
      cases hjt : oj.dst with
      | none => rfl
      | some t =>
        refine put_getD_other fun hd => hne ?_
        exact ((formR_spec hf).2 i j o oj t hol hoj hd hjt).symm
    unfold wpOp
    simp only [ho]
    by_cases hsk : sk i = true
    · rw [if_pos hsk] at h1
      rw [if_neg (by rw [h1]; decide)]
      refine ih _ _ _ (by simpa using hs) (by have := left_set hs hun; omega) ⟨hok.c, by rw [put_defers]; exact hok.defers, by rw [put_size]; exact hok.size, hold _, fun j oj hoj hsj hlj => ?_, hunl _, hcl⟩
      rcases getD_set_cases hlj with rfl | hlj
      · rw [hsk] at hsj; cases hsj
      · have hne : j ≠ i := fun e => by subst e; rw [hsk] at hsj; cases hsj
        rw [hother _ j oj hoj hne]
        exact hok.val j oj hoj hsj hlj
    · rw [if_neg hsk] at h1
      rw [if_pos h1.1]
      refine .inl (Oper.wp_mono ?_ h1.2)
      rintro a' w' ⟨v, rfl, hb, hv⟩
      refine ih _ _ _ (by simpa using hs) (by have := left_set hs hun; omega) ⟨hC _ _ hb hok.c, by rw [put_defers]; exact hok.defers, by rw [put_size]; exact hok.size, hold _, fun j oj hoj hsj hlj => ?_, hunl _, hcl⟩
      by_cases hji : j = i
      · subst hji
        obtain rfl : o = oj := by rw [hol] at hoj; exact Option.some.inj hoj
        have hsv : slotV o.dst (a.put o.dst v) = kept o.dst v := by
          cases hd : o.dst with
          | none => rfl
          | some t => exact put_getD_same (by rw [hok.size]; exact hlt t hd)
        rw [hsv]
        exact hv
      · rcases getD_set_cases hlj with h | hlj
        · exact (hji h).elim
        · rw [hother _ j oj hoj hji]
          exact hV j _ w w' hb (hok.val j oj hoj hsj hlj)
/-- a region that draws its order, every operation alone; stores and guards too -/
theorem wp_region_in2 {id : Nat} {l : List Oper} {a0 : Act} {w : World} (hm : P.follows .mixedOrders = true) (R : World → World → Prop) (C : World → Prop) (V : Nat → Value → World → Prop) (sk : Nat → Bool) (hf : formR l a0.tmps.size = true)
    (hC : ∀ w w', R w w' → C w → C w') (hV : ∀ i v w w', R w w' → V i v w → V i v w') (h0 : C w.drew)
    (hstep : StepsR2 P Q R C V sk l a0 0 l)
    (hend : ∀ a w, C w → a.defers = a0.defers → a.tmps.size = a0.tmps.size → (∀ t, freeB l t = true → a.tmps.getD t undef = a0.tmps.getD t undef) →
      (∀ (i : Nat) (o : Oper), l[i]? = some o → sk i = false → V i (slotV o.dst a) w) → Q .normal a w) : (Code.region id l.toArray true).wp P Q a0 w := by
  refine wp_region_any hm ?_
  have hn : (Array.replicate l.toArray.size false).size = l.length := by simp
  refine wpAny_in2 hf hC hV hstep hend _ _ _ _ hn ?_ ⟨h0, rfl, rfl, fun t _ => rfl, fun i o ho _ hl => ?_, fun _ _ _ _ _ _ => rfl, fun j oj hoj hl => ?_⟩
  · have := List.length_filter_le (fun i => !(Array.replicate l.toArray.size false).getD i true) (List.range l.length)
    unfold left
    simpa using this
  · exfalso
    have hi := (List.getElem?_eq_some_iff.1 ho).1
    simp [Array.getD, hi] at hl
  · exfalso
    have hi := (List.getElem?_eq_some_iff.1 hoj).1
    simp [Array.getD, hi] at hl
end
end Go.Proofs.Ytjnedcncfdpjoaa
/- A region that draws its order and whose calls and stores are in a chain: every operation once; 'C r' is the world behind the first 'r' links of the chain. No program is named here. -/
namespace Go.Proofs.Ytjnedcncfdpjoaa
open Go.RowKit
set_option linter.unusedVariables false

/-- 'i' comes behind 'j' -/
def reach (l : List Oper) : Nat → Nat → Nat → Bool
  | 0, _, _ => false
  | f + 1, i, j => match l[i]? with
    | some o => o.after.toList.any fun e => Region.binds .any e && (e.on == j || reach l f e.on j)
    | none => false
/-- the listed ones lean on listed ones -/
def ClosedL (l : List Oper) (listed : Array Bool) : Prop := ∀ (j : Nat) (oj : Oper), l[j]? = some oj → listed.getD j false = true → ∀ e ∈ oj.after, Region.binds .any e = true → listed.getD e.on false = true
theorem reach_listed {l : List Oper} {listed : Array Bool} (hc : ClosedL l listed) : ∀ (f i j : Nat), reach l f i j = true → (∀ (o : Oper), l[i]? = some o → ∀ e ∈ o.after, Region.binds .any e = true → listed.getD e.on false = true) → listed.getD j false = true
  | 0, _, _, h, _ => by simp [reach] at h
  | f + 1, i, j, h, ha => by
    unfold reach at h
    split at h
    · rename_i o ho
      rw [List.any_eq_true] at h
      obtain ⟨e, he, hb⟩ := h
      rw [Bool.and_eq_true, Bool.or_eq_true] at hb
      have he' := Array.mem_toList_iff.1 he
      have h1 := ha o ho e he' hb.1
      rcases hb.2 with h2 | h2
      · have : e.on = j := by simpa using h2
        rw [← this]; exact h1
      · exact reach_listed hc f e.on j h2 fun o' ho' e' he' hb' => hc e.on o' ho' h1 e' he' hb'
    · cases h
/-- the chain: 'eff i' is the number of the link that the operation 'i' is -/
def chainB (l : List Oper) (eff : Nat → Option Nat) (sk : Nat → Bool) (n : Nat) : Bool :=
  (List.range l.length).all fun i => match eff i with
    | none => true
    | some k => !sk i && Nat.blt k n && ((List.range l.length).all fun j => match eff j with
      | none => true
      | some m => (m != k || i == j) && (m + 1 != k || reach l 3 i j)) && (k == 0 || (List.range l.length).any fun j => eff j == some (k - 1))
section
variable {P : Program} {Q : Exit → Act → World → Prop}
def StepS (P : Program) (Q : Exit → Act → World → Prop) (R : Nat → World → World → Prop) (C : Nat → World → Prop) (V : Nat → Value → World → Prop) (sk : Nat → Bool) (eff : Nat → Option Nat) (l : List Oper) (a0 : Act) (i : Nat) (o : Oper) : Prop :=
  ∀ (r : Nat) a w, C r w → a.tmps.size = a0.tmps.size → (∀ t, freeB l t = true → a.tmps.getD t undef = a0.tmps.getD t undef) →
    (∀ k, (o.after.toList.any fun e => e.on == k && Region.binds .any e) = true → sk k = false → ∀ (ok : Oper), l[k]? = some ok → V k (slotV ok.dst a) w) →
    (∀ (j : Nat) (oj : Oper) (t : Tmp), l[j]? = some oj → oj.dst = some t → (oj.after.toList.any fun e => e.on == i && Region.binds .any e) = true → a.tmps.getD t undef = a0.tmps.getD t undef) →
    (∀ j k, eff j = some k → reach l 3 i j = true → k < r) → (∀ j k, eff j = some k → reach l 3 j i = true → r ≤ k) → (∀ k, eff i = some k → k = r) →
    if sk i then Region.wanted o (yielded l.toArray a.tmps) = false
    else Region.wanted o (yielded l.toArray a.tmps) = true ∧ o.wp P a w (fun a' w' => ∃ v, a' = a.put o.dst v ∧ R r w w' ∧ C (if (eff i).isSome then r + 1 else r) w' ∧ V i (kept o.dst v) w') Q
def StepsS (P : Program) (Q : Exit → Act → World → Prop) (R : Nat → World → World → Prop) (C : Nat → World → Prop) (V : Nat → Value → World → Prop) (sk : Nat → Bool) (eff : Nat → Option Nat) (l : List Oper) (a0 : Act) : Nat → List Oper → Prop
  | _, [] => True
  | i, o :: r => StepS P Q R C V sk eff l a0 i o ∧ StepsS P Q R C V sk eff l a0 (i + 1) r
theorem StepsS.at {R : Nat → World → World → Prop} {C : Nat → World → Prop} {V : Nat → Value → World → Prop} {sk : Nat → Bool} {eff : Nat → Option Nat} {l : List Oper} {a0 : Act} : ∀ {i : Nat} {r : List Oper}, StepsS P Q R C V sk eff l a0 i r → ∀ {j : Nat} {o : Oper}, r[j]? = some o → StepS P Q R C V sk eff l a0 (i + j) o
  | i, [], _, j, o, h => by simp at h
  | i, x :: r, h, 0, o, ho => by
    have : x = o := by simpa using ho
    subst this; exact h.1
  | i, x :: r, h, j + 1, o, ho => by
    have := StepsS.at h.2 (j := j) (o := o) (by simpa using ho)
    rwa [Nat.add_assoc, Nat.add_comm 1 j] at this
theorem stepS_val {R : World → World → Prop} {C : Nat → World → Prop} {V : Nat → Value → World → Prop} {i r : Nat} {o : Oper} {a : Act} {w : World} {v : Value} (hr : R w w) (hc : C r w) (hv : V i (kept o.dst v) w) (h : ∀ K : Act → World → Prop, K (a.put o.dst v) w → o.wp P a w K Q) :
    o.wp P a w (fun a' w' => ∃ v, a' = a.put o.dst v ∧ R w w' ∧ C r w' ∧ V i (kept o.dst v) w') Q := h _ ⟨v, rfl, hr, hc, hv⟩
theorem stepS_new {R : World → World → Prop} {C : Nat → World → Prop} {V : Nat → Value → World → Prop} {i r : Nat} {o : Oper} {a : Act} {w w' : World} {v : Value} (hr : R w w') (hc : C r w') (hv : V i (kept o.dst v) w') (h : ∀ K : Act → World → Prop, K (a.put o.dst v) w' → o.wp P a w K Q) :
    o.wp P a w (fun a' w' => ∃ v, a' = a.put o.dst v ∧ R w w' ∧ C r w' ∧ V i (kept o.dst v) w') Q := h _ ⟨v, rfl, hr, hc, hv⟩
theorem stepS_call2 {R : World → World → Prop} {C : Nat → World → Prop} {V : Nat → Value → World → Prop} {i r : Nat} {o : Oper} {a : Act} {w : World} {v : Value} (h : ∀ K : Act → World → Prop, (∀ w', R w w' → C r w' → V i (kept o.dst v) w' → K (a.put o.dst v) w') → o.wp P a w K Q) :
    o.wp P a w (fun a' w' => ∃ v, a' = a.put o.dst v ∧ R w w' ∧ C r w' ∧ V i (kept o.dst v) w') Q := h _ fun w' h1 h2 h3 => ⟨v, rfl, h1, h2, h3⟩
/-- 'append(v, s...)' as an operation -/
theorem op_app {o : Oper} {a : Act} {K : Act → World → Prop} {w : World} (s x : Operand) {t : TypeId}
    (hop : o.op = .call { callee := .builtin .append, args := #[s, x], argTypes := #[t, t] }) {e : TypeId} {i : TypeInfo} {z : Value} {size bytes base : Nat}
    (ht : P.underlying t = some (.slice e)) (hi : P.info? e = some i) (hz : i.zero = some z) (hsize : i.size = size) (hby : i.bytes = bytes) (hzs : z.cells.size = size) (hsz : 0 < size)
    {v : Value} {n : Nat} {xs : List Value} (hown : w.ownsRow base e size v n xs) (hv : a.eval s = v) {vs : Value} {m : Nat} {news : List Value} (hs : Reads w size vs m news) (hx : a.eval x = vs) (h1 : ∀ u ∈ news, u.oneCell' = true)
    (h63 : n + m ≤ maxLen) (hbytes : (n + m) * bytes ≤ 140737488355328) (hbase : base ≤ w.heap.size)
    (hK : ∀ v' w', w'.ownsRow base e size v' (n + m) (xs ++ news) → w.grownBy w' v.ownBlock → K (a.put o.dst v') w') : o.wp P a w K Q := by
  obtain ⟨v', w', hrun, r1, r2, r3⟩ := run_app (ty := o.type) ht hi hz hsize hby hzs hsz hown hs h1 h63 hbytes hbase
  unfold Oper.wp
  simp [execOp, hop, resolve, invoke, builtin, hv, hx, hrun, Result.andThen]
  exact hK v' w' r1 r2
/-- where the region stands -/
structure OkayS (l : List Oper) (C : Nat → World → Prop) (V : Nat → Value → World → Prop) (sk : Nat → Bool) (eff : Nat → Option Nat) (n : Nat) (a0 : Act) (listed : Array Bool) (a : Act) (w : World) : Prop where
  c : ∃ r, r ≤ n ∧ C r w ∧ ∀ i k, i < l.length → eff i = some k → (listed.getD i false = true ↔ k < r)
  defers : a.defers = a0.defers
  size : a.tmps.size = a0.tmps.size
  old : ∀ t, freeB l t = true → a.tmps.getD t undef = a0.tmps.getD t undef
  val : ∀ (i : Nat) (o : Oper), l[i]? = some o → sk i = false → listed.getD i false = true → V i (slotV o.dst a) w
  unl : ∀ (j : Nat) (oj : Oper) (t : Tmp), l[j]? = some oj → oj.dst = some t → listed.getD j false = false → a.tmps.getD t undef = a0.tmps.getD t undef
  closed : ClosedL l listed
theorem getD_set_same {listed : Array Bool} {i : Nat} (h : i < listed.size) : (listed.setIfInBounds i true).getD i false = true := by simp [Array.getD, h]
theorem getD_set_up {listed : Array Bool} {i k : Nat} (h : i < listed.size) (hk : listed.getD k false = true) : (listed.setIfInBounds i true).getD k false = true := by
  by_cases e : i = k
  · subst e; exact getD_set_same h
  · rw [getD_set_ne false e]; exact hk
theorem wpAny_seq {l : List Oper} {R : Nat → World → World → Prop} {C : Nat → World → Prop} {V : Nat → Value → World → Prop} {sk : Nat → Bool} {eff : Nat → Option Nat} {n : Nat} {a0 : Act} (hf : formR l a0.tmps.size = true) (hch : chainB l eff sk n = true)
    (hn : ((List.range l.length).any fun i => eff i == some (n - 1)) = true ∨ n = 0)
    (hV : ∀ i r v w w', (∀ k, eff i = some k → k < r) → R r w w' → V i v w → V i v w')
    (hstep : StepsS P Q R C V sk eff l a0 0 l)
    (hend : ∀ a w, C n w → a.defers = a0.defers → a.tmps.size = a0.tmps.size → (∀ t, freeB l t = true → a.tmps.getD t undef = a0.tmps.getD t undef) →
      (∀ (i : Nat) (o : Oper), l[i]? = some o → sk i = false → V i (slotV o.dst a) w) → Q .normal a w) :
    ∀ (fuel : Nat) (listed : Array Bool) (a : Act) (w : World), listed.size = l.length → left l.length listed ≤ fuel → OkayS l C V sk eff n a0 listed a w → wpAny P .any l.toArray Q fuel listed a w := by
  have chain : ∀ i k, i < l.length → eff i = some k → sk i = false ∧ k < n ∧ (∀ j m, j < l.length → eff j = some m → (m = k → i = j) ∧ (m + 1 = k → reach l 3 i j = true)) ∧ (k = 0 ∨ ∃ j, j < l.length ∧ eff j = some (k - 1)) := by
    intro i k hi hk
    have := List.all_eq_true.1 hch i (List.mem_range.2 hi)
    rw [hk] at this
    simp only [Bool.and_eq_true, Bool.not_eq_true'] at this
    obtain ⟨⟨⟨h1, h2⟩, h3⟩, h4⟩ := this
    refine ⟨h1, Nat.blt_eq ▸ h2, fun j m hj hm => ?_, ?_⟩
    · have := List.all_eq_true.1 h3 j (List.mem_range.2 hj)
      rw [hm] at this
      simp only [Bool.and_eq_true, Bool.or_eq_true, bne_iff_ne, beq_iff_eq, ne_eq] at this
      exact ⟨fun e => this.1.resolve_left (fun h => h e), fun e => this.2.resolve_left (fun h => h e)⟩
    · rw [Bool.or_eq_true] at h4
      rcases h4 with h4 | h4
      · exact .inl (by simpa using h4)
      · rw [List.any_eq_true] at h4
        obtain ⟨j, hj, he⟩ := h4
        exact .inr ⟨j, List.mem_range.1 hj, by simpa using he⟩
  have hfin : ∀ (listed : Array Bool) (a : Act) (w : World), listed.size = l.length → OkayS l C V sk eff n a0 listed a w → Region.ready .any l.toArray listed = [] → Q .normal a w := fun listed a w hs hok hr => by
    have hall := readyR_nil hf hs hr
    obtain ⟨r, hrn, hc, hcl⟩ := hok.c
    have hr2 : r = n := by
      rcases hn with h | h
      · rw [List.any_eq_true] at h
        obtain ⟨j, hj, he⟩ := h
        have := (hcl j (n - 1) (List.mem_range.1 hj) (by simpa using he)).1 (hall j (List.mem_range.1 hj))
        omega
      · omega
    subst hr2
    exact hend a w hc hok.defers hok.size hok.old fun i o ho hsk => hok.val i o ho hsk (hall i (List.getElem?_eq_some_iff.1 ho).1)
  intro fuel
  induction fuel with
  | zero =>
    intro listed a w hs hle hok
    have hr : Region.ready .any l.toArray listed = [] := by
      rcases hq : Region.ready .any l.toArray listed with _ | ⟨i, r⟩
      · rfl
      · have hi : i ∈ Region.ready .any l.toArray listed := by rw [hq]; exact List.mem_cons_self ..
        have := left_set hs (mem_ready.1 hi).1
        omega
    exact ⟨hr, hfin listed a w hs hok hr⟩
  | succ fuel ih =>
    intro listed a w hs hle hok
    refine ⟨hfin listed a w hs hok, fun i hi => ?_⟩
    obtain ⟨hun, o, ho, hall⟩ := mem_ready.1 hi
    have hol : l[i]? = some o := by simpa using ho
    have hil : i < l.length := (List.getElem?_eq_some_iff.1 hol).1
    have hij : i < listed.size := by rw [hs]; exact hil
    have hunF : listed.getD i false = false := by
      simp only [Array.getD, hij, dif_pos] at hun ⊢
      exact hun
    obtain ⟨_, hlt⟩ := (formR_spec hf).1 i o hol
    obtain ⟨r, hrn, hc, hcl⟩ := hok.c
    have hst := hstep.at hol
    rw [Nat.zero_add] at hst
    have hallo : ∀ (o' : Oper), l[i]? = some o' → ∀ e ∈ o'.after, Region.binds .any e = true → listed.getD e.on false = true := fun o' ho' e he hb => by
      obtain rfl : o = o' := by rw [hol] at ho'; exact Option.some.inj ho'
      exact hall e he hb
    have hlo : ∀ j k, eff j = some k → reach l 3 i j = true → k < r := fun j k hk hre => by
      have h1 := reach_listed hok.closed 3 i j hre hallo
      have hj : j < l.length := by
        by_cases hj : j < l.length
        · exact hj
        · exfalso
          have : ¬ j < listed.size := by omega
          simp [Array.getD, this] at h1
      exact (hcl j k hj hk).1 h1
    have hhi : ∀ j k, eff j = some k → reach l 3 j i = true → r ≤ k := fun j k hk hre => by
      by_cases hj : j < l.length
      · rcases Nat.lt_or_ge k r with h | h
        · exfalso
          have hlj := (hcl j k hj hk).2 h
          obtain ⟨oj, hoj⟩ : ∃ oj, l[j]? = some oj := ⟨l[j], List.getElem?_eq_getElem hj⟩
          have := reach_listed hok.closed 3 j i hre fun o' ho' e he hb => hok.closed j o' ho' hlj e he hb
          rw [hunF] at this; cases this
        · exact h
      · exfalso
        unfold reach at hre
        rw [List.getElem?_eq_none (by omega)] at hre
        cases hre
    have hrk : ∀ k, eff i = some k → k = r := fun k hk => by
      obtain ⟨_, _, h3, h4⟩ := chain i k hil hk
      have h5 : ¬ k < r := fun h => by
        have := (hcl i k hil hk).2 h
        rw [hunF] at this; cases this
      rcases h4 with h4 | ⟨j, hj, hje⟩
      · omega
      · by_cases hk0 : k = 0
        · omega
        · have := hlo j (k - 1) hje ((h3 j (k - 1) hj hje).2 (by omega))
          omega
    have h1 := hst r a w hc hok.size hok.old (fun k hk hsk ok hkl => by
      rw [List.any_eq_true] at hk
      obtain ⟨e, he, hb⟩ := hk
      rw [Bool.and_eq_true] at hb
      have hek : e.on = k := by simpa using hb.1
      exact hok.val k ok hkl hsk (by rw [← hek]; exact hall e (Array.mem_toList_iff.1 he) hb.2)) (fun j oj t hoj hdt hk => by
      refine hok.unl j oj t hoj hdt ?_
      rw [List.any_eq_true] at hk
      obtain ⟨e, he, hb⟩ := hk
      rw [Bool.and_eq_true] at hb
      have hek : e.on = i := by simpa using hb.1
      cases hlj : listed.getD j false with
      | false => rfl
      | true =>
        have h2 := hok.closed j oj hoj hlj e (Array.mem_toList_iff.1 he) hb.2
        rw [hek, hunF] at h2; cases h2) hlo hhi hrk
    have hold : ∀ v, ∀ t, freeB l t = true → (a.put o.dst v).tmps.getD t undef = a0.tmps.getD t undef := fun v t ht => by
      have hne : o.dst ≠ some t := by
        have := List.all_eq_true.1 ht o (List.mem_of_getElem? hol)
        simpa using this
      rw [put_getD_other hne]; exact hok.old t ht
    have hother : ∀ (v : Value) (j : Nat) (oj : Oper), l[j]? = some oj → j ≠ i → slotV oj.dst (a.put o.dst v) = slotV oj.dst a := fun v j oj hoj hne => by
      cases hjt : oj.dst with
      | none => rfl
      | some t =>
        refine put_getD_other fun hd => hne ?_
        exact ((formR_spec hf).2 i j o oj t hol hoj hd hjt).symm
    have hunl : ∀ v (j : Nat) (oj : Oper) (t : Tmp), l[j]? = some oj → oj.dst = some t → (listed.setIfInBounds i true).getD j false = false → (a.put o.dst v).tmps.getD t undef = a0.tmps.getD t undef := fun v j oj t hoj hdt hlj => by
      have hji : j ≠ i := by
        rintro rfl
        rw [getD_set_same hij] at hlj; cases hlj
      have hne : o.dst ≠ some t := fun hd => hji ((formR_spec hf).2 i j o oj t hol hoj hd hdt).symm
      rw [put_getD_other hne]
      refine hok.unl j oj t hoj hdt ?_
      rw [← getD_set_ne (listed := listed) false (Ne.symm hji)]; exact hlj
    have hclo : ClosedL l (listed.setIfInBounds i true) := fun j oj hoj hlj e he hb => by
      rcases getD_set_cases hlj with rfl | hlj
      · exact getD_set_up hij (hallo oj hoj e he hb)
      · exact getD_set_up hij (hok.closed j oj hoj hlj e he hb)
    have hcl0 : eff i = none → ∀ j k, j < l.length → eff j = some k → ((listed.setIfInBounds i true).getD j false = true ↔ k < r) := fun hn j k hj hk => by
      have hne : i ≠ j := fun e => by subst e; rw [hn] at hk; cases hk
      rw [getD_set_ne false hne]; exact hcl j k hj hk
    unfold wpOp
    simp only [ho]
    by_cases hsk : sk i = true
    · rw [if_pos hsk] at h1
      rw [if_neg (by rw [h1]; decide)]
      have hen : eff i = none := by
        cases he : eff i with
        | none => rfl
        | some k =>
          have := (chain i k hil he).1
          rw [hsk] at this; cases this
      refine ih _ _ _ (by simpa using hs) (by have := left_set hs hun; omega) ⟨⟨r, hrn, hc, hcl0 hen⟩, by rw [put_defers]; exact hok.defers, by rw [put_size]; exact hok.size, hold _, fun j oj hoj hsj hlj => ?_, hunl _, hclo⟩
      rcases getD_set_cases hlj with rfl | hlj
      · rw [hsk] at hsj; cases hsj
      · have hne : j ≠ i := fun e => by subst e; rw [hsk] at hsj; cases hsj
        rw [hother _ j oj hoj hne]
        exact hok.val j oj hoj hsj hlj
    · rw [if_neg hsk] at h1
      rw [if_pos h1.1]
      refine .inl (Oper.wp_mono ?_ h1.2)
      rintro a' w' ⟨v, rfl, hb, hc', hv⟩
      have hcc : ∃ r', r' ≤ n ∧ C r' w' ∧ ∀ j k, j < l.length → eff j = some k → ((listed.setIfInBounds i true).getD j false = true ↔ k < r') := by
        cases he : eff i with
        | none =>
          rw [he] at hc'
          exact ⟨r, hrn, hc', hcl0 he⟩
        | some k0 =>
          rw [he] at hc'
          obtain rfl := hrk k0 he
          obtain ⟨_, hlt0, h3, _⟩ := chain i k0 hil he
          refine ⟨k0 + 1, hlt0, hc', fun j k hj hk => ?_⟩
          by_cases hje : i = j
          · subst hje
            rw [he] at hk
            obtain rfl := Option.some.inj hk
            rw [getD_set_same hij]
            exact ⟨fun _ => by omega, fun _ => rfl⟩
          · rw [getD_set_ne false hje, hcl j k hj hk]
            have : k ≠ k0 := fun e => hje ((h3 j k hj hk).1 e)
            omega
      refine ih _ _ _ (by simpa using hs) (by have := left_set hs hun; omega) ⟨hcc, by rw [put_defers]; exact hok.defers, by rw [put_size]; exact hok.size, hold _, fun j oj hoj hsj hlj => ?_, hunl _, hclo⟩
      by_cases hji : j = i
      · subst hji
        obtain rfl : o = oj := by rw [hol] at hoj; exact Option.some.inj hoj
        have hsv : slotV o.dst (a.put o.dst v) = kept o.dst v := by
          cases hd : o.dst with
          | none => rfl
          | some t => exact put_getD_same (by rw [hok.size]; exact hlt t hd)
        rw [hsv]
        exact hv
      · rcases getD_set_cases hlj with h | hlj
        · exact (hji h).elim
        · rw [hother _ j oj hoj hji]
          exact hV j r _ w w' (fun k hk => (hcl j k (List.getElem?_eq_some_iff.1 hoj).1 hk).1 hlj) hb (hok.val j oj hoj hsj hlj)
/-- a region that draws its order, its calls and stores in a chain -/
theorem wp_region_seq {id : Nat} {l : List Oper} {a0 : Act} {w : World} (hm : P.follows .mixedOrders = true) (R : Nat → World → World → Prop) (C : Nat → World → Prop) (V : Nat → Value → World → Prop) (sk : Nat → Bool) (eff : Nat → Option Nat) (n : Nat) (hf : formR l a0.tmps.size = true)
    (hch : chainB l eff sk n = true) (hn : ((List.range l.length).any fun i => eff i == some (n - 1)) = true ∨ n = 0)
    (hV : ∀ i r v w w', (∀ k, eff i = some k → k < r) → R r w w' → V i v w → V i v w') (h0 : C 0 w.drew)
    (hstep : StepsS P Q R C V sk eff l a0 0 l)
    (hend : ∀ a w, C n w → a.defers = a0.defers → a.tmps.size = a0.tmps.size → (∀ t, freeB l t = true → a.tmps.getD t undef = a0.tmps.getD t undef) →
      (∀ (i : Nat) (o : Oper), l[i]? = some o → sk i = false → V i (slotV o.dst a) w) → Q .normal a w) : (Code.region id l.toArray true).wp P Q a0 w := by
  refine wp_region_any hm ?_
  have hnn : (Array.replicate l.toArray.size false).size = l.length := by simp
  have hz : ∀ i, i < l.length → (Array.replicate l.toArray.size false).getD i false = false := fun i hi => by simp [Array.getD, hi]
  refine wpAny_seq hf hch hn hV hstep hend _ _ _ _ hnn ?_ ⟨⟨0, Nat.zero_le _, h0, fun i k hi _ => ?_⟩, rfl, rfl, fun t _ => rfl, fun i o ho _ hl => ?_, fun _ _ _ _ _ _ => rfl, fun j oj hoj hl => ?_⟩
  · have := List.length_filter_le (fun i => !(Array.replicate l.toArray.size false).getD i true) (List.range l.length)
    unfold left
    simpa using this
  · rw [hz i hi]; simp
  · rw [hz i (List.getElem?_eq_some_iff.1 ho).1] at hl; cases hl
  · rw [hz j (List.getElem?_eq_some_iff.1 hoj).1] at hl; cases hl
end
end Go.Proofs.Ytjnedcncfdpjoaa
/- Chapter 13: Encode of the package walked. -/
namespace Go.Proofs.Ytjnedcncfdpjoaa.D13
open Go.RowKit Go.Maps
set_option linter.unusedVariables false

def magic13 : List UInt8 := [68, 77, 84, 49]
def head13 (T : Tab) : List Int := [(T.blocks : Int), (T.spares : Int), (T.prim.length : Int), (T.used : Int), (T.keys.length : Int)]
def repB (p : Int × Int) : List UInt8 := b2 p.1 ++ b2 p.2
def body13 (T : Tab) : List UInt8 := magic13 ++ encL (head13 T) ++ encL T.prim ++ T.reps.flatMap repB
def enc13 (T : Tab) : List UInt8 := body13 T ++ W10.crcB (C.crc 0 (body13 T))
theorem TabW.turnS {w w' : World} {g gm gs : Nat} {vp : Value} {T : Tab} {cs : List Value} {t : TypeId} (h : TabW w g gm vp T) (ht : Turn1 gs w w') (h1 : g ≠ gs) (h2 : gm ≠ gs) (hd : Bx w gs t cs) (hne : t ≠ 3) : TabW w' g gm vp T :=
  ⟨h.ok, (ht.block g h.box.lt h1).trans h.box, (Turn.own (g := gs) (gm := gs) ⟨ht.os, ht.tape, ht.output, ht.size, fun k hk h1 _ => ht.block k hk h1⟩ h.pri (block13 h.pri hd hne) (block13 h.pri hd hne)), h.map.kept (ht.block gm h.map.lt h2), h.ne⟩
theorem MapO.len {w : World} {gm n : Nat} {f : Int → Option Int} (h : MapO w gm n f) (K : List Int) (hK : K.Pairwise (· < ·)) (hk : ∀ x, x ∈ K ↔ In64 x ∧ (f x).isSome = true) (ty : TypeId) :
    (Builtin.len_ #[36] ty #[.map (some gm)]).run Try.prog w = .ok (.int .i64 K.length) w := by
  obtain ⟨D, hown, hf⟩ := h
  have hnd : K.Nodup := hK.imp fun h e => by omega
  have hp := perm_keys13 hown hnd (fun x => (hk x).trans ⟨fun h => by rw [(hf x h.1).1]; exact h.2, fun h => ⟨has_wf13 hown h, by rw [← (hf x (has_wf13 hown h)).1]; exact h⟩⟩)
  rw [hown.len Try.underlying36 ty]
  obtain ⟨es, hD, _, _⟩ := hown.entries lawI
  subst hD
  have e : (intKeys (DataW.map es)).length = Maps.size (DataW.map es) := by simp [intKeys, Maps.size]
  rw [← e, ← hp.length_eq]
theorem TabW.len {w : World} {g gm : Nat} {vp : Value} {T : Tab} (h : TabW w g gm vp T) (ty : TypeId) : (Builtin.len_ #[36] ty #[.map (some gm)]).run Try.prog w = .ok (.int .i64 T.keys.length) w :=
  h.map.len T.keys T.keys_sorted h.ok.mem_keys ty
theorem Try.sizeRep13 : (Try.prog.info? 53).map (·.size) = some 2 := by kernel_rfl
theorem repsB_le (l : List (Int × Int)) : (l.flatMap repB).length ≤ 4 * l.length := by
  induction l with
  | nil => simp
  | cons x r ih =>
    rw [List.flatMap_cons, List.length_append, List.length_cons]
    have h4 : (repB x).length ≤ 4 := by
      unfold repB
      rw [List.length_append]
      have h2 := b2_le x.1
      have h3 := b2_le x.2
      omega
    omega
theorem Turn1.own {w w' : World} {gs base e sz n : Nat} {v : Value} {xs : List Value} (h : Turn1 gs w w') (ho : w.ownsRow base e sz v n xs) (hg : gs < base) : w'.ownsRow base e sz v n xs :=
  Turn.own (g := gs) (gm := gs) ⟨h.os, h.tape, h.output, h.size, fun k hk h1 _ => h.block k hk h1⟩ ho (fun e => by have := ownD_block ho _ e; omega) (fun e => by have := ownD_block ho _ e; omega)
/-- while the head is put together: 'r' says whether it is written -/
structure EncC (w0 : World) (g gm gs : Nat) (vp : Value) (T : Tab) (r : Nat) (W : World) : Prop where
  t : TabW W g gm vp T
  b : Bx W gs 9 [.string (str (if r = 0 then magic13 else magic13 ++ encL (head13 T)))]
  le : Below w0.heap.size w0 W
  lt : w0.heap.size ≤ gs ∧ g ≠ gs ∧ gm ≠ gs
theorem EncC.call {w0 : World} {g gm gs : Nat} {vp : Value} {T : Tab} {r : Nat} {W W' : World} (h : EncC w0 g gm gs vp T r W) (hb : Below W.heap.size W W') : EncC w0 g gm gs vp T r W' :=
  ⟨h.t.below hb, h.b.call hb, h.le.trans (hb.mono h.le.size), h.lt⟩
def encV (g gm gs : Nat) (ap : Option Addr) (cp : Nat) (T : Tab) (i : Nat) (v : Value) (W : World) : Prop := match i with
  | 0 => v = .func (.func 46) #[] #[.pointer (some ⟨gs, 0, none⟩)]
  | 1 => v = .pointer (some ⟨g, 0, none⟩)
  | 2 => v = .pointer (some ⟨g, 0, none⟩)
  | 3 => v = .pointer (some ⟨g, 0, none⟩)
  | 4 => v = .int .i64 T.blocks
  | 5 => v = .pointer (some ⟨g, 0, none⟩)
  | 6 => v = .pointer (some ⟨g, 0, none⟩)
  | 7 => v = .pointer (some ⟨g, 1, none⟩)
  | 8 => v = .int .i64 T.spares
  | 9 => v = .pointer (some ⟨g, 0, none⟩)
  | 10 => v = .pointer (some ⟨g, 0, none⟩)
  | 11 => v = .pointer (some ⟨g, 3, none⟩)
  | 12 => v = .slice ap T.prim.length cp
  | 13 => v = .int .i64 T.prim.length
  | 14 => v = .pointer (some ⟨g, 0, none⟩)
  | 15 => v = .pointer (some ⟨g, 0, none⟩)
  | 16 => v = .pointer (some ⟨g, 2, none⟩)
  | 17 => v = .int .i64 T.used
  | 18 => v = .pointer (some ⟨g, 0, none⟩)
  | 19 => v = .pointer (some ⟨g, 0, none⟩)
  | 20 => v = .pointer (some ⟨g, 4, none⟩)
  | 21 => v = .map (some gm)
  | 22 => v = .int .i64 T.keys.length
  | 23 => ∃ b, v = .slice (some ⟨b, 0, none⟩) 5 5 ∧ b ≠ gs ∧ Bx W b 3 (is (head13 T))
  | 24 => v = .tuple #[]
  | _ => True
def encVE : Nat → Option Nat
  | 24 => some 0
  | _ => none
theorem encV_keep (g gm gs : Nat) (ap : Option Addr) (cp : Nat) (T : Tab) (i r : Nat) (v : Value) (W W' : World) (hk : ∀ k, encVE i = some k → k < r) (hR : (fun _ w W => Turn1 gs w W) r W W') (h : encV g gm gs ap cp T i v W) : encV g gm gs ap cp T i v W' := by
  by_cases h23 : i = 23
  · subst h23
    obtain ⟨b, h1, h2, h3⟩ := h
    exact ⟨b, h1, h2, (hR.block b h3.lt h2).trans h3⟩
  unfold encV at h ⊢
  split at h <;> first | exact h | exact absurd rfl h23
def encW (gs : Nat) (T : Tab) (i : Nat) (v : Value) (W : World) : Prop := match i with
  | 0 => v = .string (str (body13 T))
  | 1 => v = .string (str (body13 T))
  | 2 => v = .int .u16 (C.crc 0 (body13 T) : Nat)
  | 3 => v = .string (str (W10.crcB (C.crc 0 (body13 T))))
  | 4 => v = .string (str (enc13 T))
  | 5 => v = .string (str (enc13 T))
  | _ => True
theorem encW_keep (gs : Nat) (T : Tab) (i : Nat) (v : Value) (W W' : World) (hR : (fun w W => Below w.heap.size w W) W W') (h : encW gs T i v W) : encW gs T i v W' := by
  unfold encW at h ⊢
  split at h <;> first | exact h
set_option maxRecDepth 100000 in
set_option maxHeartbeats 4000000 in
theorem encode13 {w : World} {g gm : Nat} {vp : Value} {T : Tab} (h : TabW w g gm vp T) :
    Calls Try.prog 23 #[.pointer (some ⟨g, 0, none⟩)] w fun e w' => e = .returned (.string (str (enc13 T))) ∧ Below w.heap.size w w' := by
  obtain ⟨ap, cp, hvp⟩ := RdI.formD h.rd
  subst hvp
  have HR : Hid (∀ x ∈ head13 T, In64 x) := Lib.hid (fun x hx => by
    have h1 := h.ok.b2
    have h2 := h.ok.sp
    have h3 := h.ok.pl
    have h4 := h.ok.us
    have h5 := (replaced_any h).1
    simp only [head13, List.mem_cons, List.not_mem_nil, or_false] at hx
    unfold In64
    rcases hx with rfl | rfl | rfl | rfl | rfl <;> omega)
  have HT := Lib.hid h
  clear h
  go_enter Try.func23, Try.ntmps23
  go_upto_region 3 with (fail)
  have HB0 := Lib.hid (Bx.new w 9 [.string (str magic13)])
  have hb0 := (Below.refl w.heap.size w).alloc (Nat.le_refl _) (.cells #[.string (str magic13)] 9)
  have HC0 : Hid (EncC w g gm w.heap.size (.slice ap T.prim.length cp) T 0 (w.alloc (.cells #[.string (str magic13)] 9)).drew) := Lib.hid
    (EncC.call ⟨HT.out.below hb0, HB0.out, hb0, Nat.le_refl _, fun e => by have := HT.out.box.lt; omega, fun e => by have := HT.out.map.lt; omega⟩ ((Below.refl _ _).drew))
  have e0 : (w.alloc (.cells #[.string { data := #[68, 77, 84, 49] }] 9)) = w.alloc (.cells #[.string (str magic13)] 9) := rfl
  rw [e0]
  obtain ⟨gs, hgs⟩ : ∃ gs, gs = w.heap.size := ⟨_, rfl⟩
  rw [← hgs] at HC0 ⊢
  have HGS := Lib.hid hgs
  clear hgs hb0 HB0 e0
  generalize (w.alloc (.cells #[.string (str magic13)] 9)) = w4 at *
  refine wp_region_seq (by kernel_rfl) (fun _ w W => Turn1 gs w W) (EncC w g gm gs (.slice ap T.prim.length cp) T) (encV g gm gs ap cp T) (fun _ => false) encVE 1 (by kernel_rfl) (by kernel_rfl) (.inl (by kernel_rfl)) (encV_keep g gm gs ap cp T) (HC0.out) ⟨?_, ?_, ?_, ?_, ?_, ?_, ?_, ?_, ?_, ?_, ?_, ?_, ?_, ?_, ?_, ?_, ?_, ?_, ?_, ?_, ?_, ?_, ?_, ?_, ?_, trivial⟩ ?_
  · intro r a W hc hsz hold hdep hnot hlo hhi hrk
    have o4 : a.tmps.getD 4 undef = .func (.func 46) #[] #[.pointer (some ⟨gs, 0, none⟩)] := hold 4 (by kernel_rfl)
    clear hsz hold hdep hnot hlo hhi hrk
    refine stepR_do rfl (wanted_none rfl) ?_
    refine stepS_val (v := .func (.func 46) #[] #[.pointer (some ⟨gs, 0, none⟩)]) (.of (Below.refl _ _)) hc rfl fun K hK => ?_
    go_simp
    exact hK
  · intro r a W hc hsz hold hdep hnot hlo hhi hrk
    have o0 : a.tmps.getD 0 undef = .pointer (some ⟨g, 0, none⟩) := hold 0 (by kernel_rfl)
    clear hsz hold hdep hnot hlo hhi hrk
    refine stepR_do rfl (wanted_none rfl) ?_
    refine stepS_val (v := .pointer (some ⟨g, 0, none⟩)) (.of (Below.refl _ _)) hc rfl fun K hK => ?_
    go_simp
    exact hK
  · intro r a W hc hsz hold hdep hnot hlo hhi hrk
    have d1 : a.tmps.getD 9 undef = .pointer (some ⟨g, 0, none⟩) := hdep 1 (by kernel_rfl) rfl _ rfl
    clear hsz hold hdep hnot hlo hhi hrk
    refine stepR_do rfl (wanted_none rfl) ?_
    refine stepS_val (v := .pointer (some ⟨g, 0, none⟩)) (.of (Below.refl _ _)) hc rfl fun K hK => ?_
    go_simp
    exact hK
  · intro r a W hc hsz hold hdep hnot hlo hhi hrk
    have d2 : a.tmps.getD 10 undef = .pointer (some ⟨g, 0, none⟩) := hdep 2 (by kernel_rfl) rfl _ rfl
    clear hsz hold hdep hnot hlo hhi hrk
    refine stepR_do rfl (wanted_none rfl) ?_
    refine stepS_val (v := .pointer (some ⟨g, 0, none⟩)) (.of (Below.refl _ _)) hc rfl fun K hK => ?_
    go_simp
    exact hK
  · intro r a W hc hsz hold hdep hnot hlo hhi hrk
    have d3 : a.tmps.getD 11 undef = .pointer (some ⟨g, 0, none⟩) := hdep 3 (by kernel_rfl) rfl _ rfl
    have q := hc.t.cells
    have q0 := q.1
    clear q
    clear hsz hold hdep hnot hlo hhi hrk
    refine stepR_do rfl (wanted_none rfl) ?_
    refine stepS_val (v := .int .i64 T.blocks) (.of (Below.refl _ _)) hc rfl fun K hK => ?_
    go_simp
    exact hK
  · intro r a W hc hsz hold hdep hnot hlo hhi hrk
    have o0 : a.tmps.getD 0 undef = .pointer (some ⟨g, 0, none⟩) := hold 0 (by kernel_rfl)
    clear hsz hold hdep hnot hlo hhi hrk
    refine stepR_do rfl (wanted_none rfl) ?_
    refine stepS_val (v := .pointer (some ⟨g, 0, none⟩)) (.of (Below.refl _ _)) hc rfl fun K hK => ?_
    go_simp
    exact hK
  · intro r a W hc hsz hold hdep hnot hlo hhi hrk
    have d5 : a.tmps.getD 13 undef = .pointer (some ⟨g, 0, none⟩) := hdep 5 (by kernel_rfl) rfl _ rfl
    clear hsz hold hdep hnot hlo hhi hrk
    refine stepR_do rfl (wanted_none rfl) ?_
    refine stepS_val (v := .pointer (some ⟨g, 0, none⟩)) (.of (Below.refl _ _)) hc rfl fun K hK => ?_
    go_simp
    exact hK
  · intro r a W hc hsz hold hdep hnot hlo hhi hrk
    have d6 : a.tmps.getD 14 undef = .pointer (some ⟨g, 0, none⟩) := hdep 6 (by kernel_rfl) rfl _ rfl
    clear hsz hold hdep hnot hlo hhi hrk
    refine stepR_do rfl (wanted_none rfl) ?_
    refine stepS_val (v := .pointer (some ⟨g, 1, none⟩)) (.of (Below.refl _ _)) hc rfl fun K hK => ?_
    go_simp
    exact hK
  · intro r a W hc hsz hold hdep hnot hlo hhi hrk
    have d7 : a.tmps.getD 15 undef = .pointer (some ⟨g, 1, none⟩) := hdep 7 (by kernel_rfl) rfl _ rfl
    have q := hc.t.cells
    have q1 := q.2.1
    clear q
    clear hsz hold hdep hnot hlo hhi hrk
    refine stepR_do rfl (wanted_none rfl) ?_
    refine stepS_val (v := .int .i64 T.spares) (.of (Below.refl _ _)) hc rfl fun K hK => ?_
    go_simp
    exact hK
  · intro r a W hc hsz hold hdep hnot hlo hhi hrk
    have o0 : a.tmps.getD 0 undef = .pointer (some ⟨g, 0, none⟩) := hold 0 (by kernel_rfl)
    clear hsz hold hdep hnot hlo hhi hrk
    refine stepR_do rfl (wanted_none rfl) ?_
    refine stepS_val (v := .pointer (some ⟨g, 0, none⟩)) (.of (Below.refl _ _)) hc rfl fun K hK => ?_
    go_simp
    exact hK
  · intro r a W hc hsz hold hdep hnot hlo hhi hrk
    have d9 : a.tmps.getD 17 undef = .pointer (some ⟨g, 0, none⟩) := hdep 9 (by kernel_rfl) rfl _ rfl
    clear hsz hold hdep hnot hlo hhi hrk
    refine stepR_do rfl (wanted_none rfl) ?_
    refine stepS_val (v := .pointer (some ⟨g, 0, none⟩)) (.of (Below.refl _ _)) hc rfl fun K hK => ?_
    go_simp
    exact hK
  · intro r a W hc hsz hold hdep hnot hlo hhi hrk
    have d10 : a.tmps.getD 18 undef = .pointer (some ⟨g, 0, none⟩) := hdep 10 (by kernel_rfl) rfl _ rfl
    clear hsz hold hdep hnot hlo hhi hrk
    refine stepR_do rfl (wanted_none rfl) ?_
    refine stepS_val (v := .pointer (some ⟨g, 3, none⟩)) (.of (Below.refl _ _)) hc rfl fun K hK => ?_
    go_simp
    exact hK
  · intro r a W hc hsz hold hdep hnot hlo hhi hrk
    have d11 : a.tmps.getD 19 undef = .pointer (some ⟨g, 3, none⟩) := hdep 11 (by kernel_rfl) rfl _ rfl
    have q := hc.t.cells
    have q3 := q.2.2.2.1
    clear q
    clear hsz hold hdep hnot hlo hhi hrk
    refine stepR_do rfl (wanted_none rfl) ?_
    refine stepS_val (v := .slice ap T.prim.length cp) (.of (Below.refl _ _)) hc rfl fun K hK => ?_
    go_simp
    exact hK
  · intro r a W hc hsz hold hdep hnot hlo hhi hrk
    have d12 : a.tmps.getD 20 undef = .slice ap T.prim.length cp := hdep 12 (by kernel_rfl) rfl _ rfl
    have e12 : a.tmps[20]?.getD undef = .slice ap T.prim.length cp := by rw [← Array.getD_eq_getD_getElem?]; exact d12
    clear hsz hold hdep hnot hlo hhi hrk
    refine stepR_do rfl (wanted_none rfl) ?_
    refine stepS_val (v := .int .i64 T.prim.length) (.of (Below.refl _ _)) hc rfl fun K hK => ?_
    go_simp
    exact hK
  · intro r a W hc hsz hold hdep hnot hlo hhi hrk
    have o0 : a.tmps.getD 0 undef = .pointer (some ⟨g, 0, none⟩) := hold 0 (by kernel_rfl)
    clear hsz hold hdep hnot hlo hhi hrk
    refine stepR_do rfl (wanted_none rfl) ?_
    refine stepS_val (v := .pointer (some ⟨g, 0, none⟩)) (.of (Below.refl _ _)) hc rfl fun K hK => ?_
    go_simp
    exact hK
  · intro r a W hc hsz hold hdep hnot hlo hhi hrk
    have d14 : a.tmps.getD 22 undef = .pointer (some ⟨g, 0, none⟩) := hdep 14 (by kernel_rfl) rfl _ rfl
    clear hsz hold hdep hnot hlo hhi hrk
    refine stepR_do rfl (wanted_none rfl) ?_
    refine stepS_val (v := .pointer (some ⟨g, 0, none⟩)) (.of (Below.refl _ _)) hc rfl fun K hK => ?_
    go_simp
    exact hK
  · intro r a W hc hsz hold hdep hnot hlo hhi hrk
    have d15 : a.tmps.getD 23 undef = .pointer (some ⟨g, 0, none⟩) := hdep 15 (by kernel_rfl) rfl _ rfl
    clear hsz hold hdep hnot hlo hhi hrk
    refine stepR_do rfl (wanted_none rfl) ?_
    refine stepS_val (v := .pointer (some ⟨g, 2, none⟩)) (.of (Below.refl _ _)) hc rfl fun K hK => ?_
    go_simp
    exact hK
  · intro r a W hc hsz hold hdep hnot hlo hhi hrk
    have d16 : a.tmps.getD 24 undef = .pointer (some ⟨g, 2, none⟩) := hdep 16 (by kernel_rfl) rfl _ rfl
    have q := hc.t.cells
    have q2 := q.2.2.1
    clear q
    clear hsz hold hdep hnot hlo hhi hrk
    refine stepR_do rfl (wanted_none rfl) ?_
    refine stepS_val (v := .int .i64 T.used) (.of (Below.refl _ _)) hc rfl fun K hK => ?_
    go_simp
    exact hK
  · intro r a W hc hsz hold hdep hnot hlo hhi hrk
    have o0 : a.tmps.getD 0 undef = .pointer (some ⟨g, 0, none⟩) := hold 0 (by kernel_rfl)
    clear hsz hold hdep hnot hlo hhi hrk
    refine stepR_do rfl (wanted_none rfl) ?_
    refine stepS_val (v := .pointer (some ⟨g, 0, none⟩)) (.of (Below.refl _ _)) hc rfl fun K hK => ?_
    go_simp
    exact hK
  · intro r a W hc hsz hold hdep hnot hlo hhi hrk
    have d18 : a.tmps.getD 26 undef = .pointer (some ⟨g, 0, none⟩) := hdep 18 (by kernel_rfl) rfl _ rfl
    clear hsz hold hdep hnot hlo hhi hrk
    refine stepR_do rfl (wanted_none rfl) ?_
    refine stepS_val (v := .pointer (some ⟨g, 0, none⟩)) (.of (Below.refl _ _)) hc rfl fun K hK => ?_
    go_simp
    exact hK
  · intro r a W hc hsz hold hdep hnot hlo hhi hrk
    have d19 : a.tmps.getD 27 undef = .pointer (some ⟨g, 0, none⟩) := hdep 19 (by kernel_rfl) rfl _ rfl
    clear hsz hold hdep hnot hlo hhi hrk
    refine stepR_do rfl (wanted_none rfl) ?_
    refine stepS_val (v := .pointer (some ⟨g, 4, none⟩)) (.of (Below.refl _ _)) hc rfl fun K hK => ?_
    go_simp
    exact hK
  · intro r a W hc hsz hold hdep hnot hlo hhi hrk
    have d20 : a.tmps.getD 28 undef = .pointer (some ⟨g, 4, none⟩) := hdep 20 (by kernel_rfl) rfl _ rfl
    have q := hc.t.cells
    have q4 := q.2.2.2.2
    clear q
    clear hsz hold hdep hnot hlo hhi hrk
    refine stepR_do rfl (wanted_none rfl) ?_
    refine stepS_val (v := .map (some gm)) (.of (Below.refl _ _)) hc rfl fun K hK => ?_
    go_simp
    exact hK
  · intro r a W hc hsz hold hdep hnot hlo hhi hrk
    have d21 : a.tmps.getD 29 undef = .map (some gm) := hdep 21 (by kernel_rfl) rfl _ rfl
    have e21 : a.tmps[29]?.getD undef = .map (some gm) := by rw [← Array.getD_eq_getD_getElem?]; exact d21
    have q := hc.t.len
    clear hsz hold hdep hnot hlo hhi hrk
    refine stepR_do rfl (wanted_none rfl) ?_
    refine stepS_val (v := .int .i64 T.keys.length) (.of (Below.refl _ _)) hc rfl fun K hK => ?_
    go_simp
    exact hK
  · intro r a W hc hsz hold hdep hnot hlo hhi hrk
    have d4 : a.tmps.getD 12 undef = .int .i64 T.blocks := hdep 4 (by kernel_rfl) rfl _ rfl
    have e4 : a.tmps[12]?.getD undef = .int .i64 T.blocks := by rw [← Array.getD_eq_getD_getElem?]; exact d4
    have d8 : a.tmps.getD 16 undef = .int .i64 T.spares := hdep 8 (by kernel_rfl) rfl _ rfl
    have e8 : a.tmps[16]?.getD undef = .int .i64 T.spares := by rw [← Array.getD_eq_getD_getElem?]; exact d8
    have d13 : a.tmps.getD 21 undef = .int .i64 T.prim.length := hdep 13 (by kernel_rfl) rfl _ rfl
    have e13 : a.tmps[21]?.getD undef = .int .i64 T.prim.length := by rw [← Array.getD_eq_getD_getElem?]; exact d13
    have d17 : a.tmps.getD 25 undef = .int .i64 T.used := hdep 17 (by kernel_rfl) rfl _ rfl
    have e17 : a.tmps[25]?.getD undef = .int .i64 T.used := by rw [← Array.getD_eq_getD_getElem?]; exact d17
    have d22 : a.tmps.getD 30 undef = .int .i64 T.keys.length := hdep 22 (by kernel_rfl) rfl _ rfl
    have e22 : a.tmps[30]?.getD undef = .int .i64 T.keys.length := by rw [← Array.getD_eq_getD_getElem?]; exact d22
    clear hsz hold hdep hnot hlo hhi hrk
    refine stepR_do rfl (wanted_none rfl) ?_
    have hN := Bx.new W 3 (is (head13 T))
    have hbN := (Below.refl W.heap.size W).alloc (Nat.le_refl _) (.cells (is (head13 T)).toArray 3)
    refine stepS_new (v := .slice (some ⟨W.heap.size, 0, none⟩) 5 5) (.of hbN) (hc.call hbN) ⟨W.heap.size, rfl, fun e => by have := hc.b.lt; omega, hN⟩ fun K hK => ?_
    have e : (is (head13 T)).toArray = #[.int .i64 T.blocks, .int .i64 T.spares, .int .i64 T.prim.length, .int .i64 T.used, .int .i64 T.keys.length] := rfl
    rw [e] at hK
    clear e hN hbN hc
    go_simp
    exact hK
  · intro r a W hc hsz hold hdep hnot hlo hhi hrk
    have hr := hrk 0 rfl
    subst hr
    have d0 : a.tmps.getD 8 undef = .func (.func 46) #[] #[.pointer (some ⟨gs, 0, none⟩)] := hdep 0 (by kernel_rfl) rfl _ rfl
    have e0 : a.tmps[8]?.getD undef = .func (.func 46) #[] #[.pointer (some ⟨gs, 0, none⟩)] := by rw [← Array.getD_eq_getD_getElem?]; exact d0
    have x23 := hdep 23 (by kernel_rfl) rfl _ rfl
    clear hsz hold hdep hnot hlo hhi hrk
    refine stepR_do rfl (wanted_none rfl) ?_
    obtain ⟨b, d23, hbg, hbx⟩ : ∃ b, a.tmps.getD 31 undef = .slice (some ⟨b, 0, none⟩) 5 5 ∧ b ≠ gs ∧ Bx W b 3 (is (head13 T)) := x23
    have e23 : a.tmps[31]?.getD undef = .slice (some ⟨b, 0, none⟩) 5 5 := by rw [← Array.getD_eq_getD_getElem?]; exact d23
    have hrd : RdI W (.slice (some ⟨b, 0, none⟩) 5 5) (head13 T) := ⟨by show 5 ≤ _; omega, ⟨_, _, b, 0, rfl, Nat.le_refl _, fun i hi => ⟨rfl, hbx.cell (by rw [Nat.zero_add]; exact is_get hi)⟩⟩, fun i hi => HR.out _ (ixI_mem hi)⟩
    have hcl := enc1_any hc.b (by show 4 ≤ _; omega) _ _ hrd (by show 5 ≤ _; omega)
    have hcb := hc.b
    refine stepS_call2 (v := .tuple #[]) fun K hK => ?_
    have hlt := hc.lt
    have hle := hc.le
    have ht := hc.t
    clear hc hrd hbx d23
    go_simp
    refine hcl.mono ?_
    rintro e w' ⟨rfl, h1, h2⟩
    exact hK w' h2 ⟨ht.turnS h2 hlt.2.1 hlt.2.2 hcb (by decide), h1, hle.trans (h2.below hlt.1 hle.size), hlt⟩ rfl
  · intro a W hC hd hsz hold hval
    have d0 : a.tmps.getD 0 undef = .pointer (some ⟨g, 0, none⟩) := hold 0 (by kernel_rfl)
    have d3 : a.tmps.getD 3 undef = .pointer (some ⟨gs, 0, none⟩) := hold 3 (by kernel_rfl)
    have d4 : a.tmps.getD 4 undef = .func (.func 46) #[] #[.pointer (some ⟨gs, 0, none⟩)] := hold 4 (by kernel_rfl)
    clear hold
    obtain ⟨tm, df⟩ := a
    replace hd : df = [] := hd
    replace hsz : tm.size = 59 := hsz
    replace d0 : tm.getD 0 undef = .pointer (some ⟨g, 0, none⟩) := d0
    replace d3 : tm.getD 3 undef = .pointer (some ⟨gs, 0, none⟩) := d3
    replace d4 : tm.getD 4 undef = .func (.func 46) #[] #[.pointer (some ⟨gs, 0, none⟩)] := d4
    subst hd
    have e : tm = List.toArray (tm.getD 0 undef :: tm.getD 1 undef :: tm.getD 2 undef :: tm.getD 3 undef :: tm.getD 4 undef :: tm.getD 5 undef :: tm.getD 6 undef :: tm.getD 7 undef :: tm.getD 8 undef :: tm.getD 9 undef :: tm.getD 10 undef :: tm.getD 11 undef :: tm.getD 12 undef :: tm.getD 13 undef :: tm.getD 14 undef :: tm.getD 15 undef :: tm.getD 16 undef :: tm.getD 17 undef :: tm.getD 18 undef :: tm.getD 19 undef :: tm.getD 20 undef :: tm.getD 21 undef :: tm.getD 22 undef :: tm.getD 23 undef :: tm.getD 24 undef :: tm.getD 25 undef :: tm.getD 26 undef :: tm.getD 27 undef :: tm.getD 28 undef :: tm.getD 29 undef :: tm.getD 30 undef :: tm.getD 31 undef :: tm.getD 32 undef :: tm.getD 33 undef :: tm.getD 34 undef :: tm.getD 35 undef :: tm.getD 36 undef :: tm.getD 37 undef :: tm.getD 38 undef :: tm.getD 39 undef :: tm.getD 40 undef :: tm.getD 41 undef :: tm.getD 42 undef :: tm.getD 43 undef :: tm.getD 44 undef :: tm.getD 45 undef :: tm.getD 46 undef :: tm.getD 47 undef :: tm.getD 48 undef :: tm.getD 49 undef :: tm.getD 50 undef :: tm.getD 51 undef :: tm.getD 52 undef :: tm.getD 53 undef :: tm.getD 54 undef :: tm.getD 55 undef :: tm.getD 56 undef :: tm.getD 57 undef :: tm.getD 58 undef :: []) := arr_eq tm 59 hsz
    rw [d0, d3, d4] at e
    clear d0 d3 d4 hsz
    generalize tm.getD 1 undef = v1 at e
    generalize tm.getD 2 undef = v2 at e
    generalize tm.getD 5 undef = v5 at e
    generalize tm.getD 6 undef = v6 at e
    generalize tm.getD 7 undef = v7 at e
    generalize tm.getD 8 undef = v8 at e
    generalize tm.getD 9 undef = v9 at e
    generalize tm.getD 10 undef = v10 at e
    generalize tm.getD 11 undef = v11 at e
    generalize tm.getD 12 undef = v12 at e
    generalize tm.getD 13 undef = v13 at e
    generalize tm.getD 14 undef = v14 at e
    generalize tm.getD 15 undef = v15 at e
    generalize tm.getD 16 undef = v16 at e
    generalize tm.getD 17 undef = v17 at e
    generalize tm.getD 18 undef = v18 at e
    generalize tm.getD 19 undef = v19 at e
    generalize tm.getD 20 undef = v20 at e
    generalize tm.getD 21 undef = v21 at e
    generalize tm.getD 22 undef = v22 at e
    generalize tm.getD 23 undef = v23 at e
    generalize tm.getD 24 undef = v24 at e
    generalize tm.getD 25 undef = v25 at e
    generalize tm.getD 26 undef = v26 at e
    generalize tm.getD 27 undef = v27 at e
    generalize tm.getD 28 undef = v28 at e
    generalize tm.getD 29 undef = v29 at e
    generalize tm.getD 30 undef = v30 at e
    generalize tm.getD 31 undef = v31 at e
    generalize tm.getD 32 undef = v32 at e
    generalize tm.getD 33 undef = v33 at e
    generalize tm.getD 34 undef = v34 at e
    generalize tm.getD 35 undef = v35 at e
    generalize tm.getD 36 undef = v36 at e
    generalize tm.getD 37 undef = v37 at e
    generalize tm.getD 38 undef = v38 at e
    generalize tm.getD 39 undef = v39 at e
    generalize tm.getD 40 undef = v40 at e
    generalize tm.getD 41 undef = v41 at e
    generalize tm.getD 42 undef = v42 at e
    generalize tm.getD 43 undef = v43 at e
    generalize tm.getD 44 undef = v44 at e
    generalize tm.getD 45 undef = v45 at e
    generalize tm.getD 46 undef = v46 at e
    generalize tm.getD 47 undef = v47 at e
    generalize tm.getD 48 undef = v48 at e
    generalize tm.getD 49 undef = v49 at e
    generalize tm.getD 50 undef = v50 at e
    generalize tm.getD 51 undef = v51 at e
    generalize tm.getD 52 undef = v52 at e
    generalize tm.getD 53 undef = v53 at e
    generalize tm.getD 54 undef = v54 at e
    generalize tm.getD 55 undef = v55 at e
    generalize tm.getD 56 undef = v56 at e
    generalize tm.getD 57 undef = v57 at e
    generalize tm.getD 58 undef = v58 at e
    subst e
    have HC1 := Lib.hid (show EncC w g gm gs (.slice ap T.prim.length cp) T 1 W from hC)
    clear hC hval HC0
    obtain ⟨c0, c1, c2, c3, c4⟩ := HC1.out.t.cells
    have HP4 := Lib.hid (enc1_any HC1.out.b (by
      have := encL_le (head13 T)
      show (magic13 ++ encL (head13 T)).length ≤ _
      rw [List.length_append]
      have e : (head13 T).length = 5 := rfl
      have e2 : magic13.length = 4 := rfl
      omega) _ T.prim HC1.out.t.rd (by have := HC1.out.t.ok.pl; omega))
    go_wp2_with fail
    refine HP4.out.mono ?_
    rintro e w5 ⟨rfl, hb5, ht5⟩
    have HT5 := Lib.hid (HC1.out.t.turnS ht5 HC1.out.lt.2.1 HC1.out.lt.2.2 HC1.out.b (by decide))
    have HB5 := Lib.hid (HC1.out.le.trans (ht5.below HC1.out.lt.1 HC1.out.le.size))
    have HX5 := Lib.hid (show Bx w5 gs 9 [.string (str (magic13 ++ encL (head13 T) ++ encL T.prim))] from hb5)
    have hkl := (replaced_any HT5.out).1
    have HRP := Lib.hid (replaced_any HT5.out).2
    clear hb5 ht5 c0 c1 c2 c3 c4 HP4
    go_wp2_with fail
    refine HRP.out.mono ?_
    rintro e w6 ⟨v6, rfl, ho6, hb6⟩
    obtain ⟨a6, c6, rfl⟩ := ownD_form ho6
    have HX6 := Lib.hid (HX5.out.call hb6)
    have HB6 := Lib.hid (HB5.out.trans (hb6.mono HB5.out.size))
    have HO6 := Lib.hid (show w6.ownsRow w5.heap.size 53 2 (.slice a6 T.reps.length c6) T.reps.length (flD dRep T.reps) by rw [Tab.reps_length]; exact ho6)
    have HGL : Hid (gs < w5.heap.size) := Lib.hid HX5.out.lt
    have hkl2 : T.keys.length ≤ 64 := by have := HT.out.ok.us; have := HT.out.ok.sp; omega
    rw [← Tab.reps_length]
    rw [← Tab.reps_length] at hkl2
    have HPRE : Hid ((magic13 ++ encL (head13 T) ++ encL T.prim).length ≤ 10000) := Lib.hid (by
      rw [List.length_append, List.length_append]
      have := encL_le (head13 T)
      have := encL_le T.prim
      have e : (head13 T).length = 5 := rfl
      have e2 : magic13.length = 4 := rfl
      have := HT.out.ok.pl
      omega)
    have HBD : Hid (body13 T = magic13 ++ encL (head13 T) ++ encL T.prim ++ T.reps.flatMap repB) := Lib.hid rfl
    have HRI : Hid (∀ p ∈ T.reps, In64 p.1 ∧ In64 p.2) := Lib.hid (fun p hp => by
      simp only [Tab.reps, List.mem_map] at hp
      obtain ⟨x, hx, rfl⟩ := hp
      refine ⟨((HT.out.ok.mem_keys x).1 hx).1, ?_⟩
      show In64 (((T.mv x).map Int.ofNat).getD 0)
      cases e : T.mv x with
      | none => simp [In64]
      | some s => have := HT.out.ok.mr _ s e; have := HT.out.ok.us; have := HT.out.ok.sp; show In64 (s : Int); unfold In64; omega)
    have HC0' : Hid (w.heap.size ≤ gs) := Lib.hid HC1.out.lt.1
    clear ho6 hb6 HRP HT5 HC1
    generalize magic13 ++ encL (head13 T) ++ encL T.prim = pre at *
    generalize T.reps = rs at *
    go_wp2_with fail
    go_loopw [42] (fun vk wr => ∃ k : Nat, k ≤ rs.length ∧ vk = .int .i64 k ∧ Bx wr gs 9 [.string (str (pre ++ (rs.take k).flatMap repB))] ∧ wr.ownsRow w5.heap.size 53 2 (.slice a6 rs.length c6) rs.length (flD dRep rs) ∧ Below w.heap.size w wr) (fun vk _ => rs.length - (RowKit.intOf vk).toNat)
    case atStart => exact ⟨0, by omega, rfl, by simp; exact HX6.out, HO6.out, HB6.out⟩
    case round =>
      obtain ⟨k, hk, rfl, hX, hO, hB⟩ := hrel
      have HX := Lib.hid hX
      have HO := Lib.hid hO
      have HB := Lib.hid hB
      clear hX hB
      by_cases hlt : k < rs.length
      · obtain ⟨bl, off, hcell⟩ := RdD.at (RdD.ofOwn (d := ((0 : Int), (0 : Int))) dRep_len hO)
        obtain ⟨ha, hrg⟩ := hcell k hlt
        have hix := fun w' => run_idxS Try.underlying39 Try.sizeRep13 (cap := c6) ha hlt (k : Int) rfl w'
        have hc0 := hrg 0 _ rfl
        have hc1 := hrg 1 _ rfl
        simp only [Nat.add_zero] at hc0
        have hpr := HRI.out _ (atD_mem (d := ((0 : Int), (0 : Int))) hlt)
        have HTK : Hid ((rs.take (k + 1)).flatMap repB = (rs.take k).flatMap repB ++ encL [(atD ((0 : Int), (0 : Int)) rs k).1, (atD ((0 : Int), (0 : Int)) rs k).2]) := Lib.hid (by
          rw [List.take_succ_eq_append_getElem hlt, List.flatMap_append]
          congr 1
          simp [encL, repB, atD, hlt])
        have hlen : (pre ++ (rs.take k).flatMap repB).length ≤ 20000 := by
          rw [List.length_append]
          have h2 := repsB_le (rs.take k)
          rw [List.length_take] at h2
          have := HPRE.out
          omega
        generalize atD ((0 : Int), (0 : Int)) rs k = pr at *
        obtain ⟨px, py⟩ := pr
        have HA := Lib.hid ha
        clear ha hcell hO
        have hb1 := (Below.refl wr.heap.size wr).alloc (Nat.le_refl _) (.cells (dRep (px, py)).toArray 53)
        have HXA := Lib.hid (HX.out.call hb1)
        have hlit := rdI_lit (wr.alloc (.cells (dRep (px, py)).toArray 53)) [px, py] (by show 2 ≤ _; omega) (fun x hx => by
          simp only [List.mem_cons, List.not_mem_nil, or_false] at hx
          rcases hx with rfl | rfl
          · exact hpr.1
          · exact hpr.2)
        have hb2 := hb1.alloc hb1.size (.cells (is [px, py]).toArray 3)
        have hsz1 : (wr.alloc (.cells (dRep (px, py)).toArray 53)).heap.size = wr.heap.size + 1 := by simp
        rw [hsz1] at hlit
        have HCL := Lib.hid (enc1_any (HX.out.call hb2) (by omega) _ _ hlit (by show 2 ≤ _; omega))
        have HX2 := Lib.hid (HX.out.call hb2)
        have HO2 := Lib.hid (ownD_keep HO.out hb2)
        have HB2 := Lib.hid (HB.out.trans (hb2.mono HB.out.size))
        clear hlit hsz1 hb1 hb2 hpr
        go_wp2_with fail
        refine HCL.out.mono ?_
        rintro e w8 ⟨rfl, hx8, ht8⟩
        have HX8 := Lib.hid hx8
        have HO8 := Lib.hid (ht8.own HO2.out HGL.out)
        have HB8 := Lib.hid (HB2.out.trans (ht8.below HC0'.out HB2.out.size))
        clear hx8 ht8
        go_wp2_with fail
        go_roundw
        case rel => exact ⟨k + 1, by omega, by go_num, by rw [HTK.out, ← List.append_assoc]; exact HX8.out, HO8.out, HB8.out⟩
        case measure => simp [RowKit.intOf]; omega
      · obtain rfl : k = rs.length := by omega
        rw [List.take_length, ← HBD.out] at HX
        have HBL : Hid ((body13 T).length ≤ 20000) := Lib.hid (by
          rw [HBD.out, List.length_append]
          have := repsB_le rs
          have := HPRE.out
          omega)
        have HGW : Hid (gs < wr.heap.size) := Lib.hid HX.out.lt
        have hC0 : Bx wr.drew gs 9 [.string (str (body13 T))] := HX.out.call ((Below.refl _ _).drew)
        clear hlt
        go_upto_region 10 with (fail)
        refine wp_region_inr (by kernel_rfl) (fun w W => Below w.heap.size w W) (fun W => Bx W gs 9 [.string (str (body13 T))] ∧ Below wr.drew.heap.size wr.drew W) (encW gs T) (fun _ => false) (by kernel_rfl) (fun _ _ hR hc => ⟨hc.1.call hR, hc.2.trans (hR.mono hc.2.size)⟩) (encW_keep gs T) (⟨hC0, Below.refl _ _⟩) ⟨?_, ?_, ?_, ?_, ?_, ?_, trivial⟩ ?_
        · intro a W hc hsz hold hdep
          have o3 : a.tmps.getD 3 undef = .pointer (some ⟨gs, 0, none⟩) := hold 3 (by kernel_rfl)
          have q0 := hc.1.cell (i := 0) rfl
          clear hsz hold hdep
          refine stepR_do rfl (wanted_none rfl) ?_
          refine stepR_val (v := .string (str (body13 T))) (Below.refl _ _) rfl fun K hK => ?_
          go_simp
          exact hK
        · intro a W hc hsz hold hdep
          have o3 : a.tmps.getD 3 undef = .pointer (some ⟨gs, 0, none⟩) := hold 3 (by kernel_rfl)
          have q0 := hc.1.cell (i := 0) rfl
          clear hsz hold hdep
          refine stepR_do rfl (wanted_none rfl) ?_
          refine stepR_val (v := .string (str (body13 T))) (Below.refl _ _) rfl fun K hK => ?_
          go_simp
          exact hK
        · intro a W hc hsz hold hdep
          have d1 : a.tmps.getD 55 undef = .string (str (body13 T)) := hdep 1 (by kernel_rfl) rfl _ rfl
          have e1 : a.tmps[55]?.getD undef = .string (str (body13 T)) := by rw [← Array.getD_eq_getD_getElem?]; exact d1
          clear hsz hold hdep
          refine stepR_do rfl (wanted_none rfl) ?_
          refine stepR_call (v := .int .u16 (C.crc 0 (body13 T) : Nat)) (fun W' hb => hb) (fun _ => rfl) fun K hK => ?_
          go_simp
          refine ((W10.crc_any (str (body13 T)) _ (by rw [str_size]; have := HBL.out; omega))).mono ?_
          rintro e w' ⟨rfl, hb'⟩
          exact hK _ hb'
        · intro a W hc hsz hold hdep
          have d2 : a.tmps.getD 56 undef = .int .u16 (C.crc 0 (body13 T) : Nat) := hdep 2 (by kernel_rfl) rfl _ rfl
          have e2 : a.tmps[56]?.getD undef = .int .u16 (C.crc 0 (body13 T) : Nat) := by rw [← Array.getD_eq_getD_getElem?]; exact d2
          clear hsz hold hdep
          refine stepR_do rfl (wanted_none rfl) ?_
          refine stepR_call (v := .string (str (W10.crcB (C.crc 0 (body13 T))))) (fun W' hb => hb) (fun _ => rfl) fun K hK => ?_
          go_simp
          refine ((W10.crcbytes_any _ _ (C.crc_lt (by omega) _))).mono ?_
          rintro e w' ⟨rfl, hb'⟩
          exact hK _ hb'
        · intro a W hc hsz hold hdep
          have d0 : a.tmps.getD 54 undef = .string (str (body13 T)) := hdep 0 (by kernel_rfl) rfl _ rfl
          have d3 : a.tmps.getD 57 undef = .string (str (W10.crcB (C.crc 0 (body13 T)))) := hdep 3 (by kernel_rfl) rfl _ rfl
          have ap : str (body13 T) ++ str (W10.crcB (C.crc 0 (body13 T))) = str (enc13 T) := str_append _ _
          have hsum : ¬ 9223372036854775807 < (str (body13 T)).size + (str (W10.crcB (C.crc 0 (body13 T)))).size := by rw [str_size, str_size]; have := HBL.out; have e : (W10.crcB (C.crc 0 (body13 T))).length = 2 := rfl; omega
          clear hsz hold hdep
          refine stepR_do rfl (wanted_none rfl) ?_
          refine stepR_val (v := .string (str (enc13 T))) (Below.refl _ _) rfl fun K hK => ?_
          go_simp
          exact hK
        · intro a W hc hsz hold hdep
          have d4 : a.tmps.getD 58 undef = .string (str (enc13 T)) := hdep 4 (by kernel_rfl) rfl _ rfl
          clear hsz hold hdep
          refine stepR_do rfl (wanted_none rfl) ?_
          refine stepR_val (v := .string (str (enc13 T))) (Below.refl _ _) rfl fun K hK => ?_
          go_simp
          exact hK
        · intro a W hC hd hsz hold hval
          have d2 : a.tmps.getD 2 undef = .string (str (enc13 T)) := hval 5 _ rfl rfl
          clear hold
          obtain ⟨tm, df⟩ := a
          replace hd : df = [] := hd
          replace hsz : tm.size = 59 := hsz
          replace d2 : tm.getD 2 undef = .string (str (enc13 T)) := d2
          subst hd
          have e : tm = List.toArray (tm.getD 0 undef :: tm.getD 1 undef :: tm.getD 2 undef :: tm.getD 3 undef :: tm.getD 4 undef :: tm.getD 5 undef :: tm.getD 6 undef :: tm.getD 7 undef :: tm.getD 8 undef :: tm.getD 9 undef :: tm.getD 10 undef :: tm.getD 11 undef :: tm.getD 12 undef :: tm.getD 13 undef :: tm.getD 14 undef :: tm.getD 15 undef :: tm.getD 16 undef :: tm.getD 17 undef :: tm.getD 18 undef :: tm.getD 19 undef :: tm.getD 20 undef :: tm.getD 21 undef :: tm.getD 22 undef :: tm.getD 23 undef :: tm.getD 24 undef :: tm.getD 25 undef :: tm.getD 26 undef :: tm.getD 27 undef :: tm.getD 28 undef :: tm.getD 29 undef :: tm.getD 30 undef :: tm.getD 31 undef :: tm.getD 32 undef :: tm.getD 33 undef :: tm.getD 34 undef :: tm.getD 35 undef :: tm.getD 36 undef :: tm.getD 37 undef :: tm.getD 38 undef :: tm.getD 39 undef :: tm.getD 40 undef :: tm.getD 41 undef :: tm.getD 42 undef :: tm.getD 43 undef :: tm.getD 44 undef :: tm.getD 45 undef :: tm.getD 46 undef :: tm.getD 47 undef :: tm.getD 48 undef :: tm.getD 49 undef :: tm.getD 50 undef :: tm.getD 51 undef :: tm.getD 52 undef :: tm.getD 53 undef :: tm.getD 54 undef :: tm.getD 55 undef :: tm.getD 56 undef :: tm.getD 57 undef :: tm.getD 58 undef :: []) := arr_eq tm 59 hsz
          rw [d2] at e
          clear d2 hsz
          generalize tm.getD 0 undef = v0 at e
          generalize tm.getD 1 undef = v1 at e
          generalize tm.getD 3 undef = v3 at e
          generalize tm.getD 4 undef = v4 at e
          generalize tm.getD 5 undef = v5 at e
          generalize tm.getD 6 undef = v6 at e
          generalize tm.getD 7 undef = v7 at e
          generalize tm.getD 8 undef = v8 at e
          generalize tm.getD 9 undef = v9 at e
          generalize tm.getD 10 undef = v10 at e
          generalize tm.getD 11 undef = v11 at e
          generalize tm.getD 12 undef = v12 at e
          generalize tm.getD 13 undef = v13 at e
          generalize tm.getD 14 undef = v14 at e
          generalize tm.getD 15 undef = v15 at e
          generalize tm.getD 16 undef = v16 at e
          generalize tm.getD 17 undef = v17 at e
          generalize tm.getD 18 undef = v18 at e
          generalize tm.getD 19 undef = v19 at e
          generalize tm.getD 20 undef = v20 at e
          generalize tm.getD 21 undef = v21 at e
          generalize tm.getD 22 undef = v22 at e
          generalize tm.getD 23 undef = v23 at e
          generalize tm.getD 24 undef = v24 at e
          generalize tm.getD 25 undef = v25 at e
          generalize tm.getD 26 undef = v26 at e
          generalize tm.getD 27 undef = v27 at e
          generalize tm.getD 28 undef = v28 at e
          generalize tm.getD 29 undef = v29 at e
          generalize tm.getD 30 undef = v30 at e
          generalize tm.getD 31 undef = v31 at e
          generalize tm.getD 32 undef = v32 at e
          generalize tm.getD 33 undef = v33 at e
          generalize tm.getD 34 undef = v34 at e
          generalize tm.getD 35 undef = v35 at e
          generalize tm.getD 36 undef = v36 at e
          generalize tm.getD 37 undef = v37 at e
          generalize tm.getD 38 undef = v38 at e
          generalize tm.getD 39 undef = v39 at e
          generalize tm.getD 40 undef = v40 at e
          generalize tm.getD 41 undef = v41 at e
          generalize tm.getD 42 undef = v42 at e
          generalize tm.getD 43 undef = v43 at e
          generalize tm.getD 44 undef = v44 at e
          generalize tm.getD 45 undef = v45 at e
          generalize tm.getD 46 undef = v46 at e
          generalize tm.getD 47 undef = v47 at e
          generalize tm.getD 48 undef = v48 at e
          generalize tm.getD 49 undef = v49 at e
          generalize tm.getD 50 undef = v50 at e
          generalize tm.getD 51 undef = v51 at e
          generalize tm.getD 52 undef = v52 at e
          generalize tm.getD 53 undef = v53 at e
          generalize tm.getD 54 undef = v54 at e
          generalize tm.getD 55 undef = v55 at e
          generalize tm.getD 56 undef = v56 at e
          generalize tm.getD 57 undef = v57 at e
          generalize tm.getD 58 undef = v58 at e
          subst e
          have hle : Below w.heap.size w W := HB.out.trans (((Below.refl wr.heap.size wr).drew.trans (hC.2.mono (by simp))).mono HB.out.size)
          go_wp2_with fail
          go_ret
          exact ⟨rfl, hle⟩
end Go.Proofs.Ytjnedcncfdpjoaa.D13
/- Chapter 1: the number of some bytes, plain. -/
namespace Go.Proofs.Ytjnedcncfdpjoaa.E1
open Go.RowKit
set_option linter.unusedVariables false

/-- the number of bytes, the greatest first -/
def beV (l : List UInt8) : Nat := l.foldl (fun a c => 256 * a + c.toNat) 0
theorem beV_snoc (l : List UInt8) (c : UInt8) : beV (l ++ [c]) = 256 * beV l + c.toNat := by simp [beV]
theorem beV_fold : ∀ (l : List UInt8) (a : Nat), l.foldl (fun a c => 256 * a + c.toNat) a = a * 256 ^ l.length + beV l
  | [], a => by simp [beV]
  | c :: l, a => by
    have e : beV (c :: l) = (256 * 0 + c.toNat) * 256 ^ l.length + beV l := beV_fold l _
    rw [e, List.foldl_cons, beV_fold l, List.length_cons, Nat.pow_succ, Nat.mul_zero, Nat.zero_add, Nat.add_mul, Nat.add_assoc]
    congr 1
    rw [Nat.mul_comm 256 a, Nat.mul_assoc, Nat.mul_comm 256]
theorem beV_cons (c : UInt8) (l : List UInt8) : beV (c :: l) = c.toNat * 256 ^ l.length + beV l := by
  have e : beV (c :: l) = (256 * 0 + c.toNat) * 256 ^ l.length + beV l := beV_fold l _
  rw [e, Nat.mul_zero, Nat.zero_add]
theorem beV_beN (n : Nat) : ∀ k, beV (beN n k) = n % 256 ^ k
  | 0 => by simp [beN, leN, beV, Nat.mod_one]
  | k + 1 => by
    have e : beN n (k + 1) = leB n k :: beN n k := by simp [beN, leN]
    have e2 : (leB n k).toNat = n / 256 ^ k % 256 := by
      unfold leB; rw [UInt8.toNat_ofNat']; omega
    rw [e, beV_cons, beN_length, beV_beN n k, e2, Nat.mod_pow_succ, Nat.add_comm, Nat.mul_comm]
theorem beV_lt : ∀ l : List UInt8, beV l < 256 ^ l.length
  | [] => by simp [beV]
  | c :: l => by
    have h1 := beV_lt l
    have h2 := c.toNat_lt
    rw [beV_cons, List.length_cons, Nat.pow_succ]
    have h3 : c.toNat * 256 ^ l.length ≤ 255 * 256 ^ l.length := Nat.mul_le_mul_right _ (by omega)
    omega
/-- the number at an offset, 0 if it is not there -/
def rdE (s : List UInt8) (at' size : Nat) : Nat := if at' + size ≤ s.length then beV ((s.drop at').take size) else 0
theorem rdE_at (a b c : List UInt8) {o k : Nat} (ha : a.length = o) (hb : b.length = k) : rdE (a ++ b ++ c) o k = beV b := by
  subst ha hb
  unfold rdE
  rw [if_pos (by simp), List.append_assoc, List.drop_left, List.take_left]
theorem rdE_lt (s : List UInt8) (o k : Nat) (hk : 0 < k) : rdE s o k < 256 ^ k := by
  unfold rdE
  split
  · have := beV_lt ((s.drop o).take k)
    have e : ((s.drop o).take k).length = k := by rw [List.length_take, List.length_drop]; omega
    rwa [e] at this
  · exact Nat.pos_of_ne_zero (by simp)
theorem big_le (n : Int) (k : Nat) : (bigR n k).1.length ≤ k := by
  unfold bigR; split
  · rw [beN_length]; omega
  · simp

end Go.Proofs.Ytjnedcncfdpjoaa.E1
/- The encoding of a table, and what is read back: plain (chapter 14). -/
namespace Go.Proofs.Ytjnedcncfdpjoaa.E1
open Go.RowKit W10
set_option linter.unusedVariables false

def b2 (n : Int) : List UInt8 := (bigR n 2).1
def b4 (n : Int) : List UInt8 := (bigR n 4).1
theorem big_ok {n : Int} {k : Nat} (h : fitE n k = true) : (bigR n k).1.length = k ∧ (beV (bigR n k).1 : Int) = n := by
  unfold bigR
  rw [if_pos h]
  unfold fitE at h
  rw [Bool.and_eq_true, decide_eq_true_eq, decide_eq_true_eq] at h
  refine ⟨beN_length _ _, ?_⟩
  simp only
  rw [beV_beN, Nat.mod_eq_of_lt]
  · omega
  · have := h.2
    rw [Nat.div_eq_zero_iff] at this
    rcases this with h0 | h0
    · exact absurd h0 (by simp)
    · exact h0
theorem b2_ok {n : Int} (h0 : 0 ≤ n) (h1 : n < 65536) : (b2 n).length = 2 ∧ (beV (b2 n) : Int) = n := big_ok (by rw [fitE_2]; exact decide_eq_true ⟨h0, h1⟩)
theorem b4_ok {n : Int} (h0 : 0 ≤ n) (h1 : n < 4294967296) : (b4 n).length = 4 ∧ (beV (b4 n) : Int) = n := big_ok (by rw [fitE_4]; exact decide_eq_true ⟨h0, h1⟩)
/-- a track, a table -/
def trkE (x : T.Trk) : List UInt8 := b2 x.num ++ b2 x.ses ++ b4 x.st ++ b4 x.len ++ b4 x.nx ++ b2 x.sta ++ b2 x.pk
def fn (f : Bool) : Int := if f = true then 1 else 0
def headE (q cl : Int) (f : Bool) (n : Int) : List UInt8 := [80, 77, 65, 49] ++ b4 q ++ b2 cl ++ b2 (fn f) ++ b2 n
def bodyE (q cl : Int) (f : Bool) (l : List T.Trk) : List UInt8 := headE q cl f l.length ++ l.flatMap trkE
def encE (q cl : Int) (f : Bool) (l : List T.Trk) : List UInt8 := bodyE q cl f l ++ crcB (C.crc 0 (bodyE q cl f l))
theorem trkE_le (x : T.Trk) : (trkE x).length ≤ 20 := by
  have h1 := big_le x.num 2; have h2 := big_le x.ses 2; have h3 := big_le x.st 4; have h4 := big_le x.len 4; have h5 := big_le x.nx 4; have h6 := big_le x.sta 2; have h7 := big_le x.pk 2
  unfold trkE b2 b4
  simp only [List.length_append]
  omega
theorem flat_le (l : List T.Trk) : (l.flatMap trkE).length ≤ 20 * l.length := by
  induction l with
  | nil => simp
  | cons x l ih =>
    rw [List.flatMap_cons, List.length_append, List.length_cons]
    have := trkE_le x
    omega
theorem head_le (q cl : Int) (f : Bool) (n : Int) : (headE q cl f n).length ≤ 14 := by
  have h1 := big_le q 4; have h2 := big_le cl 2; have h3 := big_le (fn f) 2; have h4 := big_le n 2
  unfold headE b2 b4
  simp only [List.length_append, List.length_cons, List.length_nil]
  omega
theorem body_le (q cl : Int) (f : Bool) (l : List T.Trk) : (bodyE q cl f l).length ≤ 14 + 20 * l.length := by
  have := head_le q cl f l.length; have := flat_le l
  unfold bodyE
  rw [List.length_append]; omega

/-- numbers that have place -/
structure FitT (x : T.Trk) : Prop where
  a : 0 ≤ x.num ∧ x.num < 65536
  b : 0 ≤ x.ses ∧ x.ses < 65536
  c : 0 ≤ x.st ∧ x.st < 4294967296
  d : 0 ≤ x.len ∧ x.len < 4294967296
  e : 0 ≤ x.nx ∧ x.nx < 4294967296
  f : 0 ≤ x.sta ∧ x.sta < 65536
  g : 0 ≤ x.pk ∧ x.pk < 65536
theorem FitT.length {x : T.Trk} (h : FitT x) : (trkE x).length = 20 := by
  unfold trkE
  simp only [List.length_append, (b2_ok h.a.1 h.a.2).1, (b2_ok h.b.1 h.b.2).1, (b4_ok h.c.1 h.c.2).1, (b4_ok h.d.1 h.d.2).1, (b4_ok h.e.1 h.e.2).1, (b2_ok h.f.1 h.f.2).1, (b2_ok h.g.1 h.g.2).1]
/-- the track at an offset -/
def trkD (s : List UInt8) (o : Nat) : T.Trk := ⟨rdE s o 2, rdE s (o + 2) 2, rdE s (o + 4) 4, rdE s (o + 8) 4, rdE s (o + 12) 4, rdE s (o + 16) 2, rdE s (o + 18) 2⟩
theorem trkD_at {x : T.Trk} (h : FitT x) (a c : List UInt8) {o : Nat} (ha : a.length = o) : trkD (a ++ trkE x ++ c) o = x := by
  obtain ⟨a1, a2⟩ := b2_ok h.a.1 h.a.2
  obtain ⟨b1, b2'⟩ := b2_ok h.b.1 h.b.2
  obtain ⟨c1, c2⟩ := b4_ok h.c.1 h.c.2
  obtain ⟨d1, d2⟩ := b4_ok h.d.1 h.d.2
  obtain ⟨e1, e2⟩ := b4_ok h.e.1 h.e.2
  obtain ⟨f1, f2⟩ := b2_ok h.f.1 h.f.2
  obtain ⟨g1, g2⟩ := b2_ok h.g.1 h.g.2
  unfold trkD trkE
  generalize b2 x.num = A at *
  generalize b2 x.ses = B at *
  generalize b4 x.st = C at *
  generalize b4 x.len = D at *
  generalize b4 x.nx = E at *
  generalize b2 x.sta = F at *
  generalize b2 x.pk = G at *
  have r1 : rdE (a ++ (A ++ B ++ C ++ D ++ E ++ F ++ G) ++ c) o 2 = beV A := by
    have := rdE_at a A (B ++ C ++ D ++ E ++ F ++ G ++ c) ha a1
    simpa only [List.append_assoc] using this
  have r2 : rdE (a ++ (A ++ B ++ C ++ D ++ E ++ F ++ G) ++ c) (o + 2) 2 = beV B := by
    have := rdE_at (a ++ A) B (C ++ D ++ E ++ F ++ G ++ c) (o := o + 2) (by simp only [List.length_append]; omega) b1
    simpa only [List.append_assoc] using this
  have r3 : rdE (a ++ (A ++ B ++ C ++ D ++ E ++ F ++ G) ++ c) (o + 4) 4 = beV C := by
    have := rdE_at (a ++ A ++ B) C (D ++ E ++ F ++ G ++ c) (o := o + 4) (by simp only [List.length_append]; omega) c1
    simpa only [List.append_assoc] using this
  have r4 : rdE (a ++ (A ++ B ++ C ++ D ++ E ++ F ++ G) ++ c) (o + 8) 4 = beV D := by
    have := rdE_at (a ++ A ++ B ++ C) D (E ++ F ++ G ++ c) (o := o + 8) (by simp only [List.length_append]; omega) d1
    simpa only [List.append_assoc] using this
  have r5 : rdE (a ++ (A ++ B ++ C ++ D ++ E ++ F ++ G) ++ c) (o + 12) 4 = beV E := by
    have := rdE_at (a ++ A ++ B ++ C ++ D) E (F ++ G ++ c) (o := o + 12) (by simp only [List.length_append]; omega) e1
    simpa only [List.append_assoc] using this
  have r6 : rdE (a ++ (A ++ B ++ C ++ D ++ E ++ F ++ G) ++ c) (o + 16) 2 = beV F := by
    have := rdE_at (a ++ A ++ B ++ C ++ D ++ E) F (G ++ c) (o := o + 16) (by simp only [List.length_append]; omega) f1
    simpa only [List.append_assoc] using this
  have r7 : rdE (a ++ (A ++ B ++ C ++ D ++ E ++ F ++ G) ++ c) (o + 18) 2 = beV G := by
    have := rdE_at (a ++ A ++ B ++ C ++ D ++ E ++ F) G c (o := o + 18) (by simp only [List.length_append]; omega) g1
    simpa only [List.append_assoc] using this
  rw [r1, r2, r3, r4, r5, r6, r7, a2, b2', c2, d2, e2, f2, g2]
theorem flat_len {l : List T.Trk} (h : ∀ x ∈ l, FitT x) : (l.flatMap trkE).length = 20 * l.length := by
  induction l with
  | nil => simp
  | cons x l ih =>
    rw [List.flatMap_cons, List.length_append, List.length_cons, (h x (by simp)).length, ih fun y hy => h y (by simp [hy])]
    omega
/-- what is read back -/
def seqD (s : List UInt8) : Nat := rdE s 4 4
def clD (s : List UInt8) : Nat := rdE s 8 2
def finD (s : List UInt8) : Bool := rdE s 10 2 == 1
def cntD (s : List UInt8) : Nat := rdE s 12 2
def tksD (s : List UInt8) (n : Nat) : List T.Trk := (List.range n).map fun k => trkD s (14 + 20 * k)
theorem tksD_length (s : List UInt8) (n : Nat) : (tksD s n).length = n := by simp [tksD]
theorem tksD_succ (s : List UInt8) (n : Nat) : tksD s (n + 1) = tksD s n ++ [trkD s (14 + 20 * n)] := by simp [tksD, List.range_succ]
/-- whether a string is the encoding of a table -/
def okD (cap : Int) (s : List UInt8) : Bool :=
  decide (16 ≤ s.length ∧ s.length = 16 + 20 * cntD s) && T.validB cap (clD s) (finD s) (tksD s (cntD s)) && decide (seqD s ≤ 2147483647) && decide (encE (seqD s) (clD s) (finD s) (tksD s (cntD s)) = s)
theorem okD_iff {cap : Int} {s : List UInt8} : okD cap s = true ↔ (16 ≤ s.length ∧ s.length = 16 + 20 * cntD s) ∧ T.validR cap (clD s) (finD s) (tksD s (cntD s)) ∧ seqD s ≤ 2147483647 ∧ encE (seqD s) (clD s) (finD s) (tksD s (cntD s)) = s := by
  unfold okD
  simp only [Bool.and_eq_true, decide_eq_true_eq, T.validB_true, and_assoc]
theorem fit_of_valid {cap cl : Int} {fin : Bool} {l : List T.Trk} (hv : T.validR cap cl fin l) : ∀ x ∈ l, FitT x := by
  intro x hx
  obtain ⟨i, hi, rfl⟩ := List.getElem_of_mem hx
  have e : l[i] = T.tr l i := by simp [T.tr, hi]
  rw [e]
  have h1 := T.validR.at hv hi
  have h2 := hv.2.1
  have h0 := hv.2.2.1
  obtain ⟨o1, o2, o3, o4, o5, o6, o7, o8, o9, o10, o11, o12, o13, o14⟩ := hv.2.2.2.2.2.1 i hi
  have hs : 1 ≤ (T.tr l i).ses := by
    have := T.okR.mono hv.2.2.2.2.2.1 0 (i + 1) (by omega)
    rw [Nat.zero_add, T.sB_zero, T.sB_succ] at this
    exact this
  exact ⟨by omega, by omega, by omega, by omega, by omega, by omega, by omega⟩
theorem tr_mem {l : List T.Trk} {i : Nat} (h : i < l.length) : T.tr l i ∈ l := by simp [T.tr, h]
theorem split_at {l : List T.Trk} {k : Nat} (hk : k < l.length) : l = l.take k ++ T.tr l k :: l.drop (k + 1) := by
  have e : T.tr l k = l[k] := by simp [T.tr, hk]
  rw [e, ← List.drop_eq_getElem_cons hk, List.take_append_drop]
/-- what was encoded is read back -/
theorem enc_read {q cl : Int} {fin : Bool} {l : List T.Trk} (hq : 0 ≤ q ∧ q < 4294967296) (hc : 0 ≤ cl ∧ cl < 65536) (hn : l.length < 65536) (hl : ∀ x ∈ l, FitT x) :
    (encE q cl fin l).length = 16 + 20 * l.length ∧ (seqD (encE q cl fin l) : Int) = q ∧ (clD (encE q cl fin l) : Int) = cl ∧ finD (encE q cl fin l) = fin ∧ cntD (encE q cl fin l) = l.length ∧ tksD (encE q cl fin l) l.length = l := by
  obtain ⟨a1, a2⟩ := b4_ok hq.1 hq.2
  obtain ⟨b1, b2'⟩ := b2_ok hc.1 hc.2
  obtain ⟨c1, c2⟩ := b2_ok (n := fn fin) (by unfold fn; split <;> omega) (by unfold fn; split <;> omega)
  obtain ⟨d1, d2⟩ := b2_ok (n := (l.length : Int)) (by omega) (by omega)
  have hlen := flat_len hl
  have he : encE q cl fin l = [80, 77, 65, 49] ++ b4 q ++ b2 cl ++ b2 (fn fin) ++ b2 l.length ++ (l.flatMap trkE ++ crcB (C.crc 0 (bodyE q cl fin l))) := by
    simp only [encE, bodyE, headE, List.append_assoc]
  have hcr : (crcB (C.crc 0 (bodyE q cl fin l))).length = 2 := rfl
  generalize crcB (C.crc 0 (bodyE q cl fin l)) = Z at he hcr
  have htr : ∀ k, k < l.length → trkD (encE q cl fin l) (14 + 20 * k) = T.tr l k := fun k hk => by
    have hx := hl _ (tr_mem hk)
    have e1 : l.flatMap trkE = (l.take k).flatMap trkE ++ trkE (T.tr l k) ++ (l.drop (k + 1)).flatMap trkE := by
      conv => lhs; rw [split_at hk]
      rw [List.flatMap_append, List.flatMap_cons, List.append_assoc]
    have e2 : ((l.take k).flatMap trkE).length = 20 * k := by
      rw [flat_len fun x hx => hl x (List.mem_of_mem_take hx), List.length_take]; omega
    have := trkD_at hx ([80, 77, 65, 49] ++ b4 q ++ b2 cl ++ b2 (fn fin) ++ b2 l.length ++ (l.take k).flatMap trkE) ((l.drop (k + 1)).flatMap trkE ++ Z) (o := 14 + 20 * k) (by simp only [List.length_append, List.length_cons, List.length_nil]; omega)
    rw [he, e1]
    simpa only [List.append_assoc] using this
  have r1 : rdE (encE q cl fin l) 4 4 = beV (b4 q) := by
    have := rdE_at [80, 77, 65, 49] (b4 q) (b2 cl ++ b2 (fn fin) ++ b2 l.length ++ (l.flatMap trkE ++ Z)) (o := 4) rfl a1
    rw [he]
    simpa only [List.append_assoc] using this
  have r2 : rdE (encE q cl fin l) 8 2 = beV (b2 cl) := by
    have := rdE_at ([80, 77, 65, 49] ++ b4 q) (b2 cl) (b2 (fn fin) ++ b2 l.length ++ (l.flatMap trkE ++ Z)) (o := 8) (by simp only [List.length_append, List.length_cons, List.length_nil]; omega) b1
    rw [he]
    simpa only [List.append_assoc] using this
  have r3 : rdE (encE q cl fin l) 10 2 = beV (b2 (fn fin)) := by
    have := rdE_at ([80, 77, 65, 49] ++ b4 q ++ b2 cl) (b2 (fn fin)) (b2 l.length ++ (l.flatMap trkE ++ Z)) (o := 10) (by simp only [List.length_append, List.length_cons, List.length_nil]; omega) c1
    rw [he]
    simpa only [List.append_assoc] using this
  have r4 : rdE (encE q cl fin l) 12 2 = beV (b2 l.length) := by
    have := rdE_at ([80, 77, 65, 49] ++ b4 q ++ b2 cl ++ b2 (fn fin)) (b2 l.length) (l.flatMap trkE ++ Z) (o := 12) (by simp only [List.length_append, List.length_cons, List.length_nil]; omega) d1
    rw [he]
    simpa only [List.append_assoc] using this
  refine ⟨?_, ?_, ?_, ?_, ?_, ?_⟩
  · rw [he]
    simp only [List.length_append, List.length_cons, List.length_nil]
    omega
  · unfold seqD; rw [r1]; exact a2
  · unfold clD; rw [r2]; exact b2'
  · unfold finD; rw [r3]
    have : beV (b2 (fn fin)) = if fin = true then 1 else 0 := by
      have h := c2
      generalize beV (b2 (fn fin)) = z at h ⊢
      unfold fn at h
      by_cases hf : fin = true
      · rw [if_pos hf] at h ⊢; omega
      · rw [if_neg hf] at h ⊢; omega
    rw [this]
    cases fin <;> rfl
  · unfold cntD; rw [r4]; omega
  · apply List.ext_getElem
    · simp [tksD]
    · intro i h1 h2
      simp only [tksD, List.getElem_map, List.getElem_range]
      rw [htr i h2]
      simp [T.tr, h2]
theorem okD_enc {cap q cl : Int} {fin : Bool} {l : List T.Trk} (hv : T.validR cap cl fin l) (hq : 0 ≤ q) (hq2 : q ≤ 2147483647) :
    okD cap (encE q cl fin l) = true ∧ (seqD (encE q cl fin l) : Int) = q ∧ (clD (encE q cl fin l) : Int) = cl ∧ finD (encE q cl fin l) = fin ∧ cntD (encE q cl fin l) = l.length ∧ tksD (encE q cl fin l) (cntD (encE q cl fin l)) = l ∧ (encE q cl fin l).length = 16 + 20 * l.length := by
  have hl := fit_of_valid hv
  obtain ⟨h1, h2, h3, h4, h5, h6⟩ := enc_read (fin := fin) ⟨hq, by omega⟩ (show 0 ≤ cl ∧ cl < 65536 by have := hv.2.2.2; omega) (by have := hv.2.2.1; omega) hl
  refine ⟨okD_iff.2 ?_, h2, h3, h4, h5, by rw [h5, h6], h1⟩
  rw [h2, h3, h4, h5, h6]
  refine ⟨⟨by omega, h1⟩, hv, by omega, rfl⟩
/-- half of an encoding is none -/
theorem half_bad {cap : Int} {s : List UInt8} {n : Nat} (h : s.length = 16 + 20 * n) : okD cap (s.take (s.length / 2)) = false := by
  rw [Bool.eq_false_iff]
  intro h1
  have h2 := (okD_iff.1 h1).1.2
  rw [List.length_take] at h2
  generalize cntD _ = m at h2
  omega
end Go.Proofs.Ytjnedcncfdpjoaa.E1
/- Chapter 1: reading numbers, the package walked. -/
namespace Go.Proofs.Ytjnedcncfdpjoaa.E1
open Go.RowKit
set_option linter.unusedVariables false

/-- the last 'k' of 'size' bytes from 'o' on -/
def seg (l : List UInt8) (o size k : Nat) : List UInt8 := (l.drop (o + size - k)).take k
theorem seg_all (l : List UInt8) (o size : Nat) : seg l o size size = (l.drop o).take size := by unfold seg; rw [Nat.add_sub_cancel]
theorem seg_succ {l : List UInt8} {o size k : Nat} (h : k < size) (hl : o + size ≤ l.length) : seg l o size (k + 1) = G.ix l (o + (size - 1 - k)) :: seg l o size k := by
  unfold seg
  have e1 : o + size - (k + 1) = o + (size - 1 - k) := by omega
  have e2 : o + size - k = o + (size - 1 - k) + 1 := by omega
  rw [e1, e2, List.drop_eq_getElem_cons (show o + (size - 1 - k) < l.length by omega), List.take_succ_cons]
  simp [G.ix, List.getElem?_eq_getElem (show o + (size - 1 - k) < l.length by omega)]
theorem seg_length {l : List UInt8} {o size k : Nat} (h : k ≤ size) (hl : o + size ≤ l.length) : (seg l o size k).length = k := by
  unfold seg; rw [List.length_take, List.length_drop]; omega
theorem inside_any (s : ByteArray) (o c : Int) (w : World) (h0 : 0 ≤ o) (h1 : 0 ≤ c) (h2 : o ≤ 1000000) (h3 : c ≤ 8) (hs : s.size ≤ 1000000) :
    Calls Try.prog 92 #[.string s, .int .i64 o, .int .i64 c] w fun e w' => e = .returned (.bool (decide (o + c ≤ s.size))) ∧ w = w' := by
  by_cases h : o + c ≤ s.size
  · rw [decide_eq_true h]
    have hx : o ≤ (s.size : Int) - c := by omega
    go_enter Try.func92, Try.ntmps92
    go_wp2_with fail
    go_ret
    exact ⟨rfl, rfl⟩
  · rw [decide_eq_false h]
    have hx : ¬ o ≤ (s.size : Int) - c := by omega
    go_enter Try.func92, Try.ntmps92
    go_wp2_with fail
    go_ret
    exact ⟨rfl, rfl⟩
theorem or64 {a c k : Nat} (ha : a < 256 ^ k) (hc : c < 256) (hk : k ≤ 6) : bits .or .u64 (a : Int) ((c * 2 ^ (8 * k) : Nat) : Int) = ((c * 256 ^ k + a : Nat) : Int) := by
  have e : (256 : Nat) ^ k = 2 ^ (8 * k) := by rw [Nat.pow_mul]
  rw [e] at ha ⊢
  have hb : c * 2 ^ (8 * k) + a = a ||| c * 2 ^ (8 * k) := by
    rw [Nat.mul_comm, Nat.two_pow_add_eq_or_of_lt ha, Nat.or_comm]
  have hp : (2 : Nat) ^ (8 * k) ≤ 2 ^ 48 := Nat.pow_le_pow_right (by omega) (by omega)
  have hq : c * 2 ^ (8 * k) ≤ 255 * 2 ^ 48 := Nat.mul_le_mul (by omega) hp
  rw [hb]
  generalize c * 2 ^ (8 * k) = q at *
  have hz : a ||| q < 2 ^ 62 := by rw [← hb]; omega
  show IntKind.u64.wrap ((BitVec.ofInt 64 (a : Int) ||| BitVec.ofInt 64 (q : Int)).toNat : Int) = _
  rw [BitVec.toNat_or, ofInt_u64 a (by omega), ofInt_u64 q (by omega)]
  generalize a ||| q = z at *
  simp [IntKind.wrap, IntKind.bits, IntKind.signed]
  omega
theorem wrapS (c k : Nat) (hc : c < 256) (hk : k ≤ 6) : IntKind.u64.wrap (IntKind.u64.wrap (c : Int) * 2 ^ (8 * k)) = ((c * 2 ^ (8 * k) : Nat) : Int) := by
  have hp : (2 : Nat) ^ (8 * k) ≤ 2 ^ 48 := Nat.pow_le_pow_right (by omega) (by omega)
  have hq : c * 2 ^ (8 * k) ≤ 255 * 2 ^ 48 := Nat.mul_le_mul (by omega) hp
  have e1 : IntKind.u64.wrap (c : Int) = (c : Int) := by
    simp [IntKind.wrap, IntKind.bits, IntKind.signed]; omega
  have e2 : (c : Int) * 2 ^ (8 * k) = ((c * 2 ^ (8 * k) : Nat) : Int) := by simp
  rw [e1, e2]
  generalize c * 2 ^ (8 * k) = q at *
  simp [IntKind.wrap, IntKind.bits, IntKind.signed]
  omega
set_option maxRecDepth 100000 in
set_option maxHeartbeats 1000000 in
theorem read_any (l : List UInt8) (o size : Nat) (x y : Int) (b : Nat) (w : World) (hy : y = o) (hx : x = size) (h1 : 1 ≤ size) (hs : size ≤ 4) (ho : o ≤ 1000000) (hl : l.length ≤ 1000000) (hc : w.cell? ⟨b, 0, none⟩ = some (.int .i64 x)) (hin : o + size ≤ l.length) :
    Calls Try.prog 80 #[.string (str l), .int .i64 y, .int .i64 x, .func (.func 82) #[] #[.pointer (some ⟨b, 0, none⟩)]] w fun e w' => e = .returned (.tuple #[.int .i64 (rdE l o size), .int .i64 0]) ∧ w = w' := by
  have HI := Lib.hid (fun W => inside_any (str l) y x W (by omega) (by omega) (by omega) (by omega) (by rw [str_size]; exact hl))
  have hd : decide (y + x ≤ ((str l).size : Int)) = true := by rw [str_size]; simp; omega
  rw [hd] at HI
  subst hx hy
  have HR : Hid (rdE l o size = beV (seg l o size size)) := Lib.hid (by unfold rdE; rw [if_pos hin, seg_all])
  clear hd
  go_enter Try.func80, Try.ntmps80
  go_wp2_with fail
  refine (HI.out _).mono ?_
  rintro e w' ⟨rfl, rfl⟩
  go_wp2_with fail
  go_loop [10, 26] (fun vn vk => ∃ k n : Nat, k ≤ size ∧ vk = .int .i64 k ∧ vn = .int .u64 n ∧ Hid (n = beV (seg l o size k)) ∧ n < 256 ^ 4) (fun _ vk => size - (intOf vk).toNat)
  case atStart => exact ⟨0, 0, by omega, rfl, rfl, Lib.hid (by simp [seg, beV]), by omega⟩
  case round =>
    obtain ⟨k, n, hk, rfl, rfl, HN, hnb⟩ := hrel
    by_cases hlt : k < size
    · have hix := fun W => run_sidxE (P := Try.prog) Try.underlying9 l (o + (size - 1 - k)) (by omega) ((o : Int) + ((size : Int) - 1 - (k : Int))) (by omega) W
      go_wp2_with (go_at_call 82; refine (down1_any b size k _ hc (by omega) (by omega) (by omega)).mono ?_; rintro e w1 ⟨rfl, rfl⟩)
      go_round
      case rel =>
        have hz := HN.out
        have hkk : n < 256 ^ k := by have := beV_lt (seg l o size k); rw [seg_length hk hin] at this; rw [hz]; exact this
        have hc8 := (G.ix l (o + (size - 1 - k))).toNat_lt
        have hsz : beV (seg l o size (k + 1)) = (G.ix l (o + (size - 1 - k))).toNat * 256 ^ k + n := by rw [seg_succ hlt hin, beV_cons, seg_length hk hin, ← hz]
        have hlt2 : beV (seg l o size (k + 1)) < 256 ^ 4 := by
          have := beV_lt (seg l o size (k + 1)); rw [seg_length (by omega) hin] at this
          exact Nat.lt_of_lt_of_le this (Nat.pow_le_pow_right (by omega) (by omega))
        refine ⟨k + 1, beV (seg l o size (k + 1)), by omega, by go_num, congrArg (Value.int .u64) ?_, Lib.hid rfl, hlt2⟩
        rw [hsz]
        generalize (G.ix l (o + (size - 1 - k))).toNat = c at *
        rw [← or64 hkk hc8 (by omega), wrapS c k hc8 (by omega)]
      case measure => simp [intOf]; omega
    · obtain rfl : k = size := by omega
      have hnb' : n ≤ 9223372036854775807 := by omega
      have hcv : IntKind.i64.wrap (n : Int) = n := IntWalk.i64_in _ (by omega)
      have HZ : Hid (n = rdE l o k) := Lib.hid (by rw [HR.out]; exact HN.out)
      clear HN HR
      go_wp2_with fail
      go_ret2
      rw [← HZ.out]
      exact ⟨rfl, rfl⟩
end Go.Proofs.Ytjnedcncfdpjoaa.E1
/- Chapter 1: ReadBig of the package and of the reference walked. -/
namespace Go.Proofs.Ytjnedcncfdpjoaa.E1
open Go.RowKit
set_option linter.unusedVariables false

def rdC (l : List UInt8) (o size : Nat) : Int := if o + size ≤ l.length then 0 else 2
set_option maxRecDepth 100000 in
theorem read_out (l : List UInt8) (o size : Nat) (x y : Int) (f : Value) (w : World) (hy : y = o) (hx : x = size) (h1 : 1 ≤ size) (hs : size ≤ 4) (ho : o ≤ 1000000) (hl : l.length ≤ 1000000) (hin : ¬ o + size ≤ l.length) :
    Calls Try.prog 80 #[.string (str l), .int .i64 y, .int .i64 x, f] w fun e w' => e = .returned (.tuple #[.int .i64 0, .int .i64 2]) ∧ w = w' := by
  have HI := Lib.hid (fun W => inside_any (str l) y x W (by omega) (by omega) (by omega) (by omega) (by rw [str_size]; exact hl))
  have hd : decide (y + x ≤ ((str l).size : Int)) = false := by rw [str_size]; simp; omega
  rw [hd] at HI
  subst hx hy
  clear hd
  go_enter Try.func80, Try.ntmps80
  go_wp2_with fail
  refine (HI.out _).mono ?_
  rintro e w' ⟨rfl, rfl⟩
  go_wp2_with fail
  go_ret2
  exact ⟨rfl, rfl⟩
set_option maxRecDepth 100000 in
theorem readbig_any (l : List UInt8) (o size : Nat) (x y : Int) (w : World) (hy : y = o) (hx : x = size) (h1 : 1 ≤ size) (hs : size ≤ 4) (ho : o ≤ 1000000) (hl : l.length ≤ 1000000) :
    Calls Try.prog 60 #[.string (str l), .int .i64 y, .int .i64 x] w fun e w' => e = .returned (.tuple #[.int .i64 (rdE l o size), .int .i64 (rdC l o size)]) ∧ Below w.heap.size w w' := by
  have HD := Lib.hid (fun W => down_any x W)
  by_cases hin : o + size ≤ l.length
  · have HR := Lib.hid (fun b W hc => read_any l o size x y b W hy hx h1 hs ho hl hc hin)
    have e : rdC l o size = 0 := by unfold rdC; rw [if_pos hin]
    rw [e]
    clear e hy hx
    go_enter Try.func60, Try.ntmps60
    go_wp2_with fail
    refine (HD.out _).mono ?_
    rintro e w1 ⟨b, rfl, hc1, hbs, hb1⟩
    go_wp2_with fail
    refine (HR.out b _ hc1).mono ?_
    rintro e w2 ⟨rfl, rfl⟩
    clear hc1
    go_wp2_with fail
    go_ret2
    exact ⟨rfl, hb1⟩
  · have HR := Lib.hid (fun f W => read_out l o size x y f W hy hx h1 hs ho hl hin)
    have e : rdC l o size = 2 := by unfold rdC; rw [if_neg hin]
    have e2 : rdE l o size = 0 := by unfold rdE; rw [if_neg hin]
    rw [e, e2]
    clear e e2 hy hx
    go_enter Try.func60, Try.ntmps60
    go_wp2_with fail
    refine (HD.out _).mono ?_
    rintro e w1 ⟨b, rfl, hc1, hbs, hb1⟩
    go_wp2_with fail
    refine (HR.out _ _).mono ?_
    rintro e w2 ⟨rfl, rfl⟩
    clear hc1
    go_wp2_with fail
    go_ret2
    exact ⟨rfl, hb1⟩

/-- 's[:k]' of a string -/
theorem run_stoE {P : Program} {t : TypeId} (ht : P.underlying t = some .string) (l : List UInt8) (k : Nat) (hk : k ≤ l.length) (x : Int) (hx : x = k) (w : World) : (Instr.slice t (.string (str l)) none (some (.int .i64 x)) none).run P w = .ok (.string (str (l.take k))) w := by
  subst hx
  have hs := str_size l
  have he : (str l).extract 0 k = str (l.take k) := by
    apply ByteArray.ext
    rw [ByteArray.data_extract]
    simp [str]
  simp [Instr.slice, run_underlying ht, Instr.sliceBounds, run_sliceBound, hs, hk, he]
/-- a part of a string -/
theorem run_scutE {P : Program} {t : TypeId} (ht : P.underlying t = some .string) (l : List UInt8) (lo hi : Nat) (h1 : lo ≤ hi) (h2 : hi ≤ l.length) (x y : Int) (hx : x = lo) (hy : y = hi) (w : World) :
    (Instr.slice t (.string (str l)) (some (.int .i64 x)) (some (.int .i64 y)) none).run P w = .ok (.string (str ((l.drop lo).take (hi - lo)))) w := by
  subst hx hy
  have e : (str l).extract lo hi = str ((l.drop lo).take (hi - lo)) := by
    apply ByteArray.ext
    rw [ByteArray.data_extract]
    simp [str]
  simp [Instr.slice, run_underlying ht, Instr.sliceBounds, run_sliceBound, str_size, h2, h1, e]
end Go.Proofs.Ytjnedcncfdpjoaa.E1
/- 'm[k] op= x' on a map: the entry is looked up or made, then stored; a map of ints as a set. No program is named here but by its numbers. -/
namespace Go.Proofs.Ytjnedcncfdpjoaa.Mp
open Go.RowKit Go.Maps Go.MapKept Go.WideElems Go.ChangeMaps
set_option linter.unusedVariables false

section
variable {H : Type} {P : Program} {k e t : TypeId} {R : Value → Option (DataW H × List MemPlace)} {w : World} {b n : Nat} {D : DataW H}
theorem setBlock_twice (w : World) (b : Nat) (o o' : Obj) : setBlock (setBlock w b o) b o' = setBlock w b o' := by simp [setBlock]
theorem run_entryStore {w1 : World} {es1 : Array MapEntry} {c1 j : Nat} {st : Nat} {val : Value} (hw : w1.heap[b]? = some (.map es1 c1)) (hidx : es1.findIdx? (fun e => ((e.born : Nat) : Int) == ((st : Nat) : Int)) = some j) :
    (Instr.entryStore t (.map (some b)) (.int .i64 st) val).run P w1 = .ok () (setBlock w1 b (.map (es1.modify j fun e => { e with val := val }) c1)) := by
  simp [Instr.entryStore, MapKept.run_getObj_map hw, asInt, asIntOf, hidx, MapKept.run_setObj_map _ hw, Result.andThen, setBlock]
/-- the entry of a key: what it holds, and what storing to it does -/
theorem entry_store (h : w.ownsMap P k R b n D) (K : Keyed P k) (ht : P.underlying t = some (.map k e)) {z : Value} (hz : ∀ u : World, (zeroValue e).run P u = .ok z u) (hn : n < maxLen) {key : Value} {kl : Lit} (hkey : keyOf P k key = some kl) {zd : DataW H} {zp : List MemPlace} (hzd : R z = some (zd, zp)) :
    ∃ (v0 : Value) (st : Nat) (w1 : World), (Instr.mapEntry t (.map (some b)) key).run P w = .ok (.tuple #[v0, .int .i64 st]) w1 ∧ w.grownBy w1 (some b) ∧ (∃ ps, R v0 = some (D.atKey kl zd, ps)) ∧
      ∀ (val : Value) (d : DataW H) (ps : List MemPlace), R val = some (d, ps) → ∃ w2, (Instr.entryStore t (.map (some b)) (.int .i64 st) val).run P w1 = .ok () w2 ∧ w2.ownsMap P k R b (n + 1) (D.put kl d) ∧ w.grownBy w2 (some b) := by
  have hstore := fun (val : Value) (d : DataW H) (ps : List MemPlace) (hv : R val = some (d, ps)) => h.store K ht hn hkey hv
  obtain ⟨v1, p1, hl1, hl2⟩ := h.lookup K ht (hz w) hzd hkey
  obtain ⟨es, clock, hb, F, hs, hD⟩ := h
  obtain ⟨s1, s2, _⟩ := F.stamped
  have hgrow : ∀ o, w.grownBy (setBlock w b o) (some b) := fun o => ⟨rfl, rfl, rfl, by simp [setBlock], fun i _ hi => heap_setBlock_other hb o (fun e => hi (by rw [e]))⟩
  rcases K.find w hkey es.toList F.keys with ⟨h1, h2⟩ | ⟨j, e0, h1, h2, h3⟩
  · have hrun : (Instr.mapEntry t (.map (some b)) key).run P w = .ok (.tuple #[z, .int .i64 clock]) (setBlock w b (.map (es.push ⟨key, z, clock⟩) (clock + 1))) := by
      simp [Instr.mapEntry, run_underlying ht, MapKept.run_getObj_map hb, K.check w false hkey, h1, hz, MapKept.run_setObj_map _ hb, Result.andThen, setBlock, goInt]
    have hlk : (Instr.lookup t (.map (some b)) key false).run P w = .ok z w := by
      simp [Instr.lookup, run_underlying ht, MapKept.run_getObj_map hb, K.check w es.isEmpty hkey, h1, hz, Result.andThen]
    rw [hlk] at hl1
    have hv1 : v1 = z := by simpa using hl1.symm
    subst hv1
    refine ⟨v1, clock, _, hrun, hgrow _, ⟨p1, hl2⟩, fun val d ps hv => ?_⟩
    have hw2 := heap_setBlock_same hb (.map (es.push ⟨key, v1, clock⟩) (clock + 1))
    have hidx : (es.push ⟨key, v1, clock⟩).findIdx? (fun e => ((e.born : Nat) : Int) == ((clock : Nat) : Int)) = some es.size := by
      rw [findIdx_arr]
      exact findIdx_born (l := (es.push ⟨key, v1, clock⟩).toList) (j := es.size) (e0 := ⟨key, v1, clock⟩) (by
        simp only [Array.toList_push, List.map_append, List.map_cons, List.map_nil]
        refine List.nodup_append.2 ⟨s2, by simp, fun a ha c hc e1 => ?_⟩
        simp only [List.mem_singleton] at hc
        obtain ⟨x, hx, rfl⟩ := List.mem_map.1 ha
        have := s1 x hx
        omega) (by simp)
    have hmod : (es.push ⟨key, v1, clock⟩).modify es.size (fun e => { e with val := val }) = es.push ⟨key, val, clock⟩ := by
      apply Array.ext'
      rw [Array.toList_modify, Array.toList_push, Array.toList_push, ← Array.length_toList, modify_last]
    have hes := run_entryStore (P := P) (t := t) (val := val) hw2 hidx
    rw [setBlock_twice, hmod] at hes
    have hup : (Instr.mapUpdate t (.map (some b)) key val).run P w = .ok () (setBlock w b (.map (es.push ⟨key, val, clock⟩) (clock + 1))) := by
      simp [Instr.mapUpdate, run_underlying ht, MapKept.run_getObj_map hb, K.check w false hkey, h1, MapKept.run_setObj_map _ hb, Result.andThen, setBlock]
    obtain ⟨w', hr, ho, hg⟩ := hstore val d ps hv
    rw [hup] at hr
    have e : setBlock w b (.map (es.push ⟨key, val, clock⟩) (clock + 1)) = w' := by simpa using hr
    exact ⟨_, hes, by rw [e]; exact ho, hgrow _⟩
  · have hj : es[j]? = some e0 := by simpa using h2
    have hsame : es.modify j (fun e => { e with key := key }) = es := by
      apply Array.ext'
      rw [Array.toList_modify, modify_eq_set _ _ _ _ h2]
      have : ({ e0 with key := key } : MapEntry) = e0 := by rw [← h3]
      rw [this]
      exact set_self _ _ _ h2
    have hrun : (Instr.mapEntry t (.map (some b)) key).run P w = .ok (.tuple #[e0.val, .int .i64 e0.born]) (setBlock w b (.map es clock)) := by
      simp [Instr.mapEntry, run_underlying ht, MapKept.run_getObj_map hb, K.check w false hkey, h1, hj, h3, K.stays w hkey, hsame, MapKept.run_setObj_map _ hb, Result.andThen, setBlock, goInt]
    have hlk : (Instr.lookup t (.map (some b)) key false).run P w = .ok e0.val w := by
      simp [Instr.lookup, run_underlying ht, MapKept.run_getObj_map hb, K.check w es.isEmpty hkey, h1, Result.andThen]
    rw [hlk] at hl1
    have hv1 : v1 = e0.val := by simpa using hl1.symm
    subst hv1
    refine ⟨e0.val, e0.born, _, hrun, hgrow _, ⟨p1, hl2⟩, fun val d ps hv => ?_⟩
    have hw2 := heap_setBlock_same hb (.map es clock)
    have hidx : es.findIdx? (fun e => ((e.born : Nat) : Int) == ((e0.born : Nat) : Int)) = some j := by
      rw [findIdx_arr]
      exact findIdx_born s2 h2
    have hmod : es.modify j (fun e => { e with val := val }) = es.modify j (fun e' => { e' with key := key, val := val }) := by
      apply Array.ext'
      rw [Array.toList_modify, Array.toList_modify, modify_eq_set _ _ _ _ h2, modify_eq_set _ _ _ _ h2, ← h3]
    have hes := run_entryStore (P := P) (t := t) (val := val) hw2 hidx
    rw [setBlock_twice, hmod] at hes
    have hup : (Instr.mapUpdate t (.map (some b)) key val).run P w = .ok () (setBlock w b (.map (es.modify j (fun e' => { e' with key := key, val := val })) clock)) := by
      simp [Instr.mapUpdate, run_underlying ht, MapKept.run_getObj_map hb, K.check w false hkey, h1, hj, h3, K.stays w hkey, MapKept.run_setObj_map _ hb, Result.andThen, setBlock]
    obtain ⟨w', hr, ho, hg⟩ := hstore val d ps hv
    rw [hup] at hr
    have e : setBlock w b (.map (es.modify j (fun e' => { e' with key := key, val := val })) clock) = w' := by simpa using hr
    exact ⟨_, hes, by rw [e]; exact ho, hgrow _⟩
end
end Go.Proofs.Ytjnedcncfdpjoaa.Mp
/- A map from int to bool that the call made: read as a function. -/
namespace Go.Proofs.Ytjnedcncfdpjoaa.Mp
open Go.RowKit Go.Maps
set_option linter.unusedVariables false

theorem lawInt : Keyed Try.prog 3 := int_keyed Try.underlying3
theorem zeroBool : ∀ w, (zeroValue 4).run Try.prog w = .ok (.bool false) w := fun _ => by kernel_rfl
theorem wfI {x : Int} (h1 : -9223372036854775808 ≤ x) (h2 : x ≤ 9223372036854775807) : (Lit.int .i64 x).wf = true := by simp [Lit.wf, IntKind.min, IntKind.max, IntKind.signed, IntKind.bits]; omega
theorem plainElem_bool_inv {H : Type} {P : Program} {e : TypeId} (he : P.underlying e = some .bool) {v : Value} {z : DataW H × List MemPlace} (h : plainElem P e v = some z) : ∃ a, v = .bool a ∧ z = (.lit (.bool a), []) := by
  unfold plainElem at h
  rw [he] at h
  cases v <;> simp at h
  exact ⟨_, rfl, h.symm⟩

/-- block 'b' is a map of at most 'n' entries; at the int 'x' it reads 'f x' -/
def SetI (w : World) (b n : Nat) (f : Int → Bool) : Prop :=
  ∃ D : DataW Unit, w.ownsMap Try.prog 3 (plainElem Try.prog 4) b n D ∧ ∀ x, -9223372036854775808 ≤ x → x ≤ 9223372036854775807 → D.atKey (.int .i64 x) (.lit (.bool false)) = .lit (.bool (f x))
theorem SetI.made (w : World) : SetI (w.alloc (.map #[] 0)) w.heap.size 0 (fun _ => false) := ⟨.map [], World.ownsMap_made _ _ _ _, fun x _ _ => rfl⟩
theorem SetI.lt {w : World} {b n : Nat} {f : Int → Bool} (h : SetI w b n f) : b < w.heap.size := by
  obtain ⟨D, h, _⟩ := h; exact h.lt
theorem SetI.kept {w w' : World} {b n : Nat} {f : Int → Bool} (h : SetI w b n f) (hk : w'.heap[b]? = w.heap[b]?) : SetI w' b n f := by
  obtain ⟨D, ⟨es, clock, hb, F, hs, hD⟩, hf⟩ := h
  exact ⟨D, ⟨es, clock, hk.trans hb, F, hs, hD⟩, hf⟩
theorem SetI.below {w w' : World} {b n : Nat} {f : Int → Bool} (h : SetI w b n f) (hb : Below w.heap.size w w') : SetI w' b n f := h.kept (hb.block b h.lt)
theorem SetI.run {w : World} {b n : Nat} {f : Int → Bool} (h : SetI w b n f) (x : Int) (h1 : -9223372036854775808 ≤ x) (h2 : x ≤ 9223372036854775807) :
    (Instr.lookup 78 (.map (some b)) (.int .i64 x) false).run Try.prog w = .ok (.bool (f x)) w := by
  obtain ⟨D, hown, hf⟩ := h
  obtain ⟨v, ps, hrun, hv⟩ := hown.lookup lawInt Try.underlying78 (zeroBool w) (plainElem_bool Try.underlying4 false) (keyOf_int_mk Try.underlying3 (wfI h1 h2))
  obtain ⟨c, rfl, hc⟩ := plainElem_bool_inv Try.underlying4 hv
  simp only [Prod.mk.injEq] at hc
  rw [hf x h1 h2] at hc
  have : c = f x := by simpa using hc.1.symm
  rw [hrun, this]
def setF (f : Int → Bool) (x : Int) (v : Bool) : Int → Bool := fun y => if y = x then v else f y
/-- 'm[x] = v' -/
theorem wpList_setI {w : World} {ops : Array Oper} {rest : List Oper} {o : Oper} {a : Act} {Q : Exit → Act → World → Prop}
    (hg : o.guard = none) (m x v : Operand) (hop : o.op = Op.mapUpdate 78 m x v) {b n : Nat} {f : Int → Bool} (hown : SetI w b n f) (hm : a.eval m = .map (some b)) {X : Int} (hx : a.eval x = .int .i64 X) {V : Bool} (hv : a.eval v = .bool V)
    (h1 : -9223372036854775808 ≤ X) (h2 : X ≤ 9223372036854775807) (hn : n < 1000000)
    (hK : ∀ w', SetI w' b (n + 1) (setF f X V) → w.grownBy w' (some b) → wpList Try.prog ops Q rest (a.put o.dst undef) w') : wpList Try.prog ops Q (o :: rest) a w := by
  obtain ⟨D, hown, hf⟩ := hown
  refine wpList_mapUpdate_own _ hg m x v 78 hop 3 4 lawInt Try.underlying78 _ b n D hm hown (by unfold maxLen; omega) _ _ _ hx hv (keyOf_int_mk Try.underlying3 (wfI h1 h2)) _ [] (plainElem_bool Try.underlying4 V) ?_
  intro w' ho hgr
  refine hK w' ⟨_, ho, fun y g1 g2 => ?_⟩ hgr
  unfold setF
  by_cases e : y = X
  · subst e
    rw [if_pos rfl, atKey_put_same hown.isMap]
    trivial
  · rw [if_neg e, atKey_put_other (by simpa using e), hf y g1 g2]
end Go.Proofs.Ytjnedcncfdpjoaa.Mp
/- Chapter 13: the encoding's numbers in plain words. -/
namespace Go.Proofs.Ytjnedcncfdpjoaa.D13
open Go.RowKit Go.Maps
set_option linter.unusedVariables false

def nums13 (T : Tab) : List Int := head13 T ++ T.prim ++ T.reps.flatMap fun p => [p.1, p.2]
theorem encL_pairs (l : List (Int × Int)) : l.flatMap repB = encL (l.flatMap fun p => [p.1, p.2]) := by
  induction l with
  | nil => rfl
  | cons p r ih =>
    rw [List.flatMap_cons, List.flatMap_cons, encL_append, ih]
    simp [encL, repB]
theorem body_nums (T : Tab) : body13 T = magic13 ++ encL (nums13 T) := by
  unfold body13 nums13
  rw [encL_append, encL_append, encL_pairs]
  simp only [List.append_assoc]
theorem encL_len {l : List Int} (h : ∀ x ∈ l, 0 ≤ x ∧ x < 65536) : (encL l).length = 2 * l.length := by
  induction l with
  | nil => rfl
  | cons x r ih =>
    have hx := h x (by simp)
    have e := (E1.b2_ok hx.1 hx.2).1
    have e2 : encL (x :: r) = b2 x ++ encL r := by simp [encL]
    rw [e2, List.length_append, ih fun y hy => h y (by simp [hy]), List.length_cons]
    have e3 : (b2 x).length = 2 := e
    omega
theorem rd_nums {l : List Int} (h : ∀ x ∈ l, 0 ≤ x ∧ x < 65536) (a c : List UInt8) {i : Nat} (hi : i < l.length) : ((E1.rdE (a ++ encL l ++ c) (a.length + 2 * i) 2 : Nat) : Int) = ixI l i := by
  have hx := h _ (ixI_mem hi)
  have hb : (b2 (ixI l i)).length = 2 ∧ ((E1.beV (b2 (ixI l i)) : Nat) : Int) = ixI l i := E1.b2_ok hx.1 hx.2
  have e : l = l.take i ++ [ixI l i] ++ l.drop (i + 1) := by
    rw [← ixI_append_take l i hi, List.take_append_drop]
  have e2 : encL l = encL (l.take i) ++ b2 (ixI l i) ++ encL (l.drop (i + 1)) := by
    rw [show encL l = encL (l.take i ++ [ixI l i] ++ l.drop (i + 1)) from congrArg encL e, encL_append, encL_append]
    simp [encL]
  have e3 : a ++ encL l ++ c = (a ++ encL (l.take i)) ++ b2 (ixI l i) ++ (encL (l.drop (i + 1)) ++ c) := by
    rw [e2]; simp only [List.append_assoc]
  rw [e3, E1.rdE_at _ _ _ (by
    rw [List.length_append, encL_len fun x hx => h x (List.mem_of_mem_take hx), List.length_take, Nat.min_eq_left (by omega)]) hb.1]
  exact hb.2
section
variable {T : Tab}
theorem Tab.Ok.keys_le (h : T.Ok) : ∀ p ∈ T.reps, 0 ≤ p.1 ∧ p.1 < T.blocks ∧ 0 ≤ p.2 ∧ p.2 < T.used := by
  intro p hp
  simp only [Tab.reps, List.mem_map] at hp
  obtain ⟨x, hx, rfl⟩ := hp
  have hk := ((h.mem_keys x).1 hx).2
  cases e : T.mv x with
  | none => rw [e] at hk; cases hk
  | some s =>
    have h1 := h.mr x s e
    have e2 : (T.pair x).2 = (s : Int) := by unfold Tab.pair; rw [e]; rfl
    rw [e2]
    show 0 ≤ x ∧ x < _ ∧ _
    omega
theorem Tab.Ok.nums (h : T.Ok) (hk : T.keys.length ≤ T.used) : ∀ x ∈ nums13 T, 0 ≤ x ∧ x < 65536 := by
  have h1 := h.b2
  have h2 := h.sp
  have h3 := h.pl
  have h4 := h.us
  intro x hx
  simp only [nums13, List.mem_append, head13, List.mem_cons, List.not_mem_nil, or_false, List.mem_flatMap] at hx
  rcases hx with (hx | hx) | ⟨p, hp, hx⟩
  · rcases hx with rfl | rfl | rfl | rfl | rfl <;> omega
  · have := h.pr x hx
    have := first_int T
    omega
  · have := h.keys_le p hp
    rcases hx with rfl | rfl <;> omega
theorem nums_length (T : Tab) : (nums13 T).length = 5 + T.prim.length + 2 * T.keys.length := by
  have e : ∀ l : List (Int × Int), (l.flatMap fun p => [p.1, p.2]).length = 2 * l.length := by
    intro l
    induction l with
    | nil => rfl
    | cons p r ih => rw [List.flatMap_cons, List.length_append, ih, List.length_cons]; simp; omega
  unfold nums13
  rw [List.length_append, List.length_append, e, Tab.reps_length]
  rfl
theorem Tab.Ok.enc_length (h : T.Ok) (hk : T.keys.length ≤ T.used) : (body13 T).length = 14 + 2 * T.prim.length + 4 * T.keys.length := by
  rw [body_nums, List.length_append, encL_len (h.nums hk), nums_length]
  show 4 + _ = _
  omega
/-- the number 'i' of an encoding -/
theorem Tab.Ok.rd (h : T.Ok) (hk : T.keys.length ≤ T.used) {i : Nat} (hi : i < (nums13 T).length) : ((E1.rdE (enc13 T) (4 + 2 * i) 2 : Nat) : Int) = ixI (nums13 T) i := by
  unfold enc13
  rw [body_nums]
  exact rd_nums (h.nums hk) magic13 _ hi
theorem flat_pairs (l : List (Int × Int)) {k : Nat} (h : k < l.length) : ixI (l.flatMap fun p => [p.1, p.2]) (2 * k) = (atD ((0 : Int), (0 : Int)) l k).1 ∧ ixI (l.flatMap fun p => [p.1, p.2]) (2 * k + 1) = (atD ((0 : Int), (0 : Int)) l k).2 := by
  induction l generalizing k with
  | nil => simp at h
  | cons p r ih =>
    cases k with
    | zero => exact ⟨rfl, rfl⟩
    | succ k =>
      have := ih (k := k) (by simpa using h)
      exact this
theorem ixI_left (a b : List Int) {i : Nat} (h : i < a.length) : ixI (a ++ b) i = ixI a i := by simp [ixI, List.getElem?_append_left h]
theorem ixI_right (a b : List Int) (i : Nat) : ixI (a ++ b) (a.length + i) = ixI b i := by simp [ixI, List.getElem?_append_right]
theorem nums_head (T : Tab) {i : Nat} (h : i < 5) : ixI (nums13 T) i = ixI (head13 T) i := by
  unfold nums13
  have e : (head13 T).length = 5 := rfl
  rw [ixI_left _ _ (by rw [List.length_append]; omega), ixI_left _ _ (by omega)]
theorem nums_prim (T : Tab) {i : Nat} (h : i < T.prim.length) : ixI (nums13 T) (5 + i) = ixI T.prim i := by
  unfold nums13
  have e : (head13 T).length = 5 := rfl
  rw [ixI_left _ _ (by rw [List.length_append]; omega), ← e, ixI_right]
theorem nums_reps (T : Tab) {k : Nat} (h : k < T.reps.length) : ixI (nums13 T) (5 + T.prim.length + 2 * k) = (atD ((0 : Int), (0 : Int)) T.reps k).1 ∧ ixI (nums13 T) (5 + T.prim.length + 2 * k + 1) = (atD ((0 : Int), (0 : Int)) T.reps k).2 := by
  unfold nums13
  have e : (head13 T ++ T.prim).length = 5 + T.prim.length := by rw [List.length_append]; rfl
  rw [← e, Nat.add_assoc, ixI_right, ixI_right]
  exact flat_pairs T.reps h
end
end Go.Proofs.Ytjnedcncfdpjoaa.D13
/- Chapter 13: next, Decode walked, at an encoding. -/
namespace Go.Proofs.Ytjnedcncfdpjoaa.D13
open Go.RowKit Go.Maps
set_option linter.unusedVariables false

/-- the reader at an offset -/
abbrev RdrW (w : World) (gr : Nat) (l : List UInt8) (o : Nat) : Prop := Bx w gr 77 [.string (str l), .int .i64 o]
def nxtV (gr : Nat) (l : List UInt8) (o : Nat) (i : Nat) (v : Value) (W : World) : Prop := match i with
  | 0 => v = .pointer (some ⟨gr, 0, none⟩)
  | 1 => v = .pointer (some ⟨gr, 0, none⟩)
  | 2 => v = .pointer (some ⟨gr, 0, none⟩)
  | 3 => v = .string (str l)
  | 4 => v = .pointer (some ⟨gr, 0, none⟩)
  | 5 => v = .pointer (some ⟨gr, 0, none⟩)
  | 6 => v = .pointer (some ⟨gr, 1, none⟩)
  | 7 => v = .int .i64 (o : Nat)
  | 8 => v = .tuple #[.int .i64 (E1.rdE l o 2 : Nat), .int .i64 (E1.rdC l o 2)]
  | 9 => v = .tuple #[.int .i64 (E1.rdE l o 2 : Nat), .int .i64 (E1.rdC l o 2)]
  | 10 => v = .int .i64 (E1.rdE l o 2 : Nat)
  | 11 => v = .int .i64 (E1.rdC l o 2)
  | 12 => v = .int .i64 (E1.rdE l o 2 : Nat)
  | 13 => v = .int .i64 (E1.rdC l o 2)
  | _ => True
theorem nxtV_keep (gr : Nat) (l : List UInt8) (o : Nat) (i : Nat) (v : Value) (W W' : World) (hR : (fun w W => Below w.heap.size w W) W W') (h : nxtV gr l o i v W) : nxtV gr l o i v W' := by
  unfold nxtV at h ⊢
  split at h <;> first | exact h
set_option maxRecDepth 100000 in
set_option maxHeartbeats 4000000 in
theorem next_any {w : World} {gr o : Nat} {l : List UInt8} (h : RdrW w gr l o) (ho : o ≤ 1000000) (hl : l.length ≤ 1000000) :
    Calls Try.prog 45 #[.pointer (some ⟨gr, 0, none⟩)] w fun e w' => e = .returned (.int .i64 (E1.rdE l o 2 : Nat)) ∧ RdrW w' gr l (o + 2) ∧ Turn1 gr w w' := by
  have HO := Lib.hid ho
  have HL := Lib.hid hl
  have HX := Lib.hid h
  clear h ho hl
  go_enter Try.func45, Try.ntmps45
  go_upto_region 1 with (fail)
  refine wp_region_inr (by kernel_rfl) (fun w W => Below w.heap.size w W) (fun W => Bx W gr 77 [.string (str l), .int .i64 o] ∧ Below w.drew.heap.size w.drew W) (nxtV gr l o) (fun _ => false) (by kernel_rfl) (fun _ _ hR hc => ⟨hc.1.call hR, hc.2.trans (hR.mono hc.2.size)⟩) (nxtV_keep gr l o) (⟨HX.out.call ((Below.refl _ _).drew), Below.refl _ _⟩) ⟨?_, ?_, ?_, ?_, ?_, ?_, ?_, ?_, ?_, ?_, ?_, ?_, ?_, ?_, trivial⟩ ?_
  · intro a W hc hsz hold hdep
    have o0 : a.tmps.getD 0 undef = .pointer (some ⟨gr, 0, none⟩) := hold 0 (by kernel_rfl)
    clear hsz hold hdep
    refine stepR_do rfl (wanted_none rfl) ?_
    refine stepR_val (v := .pointer (some ⟨gr, 0, none⟩)) (Below.refl _ _) rfl fun K hK => ?_
    go_simp
    exact hK
  · intro a W hc hsz hold hdep
    have d0 : a.tmps.getD 6 undef = .pointer (some ⟨gr, 0, none⟩) := hdep 0 (by kernel_rfl) rfl _ rfl
    clear hsz hold hdep
    refine stepR_do rfl (wanted_none rfl) ?_
    refine stepR_val (v := .pointer (some ⟨gr, 0, none⟩)) (Below.refl _ _) rfl fun K hK => ?_
    go_simp
    exact hK
  · intro a W hc hsz hold hdep
    have d1 : a.tmps.getD 7 undef = .pointer (some ⟨gr, 0, none⟩) := hdep 1 (by kernel_rfl) rfl _ rfl
    clear hsz hold hdep
    refine stepR_do rfl (wanted_none rfl) ?_
    refine stepR_val (v := .pointer (some ⟨gr, 0, none⟩)) (Below.refl _ _) rfl fun K hK => ?_
    go_simp
    exact hK
  · intro a W hc hsz hold hdep
    have d2 : a.tmps.getD 8 undef = .pointer (some ⟨gr, 0, none⟩) := hdep 2 (by kernel_rfl) rfl _ rfl
    have q0 := hc.1.cell (i := 0) rfl
    clear hsz hold hdep
    refine stepR_do rfl (wanted_none rfl) ?_
    refine stepR_val (v := .string (str l)) (Below.refl _ _) rfl fun K hK => ?_
    go_simp
    exact hK
  · intro a W hc hsz hold hdep
    have o0 : a.tmps.getD 0 undef = .pointer (some ⟨gr, 0, none⟩) := hold 0 (by kernel_rfl)
    clear hsz hold hdep
    refine stepR_do rfl (wanted_none rfl) ?_
    refine stepR_val (v := .pointer (some ⟨gr, 0, none⟩)) (Below.refl _ _) rfl fun K hK => ?_
    go_simp
    exact hK
  · intro a W hc hsz hold hdep
    have d4 : a.tmps.getD 10 undef = .pointer (some ⟨gr, 0, none⟩) := hdep 4 (by kernel_rfl) rfl _ rfl
    clear hsz hold hdep
    refine stepR_do rfl (wanted_none rfl) ?_
    refine stepR_val (v := .pointer (some ⟨gr, 0, none⟩)) (Below.refl _ _) rfl fun K hK => ?_
    go_simp
    exact hK
  · intro a W hc hsz hold hdep
    have d5 : a.tmps.getD 11 undef = .pointer (some ⟨gr, 0, none⟩) := hdep 5 (by kernel_rfl) rfl _ rfl
    clear hsz hold hdep
    refine stepR_do rfl (wanted_none rfl) ?_
    refine stepR_val (v := .pointer (some ⟨gr, 1, none⟩)) (Below.refl _ _) rfl fun K hK => ?_
    go_simp
    exact hK
  · intro a W hc hsz hold hdep
    have d6 : a.tmps.getD 12 undef = .pointer (some ⟨gr, 1, none⟩) := hdep 6 (by kernel_rfl) rfl _ rfl
    have q1 := hc.1.cell (i := 1) rfl
    clear hsz hold hdep
    refine stepR_do rfl (wanted_none rfl) ?_
    refine stepR_val (v := .int .i64 (o : Nat)) (Below.refl _ _) rfl fun K hK => ?_
    go_simp
    exact hK
  · intro a W hc hsz hold hdep
    have d3 : a.tmps.getD 9 undef = .string (str l) := hdep 3 (by kernel_rfl) rfl _ rfl
    have e3 : a.tmps[9]?.getD undef = .string (str l) := by rw [← Array.getD_eq_getD_getElem?]; exact d3
    have d7 : a.tmps.getD 13 undef = .int .i64 (o : Nat) := hdep 7 (by kernel_rfl) rfl _ rfl
    have e7 : a.tmps[13]?.getD undef = .int .i64 (o : Nat) := by rw [← Array.getD_eq_getD_getElem?]; exact d7
    clear hsz hold hdep
    refine stepR_do rfl (wanted_none rfl) ?_
    refine stepR_call (v := .tuple #[.int .i64 (E1.rdE l o 2 : Nat), .int .i64 (E1.rdC l o 2)]) (fun W' hb => hb) (fun _ => rfl) fun K hK => ?_
    go_simp
    refine ((E1.readbig_any l o 2 2 o _ rfl rfl (by omega) (by omega) HO.out HL.out)).mono ?_
    rintro e w' ⟨rfl, hb'⟩
    exact hK _ hb'
  · intro a W hc hsz hold hdep
    have d8 : a.tmps.getD 14 undef = .tuple #[.int .i64 (E1.rdE l o 2 : Nat), .int .i64 (E1.rdC l o 2)] := hdep 8 (by kernel_rfl) rfl _ rfl
    clear hsz hold hdep
    refine stepR_do rfl (wanted_none rfl) ?_
    refine stepR_val (v := .tuple #[.int .i64 (E1.rdE l o 2 : Nat), .int .i64 (E1.rdC l o 2)]) (Below.refl _ _) rfl fun K hK => ?_
    go_simp
    exact hK
  · intro a W hc hsz hold hdep
    have d9 : a.tmps.getD 5 undef = .tuple #[.int .i64 (E1.rdE l o 2 : Nat), .int .i64 (E1.rdC l o 2)] := hdep 9 (by kernel_rfl) rfl _ rfl
    clear hsz hold hdep
    refine stepR_do rfl (wanted_none rfl) ?_
    refine stepR_val (v := .int .i64 (E1.rdE l o 2 : Nat)) (Below.refl _ _) rfl fun K hK => ?_
    go_simp
    exact hK
  · intro a W hc hsz hold hdep
    have d9 : a.tmps.getD 5 undef = .tuple #[.int .i64 (E1.rdE l o 2 : Nat), .int .i64 (E1.rdC l o 2)] := hdep 9 (by kernel_rfl) rfl _ rfl
    clear hsz hold hdep
    refine stepR_do rfl (wanted_none rfl) ?_
    refine stepR_val (v := .int .i64 (E1.rdC l o 2)) (Below.refl _ _) rfl fun K hK => ?_
    go_simp
    exact hK
  · intro a W hc hsz hold hdep
    have d10 : a.tmps.getD 15 undef = .int .i64 (E1.rdE l o 2 : Nat) := hdep 10 (by kernel_rfl) rfl _ rfl
    clear hsz hold hdep
    refine stepR_do rfl (wanted_none rfl) ?_
    refine stepR_val (v := .int .i64 (E1.rdE l o 2 : Nat)) (Below.refl _ _) rfl fun K hK => ?_
    go_simp
    exact hK
  · intro a W hc hsz hold hdep
    have d11 : a.tmps.getD 16 undef = .int .i64 (E1.rdC l o 2) := hdep 11 (by kernel_rfl) rfl _ rfl
    clear hsz hold hdep
    refine stepR_do rfl (wanted_none rfl) ?_
    refine stepR_val (v := .int .i64 (E1.rdC l o 2)) (Below.refl _ _) rfl fun K hK => ?_
    go_simp
    exact hK
  · intro a W hC hd hsz hold hval
    have d0 : a.tmps.getD 0 undef = .pointer (some ⟨gr, 0, none⟩) := hold 0 (by kernel_rfl)
    have d3 : a.tmps.getD 3 undef = .int .i64 (E1.rdE l o 2 : Nat) := hval 12 _ rfl rfl
    clear hold
    obtain ⟨tm, df⟩ := a
    replace hd : df = [] := hd
    replace hsz : tm.size = 25 := hsz
    replace d0 : tm.getD 0 undef = .pointer (some ⟨gr, 0, none⟩) := d0
    replace d3 : tm.getD 3 undef = .int .i64 (E1.rdE l o 2 : Nat) := d3
    subst hd
    have e : tm = #[tm.getD 0 undef, tm.getD 1 undef, tm.getD 2 undef, tm.getD 3 undef, tm.getD 4 undef, tm.getD 5 undef, tm.getD 6 undef, tm.getD 7 undef, tm.getD 8 undef, tm.getD 9 undef, tm.getD 10 undef, tm.getD 11 undef, tm.getD 12 undef, tm.getD 13 undef, tm.getD 14 undef, tm.getD 15 undef, tm.getD 16 undef, tm.getD 17 undef, tm.getD 18 undef, tm.getD 19 undef, tm.getD 20 undef, tm.getD 21 undef, tm.getD 22 undef, tm.getD 23 undef, tm.getD 24 undef] := arr_eq tm 25 hsz
    rw [d0, d3] at e
    clear d0 d3 hsz
    generalize tm.getD 1 undef = v1 at e
    generalize tm.getD 2 undef = v2 at e
    generalize tm.getD 4 undef = v4 at e
    generalize tm.getD 5 undef = v5 at e
    generalize tm.getD 6 undef = v6 at e
    generalize tm.getD 7 undef = v7 at e
    generalize tm.getD 8 undef = v8 at e
    generalize tm.getD 9 undef = v9 at e
    generalize tm.getD 10 undef = v10 at e
    generalize tm.getD 11 undef = v11 at e
    generalize tm.getD 12 undef = v12 at e
    generalize tm.getD 13 undef = v13 at e
    generalize tm.getD 14 undef = v14 at e
    generalize tm.getD 15 undef = v15 at e
    generalize tm.getD 16 undef = v16 at e
    generalize tm.getD 17 undef = v17 at e
    generalize tm.getD 18 undef = v18 at e
    generalize tm.getD 19 undef = v19 at e
    generalize tm.getD 20 undef = v20 at e
    generalize tm.getD 21 undef = v21 at e
    generalize tm.getD 22 undef = v22 at e
    generalize tm.getD 23 undef = v23 at e
    generalize tm.getD 24 undef = v24 at e
    subst e
    have hle : Below w.heap.size w W := (Below.refl w.heap.size w).drew.trans (hC.2.mono (by simp))
    have c1 := hC.1.cell (i := 1) rfl
    have f1 := hC.1.free 1
    have HX2 := Lib.hid hC.1
    have HLE := Lib.hid hle
    have ho := HO.out
    clear hC hval hle
    go_wp2_with fail
    go_ret
    exact ⟨rfl, HX2.out.set 1 _, (Turn1.of HLE.out).trans (Turn1.set gr W 1 _)⟩
theorem enc13_body (T : Tab) : (enc13 T).take (body13 T).length = body13 T := by unfold enc13; rw [List.take_left]
theorem enc13_crc (T : Tab) : (enc13 T).drop (body13 T).length = W10.crcB (C.crc 0 (body13 T)) := by unfold enc13; rw [List.drop_left]
theorem run_sfrom13 {P : Program} {t : TypeId} (ht : P.underlying t = some .string) (l : List UInt8) (k : Nat) (hk : k ≤ l.length) (x : Int) (hx : x = k) (w : World) : (Instr.slice t (.string (str l)) (some (.int .i64 x)) none none).run P w = .ok (.string (str (l.drop k))) w := by
  subst hx
  have hs := str_size l
  have he : (str l).extract k l.length = str (l.drop k) := by
    apply ByteArray.ext
    rw [ByteArray.data_extract]
    apply Array.ext'
    simp [str]
    exact List.take_of_length_le (by simp)
  simp [Instr.slice, run_underlying ht, Instr.sliceBounds, run_sliceBound, hs, hk, he]
def decV (T : Tab) (i : Nat) (v : Value) (W : World) : Prop := match i with
  | 0 => v = .string (str (enc13 T))
  | 1 => v = .int .i64 (enc13 T).length
  | 2 => v = .bool false
  | 3 => v = .bool false
  | 4 => v = .string (str (enc13 T))
  | 5 => v = .string (str (enc13 T))
  | 6 => v = .int .i64 (enc13 T).length
  | 7 => v = .int .i64 (body13 T).length
  | 8 => v = .string (str (body13 T))
  | 9 => v = .int .u16 (C.crc 0 (body13 T) : Nat)
  | 10 => v = .string (str (W10.crcB (C.crc 0 (body13 T))))
  | 11 => v = .string (str (enc13 T))
  | 12 => v = .string (str (enc13 T))
  | 13 => v = .int .i64 (enc13 T).length
  | 14 => v = .int .i64 (body13 T).length
  | 15 => v = .string (str (W10.crcB (C.crc 0 (body13 T))))
  | 16 => v = .bool false
  | 17 => v = .bool false
  | _ => True
theorem decV_keep (T : Tab) (i : Nat) (v : Value) (W W' : World) (hR : (fun w W => Below w.heap.size w W) W W') (h : decV T i v W) : decV T i v W' := by
  unfold decV at h ⊢
  split at h <;> first | exact h
/-- Decode's table and reader, behind the first 'k' replacements -/
structure DecW (w0 w : World) (g gm gr gt : Nat) (vp : Value) (T : Tab) (k o : Nat) : Prop where
  box : Bx w g 57 [.int .i64 T.blocks, .int .i64 T.spares, .int .i64 T.used, vp, .map (some gm)]
  pri : w.ownsRow 0 3 1 vp T.prim.length (is T.prim)
  map : MapO w gm k (fun x => if x ∈ T.keys.take k then (T.mv x).map Int.ofNat else none)
  rdr : RdrW w gr (enc13 T) o
  tk : Mp.SetI w gt k (fun x => decide (x ∈ (T.reps.take k).map (·.2)))
  le : Below w0.heap.size w0 w
  ge : w0.heap.size ≤ g ∧ w0.heap.size ≤ gm ∧ w0.heap.size ≤ gr ∧ w0.heap.size ≤ gt
  ne : g ≠ gm ∧ g ≠ gr ∧ g ≠ gt ∧ gm ≠ gr ∧ gm ≠ gt ∧ gr ≠ gt
section
variable {w0 w w' : World} {g gm gr gt : Nat} {vp : Value} {T : Tab} {k o : Nat}
theorem set13 {b e sz n m q : Nat} {v : Value} {xs : List Value} {f : Int → Bool} (h : w.ownsRow b e sz v n xs) (hm : Mp.SetI w m q f) : v.ownBlock ≠ some m := by
  intro hk
  rcases h.2 with ⟨rfl, _⟩ | ⟨g', cap, cur, rfl, _, hg, _⟩
  · simp [Value.ownBlock] at hk
  have e1 : g' = m := by simpa [Value.ownBlock] using hk
  subst e1
  obtain ⟨D, ⟨es, clock, hb, _⟩, _⟩ := hm
  rw [hg] at hb
  cases hb
theorem own_turn1 {b e sz n q : Nat} {v : Value} {xs : List Value} (ht : Turn1 q w w') (h : w.ownsRow b e sz v n xs) (hq : v.ownBlock ≠ some q) : w'.ownsRow b e sz v n xs :=
  Turn.own (g := q) (gm := q) ⟨ht.os, ht.tape, ht.output, ht.size, fun k hk h1 _ => ht.block k hk h1⟩ h hq hq
/-- the reader goes on -/
theorem DecW.next (h : DecW w0 w g gm gr gt vp T k o) (ht : Turn1 gr w w') (hr : RdrW w' gr (enc13 T) (o + 2)) : DecW w0 w' g gm gr gt vp T k (o + 2) where
  box := (ht.block g h.box.lt h.ne.2.1).trans h.box
  pri := own_turn1 ht h.pri (block13 h.pri h.rdr (by decide))
  map := h.map.kept (ht.block gm h.map.lt h.ne.2.2.2.1)
  rdr := hr
  tk := h.tk.kept (ht.block gt h.tk.lt (Ne.symm h.ne.2.2.2.2.2))
  le := h.le.trans (ht.below h.ge.2.2.1 h.le.size)
  ge := h.ge
  ne := h.ne
theorem Turn1.ofGrown {q : Nat} (h : w.grownBy w' (some q)) : Turn1 q w w' := ⟨h.os, h.tape, h.output, h.size, fun j hj h2 => h.block j hj (fun e => h2 (Option.some.inj e))⟩
end
theorem MapO.entry {w : World} {b n : Nat} {f : Int → Option Int} (h : MapO w b n f) (x : Int) (hx : In64 x) (hn : n < 1000000) :
    ∃ (v0 : Value) (st : Nat) (w1 : World), (Instr.mapEntry 36 (.map (some b)) (.int .i64 x)).run Try.prog w = .ok (.tuple #[v0, .int .i64 st]) w1 ∧ w.grownBy w1 (some b) ∧
      ∀ V, In64 V → ∃ w2, (Instr.entryStore 36 (.map (some b)) (.int .i64 st) (.int .i64 V)).run Try.prog w1 = .ok () w2 ∧ MapO w2 b (n + 1) (setO f x V) ∧ w.grownBy w2 (some b) := by
  obtain ⟨D, hown, hf⟩ := h
  obtain ⟨v0, st, w1, h1, h2, _, h3⟩ := Mp.entry_store hown lawI Try.underlying36 zeroI (by unfold maxLen; omega) (keyOf_int_mk Try.underlying3 (wfI hx)) (plainElem_int Try.underlying3 (a := 0) (by decide))
  refine ⟨v0, st, w1, h1, h2, fun V hV => ?_⟩
  obtain ⟨w2, h4, ho, hg⟩ := h3 _ _ _ (plainElem_int Try.underlying3 (wfI hV))
  refine ⟨w2, h4, ⟨_, ho, fun y hy => ?_⟩, hg⟩
  unfold setO
  by_cases e : y = x
  · subst e
    rw [if_pos rfl, atKey_put_same hown.isMap, has_put_same hown.isMap]
    · exact ⟨rfl, rfl⟩
    · trivial
    · trivial
  · rw [if_neg e, atKey_put_other (by simpa using e), has_put_other (by simpa using e)]
    exact hf y hy
theorem Tab.keys_get (T : Tab) {k : Nat} (h : k < T.keys.length) : atD ((0 : Int), (0 : Int)) T.reps k = T.pair (ixI T.keys k) := by
  simp [atD, Tab.reps, ixI, h]
section
variable {T : Tab}
theorem Tab.Ok.key_mv (h : T.Ok) {x : Int} (hx : x ∈ T.keys) : ∃ s : Nat, T.mv x = some s ∧ T.pair x = (x, (s : Int)) := by
  have hk := ((h.mem_keys x).1 hx).2
  cases e : T.mv x with
  | none => rw [e] at hk; cases hk
  | some s => exact ⟨s, rfl, by unfold Tab.pair; rw [e]; rfl⟩
theorem Tab.Ok.mapK (h : T.Ok) {k : Nat} (hk : k < T.keys.length) : (fun x => if x ∈ T.keys.take (k + 1) then (T.mv x).map Int.ofNat else none) = setO (fun x => if x ∈ T.keys.take k then (T.mv x).map Int.ofNat else none) (T.pair (ixI T.keys k)).1 (T.pair (ixI T.keys k)).2 := by
  obtain ⟨s, hs, hp⟩ := h.key_mv (ixI_mem hk)
  funext x
  rw [hp, ixI_append_take _ _ hk]
  unfold setO
  by_cases e : x = ixI T.keys k
  · subst e
    rw [if_pos (by simp), if_pos rfl, hs]; rfl
  · rw [if_neg e]
    have : x ∈ T.keys.take k ++ [ixI T.keys k] ↔ x ∈ T.keys.take k := by simp [e]
    simp only [this]
theorem Tab.Ok.mapAll (h : T.Ok) : (fun x => if x ∈ T.keys.take T.keys.length then (T.mv x).map Int.ofNat else none) = fun x => (T.mv x).map Int.ofNat := by
  funext x
  rw [List.take_length]
  by_cases hx : x ∈ T.keys
  · rw [if_pos hx]
  · rw [if_neg hx]
    cases e : T.mv x with
    | none => rfl
    | some s =>
      refine absurd ((h.mem_keys x).2 ⟨?_, by rw [e]; rfl⟩) hx
      have := h.mr x s e
      have := h.b2
      unfold In64; omega
theorem Tab.Ok.takenK (h : T.Ok) {k : Nat} (hk : k < T.keys.length) : decide ((T.pair (ixI T.keys k)).2 ∈ (T.reps.take k).map (·.2)) = false := by
  refine decide_eq_false fun hm => ?_
  rw [List.mem_map] at hm
  obtain ⟨p, hp, he⟩ := hm
  obtain ⟨j, hj, e⟩ := List.getElem_of_mem hp
  rw [List.length_take, Tab.reps_length] at hj
  rw [List.getElem_take] at e
  have hjk : j < k := by omega
  have e3 : T.reps[j]'(by rw [Tab.reps_length]; omega) = T.pair (ixI T.keys j) := by simp [Tab.reps, ixI, show j < T.keys.length by omega]
  rw [e3] at e
  subst e
  obtain ⟨s, hs, hp1⟩ := h.key_mv (ixI_mem (show j < T.keys.length by omega))
  obtain ⟨t, ht, hp2⟩ := h.key_mv (ixI_mem hk)
  rw [hp1, hp2] at he
  have hst : s = t := by
    have : ((s : Nat) : Int) = t := he
    omega
  subst hst
  have h4 := h.mi _ _ _ hs ht
  have h5 := List.pairwise_iff_getElem.1 T.keys_sorted j k (by omega) hk hjk
  rw [ixI_get hk, ixI_get (show j < T.keys.length by omega)] at h4
  omega
theorem Tab.takeS (T : Tab) {k : Nat} (hk : k < T.keys.length) : (fun x => decide (x ∈ (T.reps.take (k + 1)).map (·.2))) = Mp.setF (fun x => decide (x ∈ (T.reps.take k).map (·.2))) (T.pair (ixI T.keys k)).2 true := by
  have hr : k < T.reps.length := by rw [Tab.reps_length]; exact hk
  have e3 : T.reps[k] = T.pair (ixI T.keys k) := by simp [Tab.reps, ixI, hk]
  funext x
  rw [List.take_succ_eq_append_getElem hr, e3]
  unfold Mp.setF
  by_cases e : x = (T.pair (ixI T.keys k)).2
  · subst e; simp
  · rw [if_neg e]
    simp [e]
end
set_option maxRecDepth 100000 in
set_option maxHeartbeats 8000000 in
theorem decode13 {w1 w : World} {g1 gm1 : Nat} {vp1 : Value} {T : Tab} (h : TabW w1 g1 gm1 vp1 T) :
    Calls Try.prog 22 #[.string (str (enc13 T))] w fun e w' => ∃ g gm vp, e = .returned (.tuple #[.pointer (some ⟨g, 0, none⟩), .int .i64 0]) ∧ TabW w' g gm vp T ∧ w.heap.size ≤ g ∧ w.heap.size ≤ gm ∧ Below w.heap.size w w' := by
  have hok := h.ok
  have hkl := (replaced_any h).1
  have HOK := Lib.hid hok
  have hk64 : T.keys.length ≤ 64 := by have := hok.us; have := hok.sp; omega
  have hp := hok.pl
  have HLN : Hid ((enc13 T).length = (body13 T).length + 2 ∧ (body13 T).length = 14 + 2 * T.prim.length + 4 * T.keys.length ∧ (body13 T).length ≤ 1000) := Lib.hid (by
    have := hok.enc_length hkl
    refine ⟨?_, this, by omega⟩
    unfold enc13
    rw [List.length_append]
    rfl)
  have HRD : Hid (∀ i, i < (nums13 T).length → ((E1.rdE (enc13 T) (4 + 2 * i) 2 : Nat) : Int) = ixI (nums13 T) i) := Lib.hid (fun i hi => hok.rd hkl hi)
  have HKL := Lib.hid hkl
  have HNX := Lib.hid (fun W gr o (hr : RdrW W gr (enc13 T) o) (ho : o ≤ 1000000) => next_any hr ho (by have := HLN.out; omega))
  clear h hok hkl
  go_enter Try.func22, Try.ntmps22
  go_upto_region 1 with (fail)
  refine wp_region_inr (by kernel_rfl) (fun w W => Below w.heap.size w W) (fun W => Below w.heap.size w W) (decV T) (fun _ => false) (by kernel_rfl) (fun _ _ hR hc => hc.trans (hR.mono hc.size)) (decV_keep T) ((Below.refl _ _).drew) ⟨?_, ?_, ?_, ?_, ?_, ?_, ?_, ?_, ?_, ?_, ?_, ?_, ?_, ?_, ?_, ?_, ?_, ?_, trivial⟩ ?_
  · intro a W hc hsz hold hdep
    have o0 : a.tmps.getD 0 undef = .string (str (enc13 T)) := hold 0 (by kernel_rfl)
    clear hsz hold hdep
    refine stepR_do rfl (wanted_none rfl) ?_
    refine stepR_val (v := .string (str (enc13 T))) (Below.refl _ _) rfl fun K hK => ?_
    go_simp
    exact hK
  · intro a W hc hsz hold hdep
    have d0 : a.tmps.getD 16 undef = .string (str (enc13 T)) := hdep 0 (by kernel_rfl) rfl _ rfl
    have e0 : a.tmps[16]?.getD undef = .string (str (enc13 T)) := by rw [← Array.getD_eq_getD_getElem?]; exact d0
    have q0 := str_size (enc13 T)
    clear hsz hold hdep
    refine stepR_do rfl (wanted_none rfl) ?_
    refine stepR_val (v := .int .i64 (enc13 T).length) (Below.refl _ _) rfl fun K hK => ?_
    go_simp
    exact hK
  · intro a W hc hsz hold hdep
    have d1 : a.tmps.getD 17 undef = .int .i64 (enc13 T).length := hdep 1 (by kernel_rfl) rfl _ rfl
    have q1 : decide ((((enc13 T).length : Nat) : Int) < 16) = false := decide_eq_false (by have := HLN.out; omega)
    clear hsz hold hdep
    refine stepR_do rfl (wanted_none rfl) ?_
    refine stepR_val (v := .bool false) (Below.refl _ _) rfl fun K hK => ?_
    go_simp
    exact hK
  · intro a W hc hsz hold hdep
    have d2 : a.tmps.getD 18 undef = .bool false := hdep 2 (by kernel_rfl) rfl _ rfl
    clear hsz hold hdep
    refine stepR_do rfl (wanted_none rfl) ?_
    refine stepR_val (v := .bool false) (Below.refl _ _) rfl fun K hK => ?_
    go_simp
    exact hK
  · intro a W hc hsz hold hdep
    have o0 : a.tmps.getD 0 undef = .string (str (enc13 T)) := hold 0 (by kernel_rfl)
    have g4 : a.tmps.getD 19 undef = .bool false := hdep 3 (by kernel_rfl) rfl _ rfl
    clear hsz hold hdep
    refine stepR_do rfl ((wanted_of (want := false) rfl rfl g4).trans rfl) ?_
    clear g4
    refine stepR_val (v := .string (str (enc13 T))) (Below.refl _ _) rfl fun K hK => ?_
    go_simp
    exact hK
  · intro a W hc hsz hold hdep
    have o0 : a.tmps.getD 0 undef = .string (str (enc13 T)) := hold 0 (by kernel_rfl)
    have g5 : a.tmps.getD 19 undef = .bool false := hdep 3 (by kernel_rfl) rfl _ rfl
    clear hsz hold hdep
    refine stepR_do rfl ((wanted_of (want := false) rfl rfl g5).trans rfl) ?_
    clear g5
    refine stepR_val (v := .string (str (enc13 T))) (Below.refl _ _) rfl fun K hK => ?_
    go_simp
    exact hK
  · intro a W hc hsz hold hdep
    have d5 : a.tmps.getD 21 undef = .string (str (enc13 T)) := hdep 5 (by kernel_rfl) rfl _ rfl
    have e5 : a.tmps[21]?.getD undef = .string (str (enc13 T)) := by rw [← Array.getD_eq_getD_getElem?]; exact d5
    have g6 : a.tmps.getD 19 undef = .bool false := hdep 3 (by kernel_rfl) rfl _ rfl
    have q0 := str_size (enc13 T)
    clear hsz hold hdep
    refine stepR_do rfl ((wanted_of (want := false) rfl rfl g6).trans rfl) ?_
    clear g6
    refine stepR_val (v := .int .i64 (enc13 T).length) (Below.refl _ _) rfl fun K hK => ?_
    go_simp
    exact hK
  · intro a W hc hsz hold hdep
    have d6 : a.tmps.getD 22 undef = .int .i64 (enc13 T).length := hdep 6 (by kernel_rfl) rfl _ rfl
    have g7 : a.tmps.getD 19 undef = .bool false := hdep 3 (by kernel_rfl) rfl _ rfl
    have q0 : (((enc13 T).length : Nat) : Int) - 2 = (body13 T).length := by have := HLN.out; omega
    have q1 : IntKind.i64.wrap (((body13 T).length : Nat) : Int) = (body13 T).length := IntWalk.i64_in _ (by have := HLN.out; omega)
    clear hsz hold hdep
    refine stepR_do rfl ((wanted_of (want := false) rfl rfl g7).trans rfl) ?_
    clear g7
    refine stepR_val (v := .int .i64 (body13 T).length) (Below.refl _ _) rfl fun K hK => ?_
    go_simp
    exact hK
  · intro a W hc hsz hold hdep
    have d4 : a.tmps.getD 20 undef = .string (str (enc13 T)) := hdep 4 (by kernel_rfl) rfl _ rfl
    have d7 : a.tmps.getD 23 undef = .int .i64 (body13 T).length := hdep 7 (by kernel_rfl) rfl _ rfl
    have g8 : a.tmps.getD 19 undef = .bool false := hdep 3 (by kernel_rfl) rfl _ rfl
    have q0 := fun W => E1.run_stoE Try.underlying9 (enc13 T) (body13 T).length (by have := HLN.out; omega) _ rfl W
    rw [enc13_body] at q0
    clear hsz hold hdep
    refine stepR_do rfl ((wanted_of (want := false) rfl rfl g8).trans rfl) ?_
    clear g8
    refine stepR_val (v := .string (str (body13 T))) (Below.refl _ _) rfl fun K hK => ?_
    go_simp
    exact hK
  · intro a W hc hsz hold hdep
    have d8 : a.tmps.getD 24 undef = .string (str (body13 T)) := hdep 8 (by kernel_rfl) rfl _ rfl
    have e8 : a.tmps[24]?.getD undef = .string (str (body13 T)) := by rw [← Array.getD_eq_getD_getElem?]; exact d8
    have g9 : a.tmps.getD 19 undef = .bool false := hdep 3 (by kernel_rfl) rfl _ rfl
    clear hsz hold hdep
    refine stepR_do rfl ((wanted_of (want := false) rfl rfl g9).trans rfl) ?_
    clear g9
    refine stepR_call (v := .int .u16 (C.crc 0 (body13 T) : Nat)) (fun W' hb => hb) (fun _ => rfl) fun K hK => ?_
    go_simp
    refine ((W10.crc_any (str (body13 T)) _ (by rw [str_size]; have := HLN.out; omega))).mono ?_
    rintro e w' ⟨rfl, hb'⟩
    exact hK _ hb'
  · intro a W hc hsz hold hdep
    have d9 : a.tmps.getD 25 undef = .int .u16 (C.crc 0 (body13 T) : Nat) := hdep 9 (by kernel_rfl) rfl _ rfl
    have e9 : a.tmps[25]?.getD undef = .int .u16 (C.crc 0 (body13 T) : Nat) := by rw [← Array.getD_eq_getD_getElem?]; exact d9
    have g10 : a.tmps.getD 19 undef = .bool false := hdep 3 (by kernel_rfl) rfl _ rfl
    clear hsz hold hdep
    refine stepR_do rfl ((wanted_of (want := false) rfl rfl g10).trans rfl) ?_
    clear g10
    refine stepR_call (v := .string (str (W10.crcB (C.crc 0 (body13 T))))) (fun W' hb => hb) (fun _ => rfl) fun K hK => ?_
    go_simp
    refine ((W10.crcbytes_any _ _ (C.crc_lt (by omega) _))).mono ?_
    rintro e w' ⟨rfl, hb'⟩
    exact hK _ hb'
  · intro a W hc hsz hold hdep
    have o0 : a.tmps.getD 0 undef = .string (str (enc13 T)) := hold 0 (by kernel_rfl)
    have g11 : a.tmps.getD 19 undef = .bool false := hdep 3 (by kernel_rfl) rfl _ rfl
    clear hsz hold hdep
    refine stepR_do rfl ((wanted_of (want := false) rfl rfl g11).trans rfl) ?_
    clear g11
    refine stepR_val (v := .string (str (enc13 T))) (Below.refl _ _) rfl fun K hK => ?_
    go_simp
    exact hK
  · intro a W hc hsz hold hdep
    have o0 : a.tmps.getD 0 undef = .string (str (enc13 T)) := hold 0 (by kernel_rfl)
    have g12 : a.tmps.getD 19 undef = .bool false := hdep 3 (by kernel_rfl) rfl _ rfl
    clear hsz hold hdep
    refine stepR_do rfl ((wanted_of (want := false) rfl rfl g12).trans rfl) ?_
    clear g12
    refine stepR_val (v := .string (str (enc13 T))) (Below.refl _ _) rfl fun K hK => ?_
    go_simp
    exact hK
  · intro a W hc hsz hold hdep
    have d12 : a.tmps.getD 28 undef = .string (str (enc13 T)) := hdep 12 (by kernel_rfl) rfl _ rfl
    have e12 : a.tmps[28]?.getD undef = .string (str (enc13 T)) := by rw [← Array.getD_eq_getD_getElem?]; exact d12
    have g13 : a.tmps.getD 19 undef = .bool false := hdep 3 (by kernel_rfl) rfl _ rfl
    have q0 := str_size (enc13 T)
    clear hsz hold hdep
    refine stepR_do rfl ((wanted_of (want := false) rfl rfl g13).trans rfl) ?_
    clear g13
    refine stepR_val (v := .int .i64 (enc13 T).length) (Below.refl _ _) rfl fun K hK => ?_
    go_simp
    exact hK
  · intro a W hc hsz hold hdep
    have d13 : a.tmps.getD 29 undef = .int .i64 (enc13 T).length := hdep 13 (by kernel_rfl) rfl _ rfl
    have g14 : a.tmps.getD 19 undef = .bool false := hdep 3 (by kernel_rfl) rfl _ rfl
    have q0 : (((enc13 T).length : Nat) : Int) - 2 = (body13 T).length := by have := HLN.out; omega
    have q1 : IntKind.i64.wrap (((body13 T).length : Nat) : Int) = (body13 T).length := IntWalk.i64_in _ (by have := HLN.out; omega)
    clear hsz hold hdep
    refine stepR_do rfl ((wanted_of (want := false) rfl rfl g14).trans rfl) ?_
    clear g14
    refine stepR_val (v := .int .i64 (body13 T).length) (Below.refl _ _) rfl fun K hK => ?_
    go_simp
    exact hK
  · intro a W hc hsz hold hdep
    have d11 : a.tmps.getD 27 undef = .string (str (enc13 T)) := hdep 11 (by kernel_rfl) rfl _ rfl
    have d14 : a.tmps.getD 30 undef = .int .i64 (body13 T).length := hdep 14 (by kernel_rfl) rfl _ rfl
    have g15 : a.tmps.getD 19 undef = .bool false := hdep 3 (by kernel_rfl) rfl _ rfl
    have q0 := fun W => run_sfrom13 Try.underlying9 (enc13 T) (body13 T).length (by have := HLN.out; omega) _ rfl W
    rw [enc13_crc] at q0
    clear hsz hold hdep
    refine stepR_do rfl ((wanted_of (want := false) rfl rfl g15).trans rfl) ?_
    clear g15
    refine stepR_val (v := .string (str (W10.crcB (C.crc 0 (body13 T))))) (Below.refl _ _) rfl fun K hK => ?_
    go_simp
    exact hK
  · intro a W hc hsz hold hdep
    have d10 : a.tmps.getD 26 undef = .string (str (W10.crcB (C.crc 0 (body13 T)))) := hdep 10 (by kernel_rfl) rfl _ rfl
    have d15 : a.tmps.getD 31 undef = .string (str (W10.crcB (C.crc 0 (body13 T)))) := hdep 15 (by kernel_rfl) rfl _ rfl
    have g16 : a.tmps.getD 19 undef = .bool false := hdep 3 (by kernel_rfl) rfl _ rfl
    clear hsz hold hdep
    refine stepR_do rfl ((wanted_of (want := false) rfl rfl g16).trans rfl) ?_
    clear g16
    refine stepR_val (v := .bool false) (Below.refl _ _) rfl fun K hK => ?_
    go_simp
    exact hK
  · intro a W hc hsz hold hdep
    have d3 : a.tmps.getD 19 undef = .bool false := hdep 3 (by kernel_rfl) rfl _ rfl
    have d16 : a.tmps.getD 32 undef = .bool false := hdep 16 (by kernel_rfl) rfl _ rfl
    clear hsz hold hdep
    refine stepR_do rfl (wanted_none rfl) ?_
    refine stepR_val (v := .bool false) (Below.refl _ _) rfl fun K hK => ?_
    go_simp
    exact hK
  · intro a W hC hd hsz hold hval
    have d0 : a.tmps.getD 0 undef = .string (str (enc13 T)) := hold 0 (by kernel_rfl)
    have d17 : a.tmps.getD 17 undef = .int .i64 (enc13 T).length := hval 1 _ rfl rfl
    have d33 : a.tmps.getD 33 undef = .bool false := hval 17 _ rfl rfl
    clear hold
    obtain ⟨tm, df⟩ := a
    replace hd : df = [] := hd
    replace hsz : tm.size = 120 := hsz
    replace d0 : tm.getD 0 undef = .string (str (enc13 T)) := d0
    replace d17 : tm.getD 17 undef = .int .i64 (enc13 T).length := d17
    replace d33 : tm.getD 33 undef = .bool false := d33
    subst hd
    have e : tm = List.toArray (tm.getD 0 undef :: tm.getD 1 undef :: tm.getD 2 undef :: tm.getD 3 undef :: tm.getD 4 undef :: tm.getD 5 undef :: tm.getD 6 undef :: tm.getD 7 undef :: tm.getD 8 undef :: tm.getD 9 undef :: tm.getD 10 undef :: tm.getD 11 undef :: tm.getD 12 undef :: tm.getD 13 undef :: tm.getD 14 undef :: tm.getD 15 undef :: tm.getD 16 undef :: tm.getD 17 undef :: tm.getD 18 undef :: tm.getD 19 undef :: tm.getD 20 undef :: tm.getD 21 undef :: tm.getD 22 undef :: tm.getD 23 undef :: tm.getD 24 undef :: tm.getD 25 undef :: tm.getD 26 undef :: tm.getD 27 undef :: tm.getD 28 undef :: tm.getD 29 undef :: tm.getD 30 undef :: tm.getD 31 undef :: tm.getD 32 undef :: tm.getD 33 undef :: tm.getD 34 undef :: tm.getD 35 undef :: tm.getD 36 undef :: tm.getD 37 undef :: tm.getD 38 undef :: tm.getD 39 undef :: tm.getD 40 undef :: tm.getD 41 undef :: tm.getD 42 undef :: tm.getD 43 undef :: tm.getD 44 undef :: tm.getD 45 undef :: tm.getD 46 undef :: tm.getD 47 undef :: tm.getD 48 undef :: tm.getD 49 undef :: tm.getD 50 undef :: tm.getD 51 undef :: tm.getD 52 undef :: tm.getD 53 undef :: tm.getD 54 undef :: tm.getD 55 undef :: tm.getD 56 undef :: tm.getD 57 undef :: tm.getD 58 undef :: tm.getD 59 undef :: tm.getD 60 undef :: tm.getD 61 undef :: tm.getD 62 undef :: tm.getD 63 undef :: tm.getD 64 undef :: tm.getD 65 undef :: tm.getD 66 undef :: tm.getD 67 undef :: tm.getD 68 undef :: tm.getD 69 undef :: tm.getD 70 undef :: tm.getD 71 undef :: tm.getD 72 undef :: tm.getD 73 undef :: tm.getD 74 undef :: tm.getD 75 undef :: tm.getD 76 undef :: tm.getD 77 undef :: tm.getD 78 undef :: tm.getD 79 undef :: tm.getD 80 undef :: tm.getD 81 undef :: tm.getD 82 undef :: tm.getD 83 undef :: tm.getD 84 undef :: tm.getD 85 undef :: tm.getD 86 undef :: tm.getD 87 undef :: tm.getD 88 undef :: tm.getD 89 undef :: tm.getD 90 undef :: tm.getD 91 undef :: tm.getD 92 undef :: tm.getD 93 undef :: tm.getD 94 undef :: tm.getD 95 undef :: tm.getD 96 undef :: tm.getD 97 undef :: tm.getD 98 undef :: tm.getD 99 undef :: tm.getD 100 undef :: tm.getD 101 undef :: tm.getD 102 undef :: tm.getD 103 undef :: tm.getD 104 undef :: tm.getD 105 undef :: tm.getD 106 undef :: tm.getD 107 undef :: tm.getD 108 undef :: tm.getD 109 undef :: tm.getD 110 undef :: tm.getD 111 undef :: tm.getD 112 undef :: tm.getD 113 undef :: tm.getD 114 undef :: tm.getD 115 undef :: tm.getD 116 undef :: tm.getD 117 undef :: tm.getD 118 undef :: tm.getD 119 undef :: []) := arr_eq tm 120 hsz
    rw [d0, d17, d33] at e
    clear d0 d17 d33 hsz
    generalize tm.getD 1 undef = v1 at e
    generalize tm.getD 2 undef = v2 at e
    generalize tm.getD 3 undef = v3 at e
    generalize tm.getD 4 undef = v4 at e
    generalize tm.getD 5 undef = v5 at e
    generalize tm.getD 6 undef = v6 at e
    generalize tm.getD 7 undef = v7 at e
    generalize tm.getD 8 undef = v8 at e
    generalize tm.getD 9 undef = v9 at e
    generalize tm.getD 10 undef = v10 at e
    generalize tm.getD 11 undef = v11 at e
    generalize tm.getD 12 undef = v12 at e
    generalize tm.getD 13 undef = v13 at e
    generalize tm.getD 14 undef = v14 at e
    generalize tm.getD 15 undef = v15 at e
    generalize tm.getD 16 undef = v16 at e
    generalize tm.getD 18 undef = v18 at e
    generalize tm.getD 19 undef = v19 at e
    generalize tm.getD 20 undef = v20 at e
    generalize tm.getD 21 undef = v21 at e
    generalize tm.getD 22 undef = v22 at e
    generalize tm.getD 23 undef = v23 at e
    generalize tm.getD 24 undef = v24 at e
    generalize tm.getD 25 undef = v25 at e
    generalize tm.getD 26 undef = v26 at e
    generalize tm.getD 27 undef = v27 at e
    generalize tm.getD 28 undef = v28 at e
    generalize tm.getD 29 undef = v29 at e
    generalize tm.getD 30 undef = v30 at e
    generalize tm.getD 31 undef = v31 at e
    generalize tm.getD 32 undef = v32 at e
    generalize tm.getD 34 undef = v34 at e
    generalize tm.getD 35 undef = v35 at e
    generalize tm.getD 36 undef = v36 at e
    generalize tm.getD 37 undef = v37 at e
    generalize tm.getD 38 undef = v38 at e
    generalize tm.getD 39 undef = v39 at e
    generalize tm.getD 40 undef = v40 at e
    generalize tm.getD 41 undef = v41 at e
    generalize tm.getD 42 undef = v42 at e
    generalize tm.getD 43 undef = v43 at e
    generalize tm.getD 44 undef = v44 at e
    generalize tm.getD 45 undef = v45 at e
    generalize tm.getD 46 undef = v46 at e
    generalize tm.getD 47 undef = v47 at e
    generalize tm.getD 48 undef = v48 at e
    generalize tm.getD 49 undef = v49 at e
    generalize tm.getD 50 undef = v50 at e
    generalize tm.getD 51 undef = v51 at e
    generalize tm.getD 52 undef = v52 at e
    generalize tm.getD 53 undef = v53 at e
    generalize tm.getD 54 undef = v54 at e
    generalize tm.getD 55 undef = v55 at e
    generalize tm.getD 56 undef = v56 at e
    generalize tm.getD 57 undef = v57 at e
    generalize tm.getD 58 undef = v58 at e
    generalize tm.getD 59 undef = v59 at e
    generalize tm.getD 60 undef = v60 at e
    generalize tm.getD 61 undef = v61 at e
    generalize tm.getD 62 undef = v62 at e
    generalize tm.getD 63 undef = v63 at e
    generalize tm.getD 64 undef = v64 at e
    generalize tm.getD 65 undef = v65 at e
    generalize tm.getD 66 undef = v66 at e
    generalize tm.getD 67 undef = v67 at e
    generalize tm.getD 68 undef = v68 at e
    generalize tm.getD 69 undef = v69 at e
    generalize tm.getD 70 undef = v70 at e
    generalize tm.getD 71 undef = v71 at e
    generalize tm.getD 72 undef = v72 at e
    generalize tm.getD 73 undef = v73 at e
    generalize tm.getD 74 undef = v74 at e
    generalize tm.getD 75 undef = v75 at e
    generalize tm.getD 76 undef = v76 at e
    generalize tm.getD 77 undef = v77 at e
    generalize tm.getD 78 undef = v78 at e
    generalize tm.getD 79 undef = v79 at e
    generalize tm.getD 80 undef = v80 at e
    generalize tm.getD 81 undef = v81 at e
    generalize tm.getD 82 undef = v82 at e
    generalize tm.getD 83 undef = v83 at e
    generalize tm.getD 84 undef = v84 at e
    generalize tm.getD 85 undef = v85 at e
    generalize tm.getD 86 undef = v86 at e
    generalize tm.getD 87 undef = v87 at e
    generalize tm.getD 88 undef = v88 at e
    generalize tm.getD 89 undef = v89 at e
    generalize tm.getD 90 undef = v90 at e
    generalize tm.getD 91 undef = v91 at e
    generalize tm.getD 92 undef = v92 at e
    generalize tm.getD 93 undef = v93 at e
    generalize tm.getD 94 undef = v94 at e
    generalize tm.getD 95 undef = v95 at e
    generalize tm.getD 96 undef = v96 at e
    generalize tm.getD 97 undef = v97 at e
    generalize tm.getD 98 undef = v98 at e
    generalize tm.getD 99 undef = v99 at e
    generalize tm.getD 100 undef = v100 at e
    generalize tm.getD 101 undef = v101 at e
    generalize tm.getD 102 undef = v102 at e
    generalize tm.getD 103 undef = v103 at e
    generalize tm.getD 104 undef = v104 at e
    generalize tm.getD 105 undef = v105 at e
    generalize tm.getD 106 undef = v106 at e
    generalize tm.getD 107 undef = v107 at e
    generalize tm.getD 108 undef = v108 at e
    generalize tm.getD 109 undef = v109 at e
    generalize tm.getD 110 undef = v110 at e
    generalize tm.getD 111 undef = v111 at e
    generalize tm.getD 112 undef = v112 at e
    generalize tm.getD 113 undef = v113 at e
    generalize tm.getD 114 undef = v114 at e
    generalize tm.getD 115 undef = v115 at e
    generalize tm.getD 116 undef = v116 at e
    generalize tm.getD 117 undef = v117 at e
    generalize tm.getD 118 undef = v118 at e
    generalize tm.getD 119 undef = v119 at e
    subst e
    have HC := Lib.hid hC
    clear hC hval
    go_wp2_with fail
    have HR0 := Lib.hid (show RdrW (W.alloc (.cells #[.string (str (enc13 T)), .int .i64 4] 77)) W.heap.size (enc13 T) 4 from Bx.new W 77 [.string (str (enc13 T)), .int .i64 4])
    have HB0 := Lib.hid (HC.out.alloc HC.out.size (.cells #[.string (str (enc13 T)), .int .i64 4] 77))
    obtain ⟨gr, hgr⟩ : ∃ gr, gr = W.heap.size := ⟨_, rfl⟩
    rw [← hgr] at HR0 ⊢
    have HGR : Hid (w.heap.size ≤ gr) := Lib.hid (by have := HC.out.size; omega)
    clear hgr
    generalize W.alloc (.cells #[.string (str (enc13 T)), .int .i64 4] 77) = w2 at *
    clear HC
    have HNL := Lib.hid (nums_length T)
    have HN := Lib.hid (HNX.out w2 gr 4 HR0.out (by omega))
    rw [show ((E1.rdE (enc13 T) 4 2 : Nat) : Int) = ((T.blocks : Nat) : Int) from by
      have h1 := HRD.out 0 (by have := HNL.out; omega)
      rw [nums_head T (by omega)] at h1
      exact h1] at HN
    refine HN.out.mono ?_
    rintro e w3 ⟨rfl, hr, ht⟩
    have HR1 := Lib.hid (show RdrW w3 gr (enc13 T) 6 from hr)
    have HB1 := Lib.hid (HB0.out.trans (ht.below HGR.out HB0.out.size))
    clear HN hr ht HR0 HB0
    go_wp2_with fail
    have HN := Lib.hid (HNX.out w3 gr 6 HR1.out (by omega))
    rw [show ((E1.rdE (enc13 T) 6 2 : Nat) : Int) = ((T.spares : Nat) : Int) from by
      have h1 := HRD.out 1 (by have := HNL.out; omega)
      rw [nums_head T (by omega)] at h1
      exact h1] at HN
    refine HN.out.mono ?_
    rintro e w4 ⟨rfl, hr, ht⟩
    have HR2 := Lib.hid (show RdrW w4 gr (enc13 T) 8 from hr)
    have HB2 := Lib.hid (HB1.out.trans (ht.below HGR.out HB1.out.size))
    clear HN hr ht HR1 HB1
    go_wp2_with fail
    have HN := Lib.hid (HNX.out w4 gr 8 HR2.out (by omega))
    rw [show ((E1.rdE (enc13 T) 8 2 : Nat) : Int) = ((T.prim.length : Nat) : Int) from by
      have h1 := HRD.out 2 (by have := HNL.out; omega)
      rw [nums_head T (by omega)] at h1
      exact h1] at HN
    refine HN.out.mono ?_
    rintro e w5 ⟨rfl, hr, ht⟩
    have HR3 := Lib.hid (show RdrW w5 gr (enc13 T) 10 from hr)
    have HB3 := Lib.hid (HB2.out.trans (ht.below HGR.out HB2.out.size))
    clear HN hr ht HR2 HB2
    go_wp2_with fail
    have HN := Lib.hid (HNX.out w5 gr 10 HR3.out (by omega))
    rw [show ((E1.rdE (enc13 T) 10 2 : Nat) : Int) = ((T.used : Nat) : Int) from by
      have h1 := HRD.out 3 (by have := HNL.out; omega)
      rw [nums_head T (by omega)] at h1
      exact h1] at HN
    refine HN.out.mono ?_
    rintro e w6 ⟨rfl, hr, ht⟩
    have HR4 := Lib.hid (show RdrW w6 gr (enc13 T) 12 from hr)
    have HB4 := Lib.hid (HB3.out.trans (ht.below HGR.out HB3.out.size))
    clear HN hr ht HR3 HB3
    go_wp2_with fail
    have HN := Lib.hid (HNX.out w6 gr 12 HR4.out (by omega))
    rw [show ((E1.rdE (enc13 T) 12 2 : Nat) : Int) = ((T.keys.length : Nat) : Int) from by
      have h1 := HRD.out 4 (by have := HNL.out; omega)
      rw [nums_head T (by omega)] at h1
      exact h1] at HN
    refine HN.out.mono ?_
    rintro e w7 ⟨rfl, hr, ht⟩
    have HR5 := Lib.hid (show RdrW w7 gr (enc13 T) 14 from hr)
    have HB5 := Lib.hid (HB4.out.trans (ht.below HGR.out HB4.out.size))
    clear HN hr ht HR4 HB4
    have hbl := HOK.out.b2
    have hsp := HOK.out.sp
    have hus := HOK.out.us
    have hsz := str_size (enc13 T)
    have hlE : (((enc13 T).length : Nat) : Int) = 16 + 2 * T.prim.length + 4 * T.keys.length := by have := HLN.out; omega
    go_wp2_with fail
    go_loopw [57, 10] (fun vk vr wr => ∃ k : Nat, k ≤ T.prim.length ∧ vk = .int .i64 k ∧ RdrW wr gr (enc13 T) (14 + 2 * k) ∧ wr.ownsRow (gr + 1) 3 1 vr k (is (T.prim.take k)) ∧ Below w.heap.size w wr) (fun vk _ _ => T.prim.length - (RowKit.intOf vk).toNat)
    case atStart => exact ⟨0, by omega, rfl, HR5.out, ownsRow_nil _ _ _, HB5.out⟩
    case round =>
      obtain ⟨k, hk, rfl, hR, hO, hB⟩ := hrel
      have HRk := Lib.hid hR
      have HOk := Lib.hid hO
      have HBk := Lib.hid hB
      obtain ⟨ar, cr, rfl⟩ := ownD_form hO
      clear hR hO hB HR5 HB5
      by_cases hlt : k < T.prim.length
      · have HN := Lib.hid (HNX.out wr gr (14 + 2 * k) HRk.out (by omega))
        rw [show ((E1.rdE (enc13 T) (14 + 2 * k) 2 : Nat) : Int) = ixI T.prim k from by
          have h1 := HRD.out (5 + k) (by have := HNL.out; omega)
          rw [nums_prim T hlt, show 4 + 2 * (5 + k) = 14 + 2 * k by omega] at h1
          exact h1] at HN
        have HAP := Lib.hid (ixI_append_take T.prim k hlt)
        generalize ixI T.prim k = x at *
        go_wp2_with fail
        refine HN.out.mono ?_
        rintro e w9 ⟨rfl, hr, ht⟩
        have HR9 := Lib.hid hr
        have HB9 := Lib.hid (HBk.out.trans (ht.below HGR.out HBk.out.size))
        have HO9 := Lib.hid (ht.own HOk.out (Nat.lt_succ_self _))
        clear hr ht
        have hoA := ownD_keep HO9.out ((Below.refl w9.heap.size w9).alloc (Nat.le_refl _) (.cells #[.int .i64 x] 3))
        have hbA := HB9.out.alloc HB9.out.size (.cells #[.int .i64 x] 3)
        have HBA := Lib.hid hbA
        have hbas : gr + 1 ≤ (w9.alloc (.cells #[.int .i64 x] 3)).heap.size := by have := HR9.out.lt; simp; omega
        have hrd := reads_lit w9 [x] 3 (by simp)
        have HRA := Lib.hid (HR9.out.alloc (.cells #[.int .i64 x] 3))
        have HGR1 := Lib.hid (show w.heap.size ≤ gr + 1 by have := HGR.out; omega)
        clear hbA
        go_wp2_with (at_builtin; refine wpList_appI rfl _ _ rfl Try.underlying22 Try.infoInt13 hoA rfl hrd rfl (by simp only [List.length_singleton]; omega) hbas ?_; intro v10 w10 hown10 hgr10)
        have hb10 := HBA.out.grown hgr10 HBA.out.size (fun j hj => by have := ownD_block hoA j hj; have := HGR1.out; omega)
        have hr10 : RdrW w10 gr (enc13 T) (14 + 2 * k + 2) := (hgr10.block gr HRA.out.lt (fun e => by have := ownD_block hoA gr e.symm; omega)).trans HRA.out
        go_roundw
        case rel => exact ⟨k + 1, by omega, by go_num, by rw [show 14 + 2 * (k + 1) = 14 + 2 * k + 2 by omega]; exact hr10, by rw [HAP.out]; exact hown10, hb10⟩
        case measure => simp [RowKit.intOf]; omega
      · obtain rfl : k = T.prim.length := by omega
        rw [List.take_length] at HOk
        have HNW := Lib.hid (new_any (T.blocks : Int) (T.spares : Int) (by unfold In64; omega) (by unfold In64; omega) _ T.prim wr (rdI_own (own_mono HOk.out (Nat.zero_le _)) rfl (by omega) (fun x hx => by
          have := HOK.out.pr x hx
          have := first_int T
          omega)))
        have HSH : Hid (shp (T.blocks : Int) (T.spares : Int) T.prim) := Lib.hid (by
          have h1 := HOK.out.b1
          refine ⟨by omega, fun i hi => ?_⟩
          have h2 := HOK.out.pr _ (ixI_mem hi)
          have h3 := first_int T
          refine ⟨h2.1, by omega, fun h0 => ?_⟩
          have h4 := List.pairwise_iff_getElem.1 HOK.out.ps (i - 1) i (by omega) hi (by omega)
          rw [ixI_get hi, ixI_get (show i - 1 < T.prim.length by omega)]
          exact h4)
        clear hlt
        go_wp2_with fail
        refine HNW.out.mono ?_
        rintro e w9 ⟨hb9, h9⟩
        rcases h9 with ⟨_, g, gm, vp, rfl, hT, hg, hgm⟩ | ⟨hn, _⟩
        rotate_left
        · exact absurd HSH.out hn
        have HT9 := Lib.hid hT
        have HR9 := Lib.hid (HRk.out.call hb9)
        have HB9 := Lib.hid (HBk.out.trans (hb9.mono HBk.out.size))
        have HGG : Hid (w.heap.size ≤ g ∧ w.heap.size ≤ gm ∧ gr < g ∧ gr < gm) := Lib.hid (by have := HBk.out.size; have := HRk.out.lt; omega)
        clear hb9 hT hg hgm HRk HOk HBk HNW
        obtain ⟨q0, q1, q2, q3, q4⟩ := HT9.out.cells
        have qf := HT9.out.box.free 2
        have hmm := @run_makeMap Try.prog
        go_wp2_with fail
        have HDW : Hid (DecW w ((w9.setCell ⟨g, 2, none⟩ (.int .i64 T.used)).alloc (.map #[] 0)) g gm gr w9.heap.size vp T 0 (14 + 2 * T.prim.length + 4 * 0)) := Lib.hid (by
          have hbox : Bx w9 g 57 [.int .i64 T.blocks, .int .i64 T.spares, .int .i64 0, vp, .map (some gm)] := by
            have h1 := HT9.out.box
            simp only [tab0, Int.toNat_natCast] at h1
            exact h1
          have t1 : Turn1 g w9 (w9.setCell ⟨g, 2, none⟩ (.int .i64 T.used)) := Turn1.set g w9 2 _
          have hA : Below (w9.setCell ⟨g, 2, none⟩ (.int .i64 T.used)).heap.size (w9.setCell ⟨g, 2, none⟩ (.int .i64 T.used)) ((w9.setCell ⟨g, 2, none⟩ (.int .i64 T.used)).alloc (.map #[] 0)) := (Below.refl _ _).alloc (Nat.le_refl _) _
          have hG := HGG.out
          have hgl := HT9.out.box.lt
          have hml := HT9.out.map.lt
          have hne := HT9.out.ne
          have hrl := HR9.out.lt
          have hws := HB9.out.size
          have hS := Mp.SetI.made (w9.setCell ⟨g, 2, none⟩ (.int .i64 T.used))
          have hsz9 : (w9.setCell ⟨g, 2, none⟩ (.int .i64 T.used)).heap.size = w9.heap.size := by simp
          rw [hsz9] at hS
          refine ⟨(hbox.set 2 (.int .i64 T.used)).call hA, ownD_keep (own_turn1 t1 HT9.out.pri (block13 HT9.out.pri hbox (by decide))) hA, ?_, ?_, ?_, (HB9.out.setCell (p := ⟨g, 2, none⟩) hG.1 _).trans (hA.mono (by rw [hsz9]; exact hws)), ⟨hG.1, hG.2.1, HGR.out, hws⟩, ⟨hne, by omega, by omega, by omega, by omega, by omega⟩⟩
          · have h2 := (HT9.out.map.kept (t1.block gm hml (Ne.symm hne))).below hA
            have e : (fun x => if x ∈ T.keys.take 0 then (T.mv x).map Int.ofNat else none) = fun x => ((tab0 (T.blocks : Int) (T.spares : Int) T.prim).mv x).map Int.ofNat := by
              funext x; simp [tab0]
            rw [e]
            exact h2
          · exact Bx.call (show Bx _ gr 77 [.string (str (enc13 T)), .int .i64 ((14 + 2 * T.prim.length : Nat) : Int)] from (t1.block gr hrl (by omega)).trans HR9.out) hA
          · have e : (fun x : Int => decide (x ∈ (T.reps.take 0).map (·.2))) = fun _ => false := by funext x; simp
            rw [e]
            exact hS)
        obtain ⟨gt, hgt⟩ : ∃ gt, gt = w9.heap.size := ⟨_, rfl⟩
        rw [← hgt] at HDW ⊢
        clear hgt q0 q1 q2 q3 q4 qf HT9 HR9 HB9 HGG
        generalize (w9.setCell ⟨g, 2, none⟩ (.int .i64 T.used)).alloc (.map #[] 0) = w10 at *
        go_loopw [80] (fun vk wr => ∃ k : Nat, k ≤ T.keys.length ∧ vk = .int .i64 k ∧ DecW w wr g gm gr gt vp T k (14 + 2 * T.prim.length + 4 * k)) (fun vk _ => T.keys.length - (RowKit.intOf vk).toNat)
        case atStart => exact ⟨0, by omega, rfl, HDW.out⟩
        case round =>
          obtain ⟨k, hk, rfl, hD⟩ := hrel
          have HDk := Lib.hid hD
          clear hD HDW
          by_cases hlt : k < T.keys.length
          · have hlr : k < T.reps.length := by rw [Tab.reps_length]; exact hlt
            have HPB := Lib.hid (HOK.out.keys_le _ (atD_mem (d := ((0 : Int), (0 : Int))) hlr))
            have HMK := Lib.hid (HOK.out.mapK hlt)
            have HTK := Lib.hid (HOK.out.takenK hlt)
            have HTS := Lib.hid (Tab.takeS T hlt)
            have HN1 := Lib.hid (HNX.out wr gr _ HDk.out.rdr (by omega))
            have hn1 := nums_reps T hlr
            rw [show ((E1.rdE (enc13 T) (14 + 2 * T.prim.length + 4 * k) 2 : Nat) : Int) = (atD ((0 : Int), (0 : Int)) T.reps k).1 from by
              have h1 := HRD.out (5 + T.prim.length + 2 * k) (by have := HNL.out; omega)
              rw [hn1.1, show 4 + 2 * (5 + T.prim.length + 2 * k) = 14 + 2 * T.prim.length + 4 * k by omega] at h1
              exact h1] at HN1
            have HV2 : Hid (((E1.rdE (enc13 T) (14 + 2 * T.prim.length + 4 * k + 2) 2 : Nat) : Int) = (atD ((0 : Int), (0 : Int)) T.reps k).2) := Lib.hid (by
              have h1 := HRD.out (5 + T.prim.length + 2 * k + 1) (by have := HNL.out; omega)
              rw [hn1.2, show 4 + 2 * (5 + T.prim.length + 2 * k + 1) = 14 + 2 * T.prim.length + 4 * k + 2 by omega] at h1
              exact h1)
            rw [Tab.keys_get T hlt] at HPB HN1 HV2
            clear hn1
            generalize T.pair (ixI T.keys k) = pr at *
            obtain ⟨px, py⟩ := pr
            go_wp2_with fail
            refine HN1.out.mono ?_
            rintro e w11 ⟨rfl, hr, ht⟩
            have HD1 := Lib.hid (HDk.out.next ht hr)
            have HN2 := Lib.hid (HNX.out w11 gr _ HD1.out.rdr (by omega))
            rw [HV2.out] at HN2
            clear hr ht HN1
            go_wp2_with fail
            refine HN2.out.mono ?_
            rintro e w12 ⟨rfl, hr, ht⟩
            have hD2 := HD1.out.next ht hr
            have HD2 := Lib.hid hD2
            obtain ⟨p0, p1, p2, p3⟩ := HPB.out
            have hlk := hD2.tk.run py (by omega) (by omega)
            rw [show decide (py ∈ (T.reps.take k).map (·.2)) = false from HTK.out] at hlk
            have c4 := hD2.box.cell (i := 4) rfl
            obtain ⟨v0, st, wA, hE1, hgA, hE2⟩ := hD2.map.entry px (by unfold In64; omega) (by omega)
            obtain ⟨wB, hE2, hmB, hgB⟩ := hE2 py (by unfold In64; omega)
            have hsB := hD2.tk.kept (hgB.block gt hD2.tk.lt (fun e => hD2.ne.2.2.2.2.1 (Option.some.inj e).symm))
            have HMB := Lib.hid hmB
            have HGB := Lib.hid hgB
            clear hr ht HN2 hD2 hmB hgA hgB
            go_wp2_with (first
              | (refine Mp.wpList_setI rfl _ _ _ rfl hsB rfl rfl rfl (by omega) (by omega) (by omega) ?_; intro wC hsC hgC)
              | fail)
            have hDC : DecW w wC g gm gr gt vp T (k + 1) (14 + 2 * T.prim.length + 4 * k + 2 + 2) := by
              have hD2 := HD2.out
              have tB : Turn1 gm w12 wB := Turn1.ofGrown HGB.out
              have tC : Turn1 gt wB wC := Turn1.ofGrown hgC
              have hpB := own_turn1 tB hD2.pri (map13 hD2.pri hD2.map)
              have hxB : Bx wB g 57 [.int .i64 T.blocks, .int .i64 T.spares, .int .i64 T.used, vp, .map (some gm)] := (tB.block g hD2.box.lt hD2.ne.1).trans hD2.box
              have hrB : RdrW wB gr (enc13 T) (14 + 2 * T.prim.length + 4 * k + 2 + 2) := (tB.block gr hD2.rdr.lt (Ne.symm hD2.ne.2.2.2.1)).trans hD2.rdr
              have hlB := hD2.le.trans (tB.below hD2.ge.2.1 hD2.le.size)
              refine ⟨(tC.block g hxB.lt hD2.ne.2.2.1).trans hxB, own_turn1 tC hpB (set13 hpB hsB), ?_, (tC.block gr hrB.lt hD2.ne.2.2.2.2.2).trans hrB, ?_, hlB.trans (tC.below hD2.ge.2.2.2 hlB.size), hD2.ge, hD2.ne⟩
              · rw [HMK.out]
                exact HMB.out.kept (tC.block gm HMB.out.lt hD2.ne.2.2.2.2.1)
              · rw [HTS.out]
                exact hsC
            go_roundw
            case rel => exact ⟨k + 1, by omega, by go_num, by rw [show 14 + 2 * T.prim.length + 4 * (k + 1) = 14 + 2 * T.prim.length + 4 * k + 2 + 2 by omega]; exact hDC⟩
            case measure => simp [RowKit.intOf]; omega
          · obtain rfl : k = T.keys.length := by omega
            have HTW : Hid (TabW wr g gm vp T) := Lib.hid ⟨HOK.out, HDk.out.box, HDk.out.pri, by
              have h1 := HDk.out.map
              rw [HOK.out.mapAll] at h1
              exact h1.more HKL.out, HDk.out.ne.1⟩
            have HEN := Lib.hid (encode13 HTW.out)
            clear hlt
            go_wp2_with fail
            refine HEN.out.mono ?_
            rintro e w11 ⟨rfl, hb11⟩
            have HT11 := Lib.hid (HTW.out.below hb11)
            have HB11 := Lib.hid (HDk.out.le.trans (hb11.mono HDk.out.le.size))
            have HGE := Lib.hid HDk.out.ge
            clear hb11
            go_wp2_with fail
            go_ret2
            exact ⟨_, _, _, rfl, HT11.out, HGE.out.1, HGE.out.2.1, HB11.out⟩
end Go.Proofs.Ytjnedcncfdpjoaa.D13
/- Chapter 13: slices.Equal at replacements walked. -/
namespace Go.Proofs.Ytjnedcncfdpjoaa.D13
open Go.RowKit Go.Maps
set_option linter.unusedVariables false

abbrev RdR (w : World) (v : Value) (l : List (Int × Int)) : Prop := RdD ((0 : Int), (0 : Int)) dRep 2 w v l
set_option maxRecDepth 100000 in
set_option maxHeartbeats 4000000 in
theorem equalR13 {w : World} {v1 v2 : Value} {l : List (Int × Int)} (h1 : RdR w v1 l) (h2 : RdR w v2 l) (hl : l.length ≤ 100000) :
    Calls Try.prog 26 #[v1, v2] w fun e w' => e = .returned (.bool true) ∧ ∃ q, w' = w.drewN q := by
  obtain ⟨a1, c1, rfl, _⟩ := RdD.form h1
  obtain ⟨a2, c2, rfl, _⟩ := RdD.form h2
  obtain ⟨b1, o1, hc1⟩ := RdD.at h1
  obtain ⟨b2, o2, hc2⟩ := RdD.at h2
  have HC1 := Lib.hid hc1
  have HC2 := Lib.hid hc2
  clear h1 h2 hc1 hc2
  go_enter Try.func26, Try.ntmps26
  go_wp2_with fail
  go_loopw [13] (fun vk wr => ∃ k q : Nat, k ≤ l.length ∧ vk = .int .i64 k ∧ wr = w.drewN q) (fun vk _ => l.length - (RowKit.intOf vk).toNat)
  case atStart => exact ⟨0, 0, by omega, rfl, rfl⟩
  case round =>
    obtain ⟨k, q, hk, rfl, rfl⟩ := hrel
    by_cases hlt : k < l.length
    · obtain ⟨ha1, hr1⟩ := HC1.out k hlt
      obtain ⟨ha2, hr2⟩ := HC2.out k hlt
      have hi1 := fun w' => run_idxS Try.underlying39 Try.sizeRep13 (cap := c1) ha1 hlt (k : Int) rfl w'
      have hi2 := fun w' => run_idxS Try.underlying39 Try.sizeRep13 (cap := c2) ha2 hlt (k : Int) rfl w'
      have x0 := hr1 0 _ rfl
      have x1 := hr1 1 _ rfl
      have y0 := hr2 0 _ rfl
      have y1 := hr2 1 _ rfl
      simp only [Nat.add_zero] at x0 y0
      have HA1 := Lib.hid ha1
      have HA2 := Lib.hid ha2
      clear ha1 ha2 hr1 hr2
      generalize atD ((0 : Int), (0 : Int)) l k = p at *
      obtain ⟨px, py⟩ := p
      go_wp2_with fail
      go_quiet (fail)
      go_wp2_with fail
      go_roundw
      case rel => exact ⟨k + 1, _, by omega, by go_num, rfl⟩
      case measure => simp [RowKit.intOf]; omega
    · obtain rfl : k = l.length := by omega
      go_wp2_with fail
      go_ret
      exact ⟨rfl, _, rfl⟩
end Go.Proofs.Ytjnedcncfdpjoaa.D13
/- Chapter 13: the law DefectReturns walked. -/
namespace Go.Proofs.Ytjnedcncfdpjoaa.D13
open Go.RowKit Go.Maps
set_option linter.unusedVariables false

theorem TabW.turn2 {w w' : World} {g gm g2 gm2 n : Nat} {vp2 : Value} {T : Tab} {cs : List Value} {f : Int → Option Int} (h : TabW w g2 gm2 vp2 T) (ht : Turn g gm w w') (hb : Bx w g 57 cs) (hm : MapO w gm n f) (n1 : g2 ≠ g) (n2 : g2 ≠ gm) (n3 : gm2 ≠ g) (n4 : gm2 ≠ gm) : TabW w' g2 gm2 vp2 T :=
  ⟨h.ok, (ht.block g2 h.box.lt n1 n2).trans h.box, ht.own h.pri (block13 h.pri hb (by decide)) (map13 h.pri hm), h.map.kept (ht.block gm2 h.map.lt n3 n4), h.ne⟩
set_option maxRecDepth 100000 in
set_option maxHeartbeats 4000000 in
theorem returns_skip (w : World) (b s : Int) (hb : In64 b) (hs : In64 s) (v1 : Value) (l1 : List Int) (h1 : CameI w v1 l1) (v2 : Value) (l2 : List Int) (h2 : CameI w v2 l2) (nx : Int) (hnx : In64 nx) (hno : 40 < b ∨ 20 < l1.length ∨ 80 < l2.length) :
    Calls Try.prog 8 #[.int .i64 b, .int .i64 s, v1, v2, .int .i64 nx] w fun e w' => e = .returned (.bool true) ∧ Below w.heap.size w w' := by
  obtain ⟨_, hl1, a1, c1, rfl⟩ := h1
  obtain ⟨_, hl2, a2, c2, rfl⟩ := h2
  obtain ⟨b1, b2⟩ := hb
  have hcase : 40 < b ∨ (¬ 40 < b ∧ 20 < l1.length) ∨ (¬ 40 < b ∧ ¬ 20 < l1.length ∧ 80 < l2.length) := by omega
  clear hno
  rcases hcase with g1 | ⟨g1, g2⟩ | ⟨g1, g2, g3⟩
  all_goals
    go_enter Try.func8, Try.ntmps8
    go_wp2_with fail
    refine (awake13_any _).mono ?_
    rintro e w1 ⟨rfl, hb1⟩
    go_wp2_with fail
    go_ret
    exact ⟨rfl, hb1⟩
set_option maxRecDepth 100000 in
set_option maxHeartbeats 4000000 in
theorem returns_bad (w : World) (b s : Int) (hb : In64 b) (hs : In64 s) (v1 : Value) (l1 : List Int) (h1 : RdI w v1 l1) (v2 : Value) (l2 : List Int) (h2 : RdI w v2 l2) (nx : Int) (hnx : In64 nx) (g1 : b ≤ 40) (g2 : l1.length ≤ 20) (g3 : l2.length ≤ 80) (hno : ¬ shp b s l1) :
    Calls Try.prog 8 #[.int .i64 b, .int .i64 s, v1, v2, .int .i64 nx] w fun e w' => e = .returned (.bool true) ∧ Below w.heap.size w w' := by
  have HNW := Lib.hid (fun W hv => new_any b s hb hs v1 l1 W hv)
  have H1 := Lib.hid h1
  obtain ⟨a1, c1, rfl⟩ := RdI.formD h1
  obtain ⟨a2, c2, rfl⟩ := RdI.formD h2
  have HS := Lib.hid hno
  clear h1 h2 hno
  go_enter Try.func8, Try.ntmps8
  go_wp2_with fail
  refine (awake13_any _).mono ?_
  rintro e w1 ⟨rfl, hb1⟩
  have HB1 := Lib.hid hb1
  have HN1 := Lib.hid (HNW.out w1 (H1.out.keep hb1))
  clear hb1
  go_wp2_with fail
  refine HN1.out.mono ?_
  rintro e w2 ⟨hb2, h2'⟩
  have HB2 := Lib.hid (HB1.out.trans (hb2.mono HB1.out.size))
  clear hb2
  rcases h2' with ⟨hn, _⟩ | ⟨hn, rfl⟩
  · exact absurd hn HS.out
  · clear hn
    go_wp2_with fail
    go_ret
    exact ⟨rfl, HB2.out⟩
set_option maxRecDepth 100000 in
set_option maxHeartbeats 8000000 in
theorem returns_main (w : World) (b s : Int) (hb : In64 b) (hs : In64 s) (v1 : Value) (l1 : List Int) (h1 : RdI w v1 l1) (v2 : Value) (l2 : List Int) (h2 : RdI w v2 l2) (nx : Int) (hnx : In64 nx) (g1 : b ≤ 40) (g2 : l1.length ≤ 20) (g3 : l2.length ≤ 80) (hsh : shp b s l1) :
    Calls Try.prog 8 #[.int .i64 b, .int .i64 s, v1, v2, .int .i64 nx] w fun e w' => e = .returned (.bool true) ∧ Below w.heap.size w w' := by
  have HNW := Lib.hid (fun W hv => new_any b s hb hs v1 l1 W hv)
  have H1 := Lib.hid h1
  have H2 := Lib.hid h2
  obtain ⟨a1, c1, rfl⟩ := RdI.formD h1
  obtain ⟨a2, c2, rfl⟩ := RdI.formD h2
  have HS := Lib.hid hsh
  have b1 := hsh.1.1
  have s1 := hsh.1.2.2.1
  have s2 := hsh.1.2.2.2.1
  clear h1 h2 hsh hb hs
  have HNXT := Lib.hid hnx
  clear hnx
  go_enter Try.func8, Try.ntmps8
  go_wp2_with fail
  refine (awake13_any _).mono ?_
  rintro e w1 ⟨rfl, hb1⟩
  have HB1 := Lib.hid hb1
  have HN1 := Lib.hid (HNW.out w1 (H1.out.keep hb1))
  clear hb1
  go_wp2_with fail
  refine HN1.out.mono ?_
  rintro e w2 ⟨hb2, h2'⟩
  have HB2 := Lib.hid (HB1.out.trans (hb2.mono HB1.out.size))
  have hb1s := HB1.out.size
  clear hb2
  rcases h2' with ⟨_, g, gm, vp, rfl, hT, hg, hgm⟩ | ⟨hn, _⟩
  rotate_left
  · exact absurd HS.out hn
  have HT := Lib.hid hT
  have HG : Hid (w.heap.size ≤ g ∧ w.heap.size ≤ gm) := Lib.hid ⟨by omega, by omega⟩
  clear hT hg hgm hb1s
  go_wp2_with fail
  go_loopw [56] (fun vk wr => ∃ k : Nat, k ≤ l2.length ∧ vk = .int .i64 k ∧ TabW wr g gm vp (reps (tab0 b s l1) (l2.take k)) ∧ Below w.heap.size w wr) (fun vk _ => l2.length - (RowKit.intOf vk).toNat)
  case atStart => exact ⟨0, by omega, rfl, HT.out, HB2.out⟩
  case round =>
    obtain ⟨k, hk, rfl, hT, hb⟩ := hrel
    have HT2 := Lib.hid hT
    have HB3 := Lib.hid hb
    by_cases hlt : k < l2.length
    · obtain ⟨bl, off, hcell⟩ := RdI.at (H2.out.keep hb)
      obtain ⟨ha, hcl⟩ := hcell k hlt
      have hix := fun w' => run_idxS Try.underlying22 Try.sizeInt13 (cap := c2) ha hlt (k : Int) rfl w'
      simp only [Nat.mul_one] at hix
      have HR := Lib.hid (replace_any hT (ixI l2 k) ((H2.out.2.2 k hlt)))
      have HX := Lib.hid (reps_take (tab0 b s l1) l2 k hlt)
      generalize ixI l2 k = x at *
      have HA := Lib.hid ha
      clear ha hT hb hcell
      go_wp2_with fail
      refine HR.out.mono ?_
      rintro e w4 ⟨rfl, hT4, htu⟩
      go_wp2_with fail
      go_roundw
      case rel => exact ⟨k + 1, by omega, by go_num, by rw [HX.out]; exact hT4, HB3.out.trans (htu.below HG.out.1 HG.out.2 HB3.out.size)⟩
      case measure => simp [RowKit.intOf]; omega
    · obtain rfl : k = l2.length := by omega
      have HLE := Lib.hid ((Left.zero HS.out).reps (l2.take l2.length))
      clear hT hb
      generalize reps (tab0 b s l1) (l2.take l2.length) = T at *
      have HEN := Lib.hid (encode13 HT2.out)
      go_wp2_with fail
      refine HEN.out.mono ?_
      rintro e w4 ⟨rfl, hb4⟩
      have HT4 := Lib.hid (HT2.out.below hb4)
      have HB4 := Lib.hid (HB3.out.trans (hb4.mono HB3.out.size))
      have HDE := Lib.hid (decode13 (w := w4) HT4.out)
      clear hb4 HEN
      go_wp2_with fail
      refine HDE.out.mono ?_
      rintro e w5 ⟨g2, gm2, vp2, rfl, hu5, hg2, hgm2, hb5⟩
      have HU5 := Lib.hid hu5
      have HT5 := Lib.hid (HT4.out.below hb5)
      have HB5 := Lib.hid (HB4.out.trans (hb5.mono HB4.out.size))
      have HNE : Hid (g2 ≠ g ∧ g2 ≠ gm ∧ gm2 ≠ g ∧ gm2 ≠ gm ∧ w.heap.size ≤ g2 ∧ w.heap.size ≤ gm2) := Lib.hid (by
        have h1 := HT4.out.box.lt
        have h2 := HT4.out.map.lt
        have h3 := HB4.out.size
        omega)
      have HRT := Lib.hid (replace_any HT5.out nx HNXT.out)
      clear hu5 hg2 hgm2 hb5 HDE HT4 HB4
      go_wp2_with fail
      refine HRT.out.mono ?_
      rintro e w6 ⟨rfl, hT6, htu⟩
      have HT6 := Lib.hid hT6
      have HU6 := Lib.hid (HU5.out.turn2 htu HT5.out.box HT5.out.map HNE.out.1 HNE.out.2.1 HNE.out.2.2.1 HNE.out.2.2.2.1)
      have HB6 := Lib.hid (HB5.out.trans (htu.below HG.out.1 HG.out.2 HB5.out.size))
      have HRU := Lib.hid (replace_any HU6.out nx HNXT.out)
      clear hT6 htu HRT
      go_wp2_with fail
      refine HRU.out.mono ?_
      rintro e w7 ⟨rfl, hU7, htu⟩
      have HU7 := Lib.hid hU7
      have HT7 := Lib.hid (HT6.out.turn2 htu HU6.out.box HU6.out.map (Ne.symm HNE.out.1) (Ne.symm HNE.out.2.2.1) (Ne.symm HNE.out.2.1) (Ne.symm HNE.out.2.2.2.1))
      have HB7 := Lib.hid (HB6.out.trans (htu.below HNE.out.2.2.2.2.1 HNE.out.2.2.2.2.2 HB6.out.size))
      have HBB : Hid (((replR T nx).2.blocks : Int) = b) := Lib.hid (by rw [(replR_same T nx).1]; exact HLE.out.hb)
      clear hU7 htu HRU HT6 HU6 HB6 HT5 HU5 HB5
      have hrr := (replR T nx).1.1
      generalize replR T nx = R at *
      obtain ⟨⟨r1, r2⟩, T'⟩ := R
      have HKT := Lib.hid (fun W (hW : Below w7.heap.size w7 W) => (show TabW w7 g gm vp T' from HT7.out).below hW)
      have HKU := Lib.hid (fun W (hW : Below w7.heap.size w7 W) => (show TabW w7 g2 gm2 vp2 T' from HU7.out).below hW)
      have HP7 := Lib.hid (Below.refl w7.heap.size w7)
      have hbls : T'.blocks ≤ 40 := by have h1 : (T'.blocks : Int) = b := HBB.out; omega
      clear hrr HT7 HU7
      have HC := Lib.hid (blocks_any (HKT.out _ HP7.out))
      go_wp2_with fail
      refine HC.out.mono ?_
      rintro e wx ⟨rfl, hw⟩
      obtain ⟨w8, hwe⟩ : ∃ w8, w8 = w7 := ⟨_, rfl⟩
      subst hw
      rw [← hwe]
      have HP8 : Hid (Below w7.heap.size w7 w8) := Lib.hid (by rw [hwe]; exact HP7.out)
      clear hwe
      clear HC
      have HC := Lib.hid (blocks_any (HKU.out _ HP8.out))
      go_wp2_with fail
      refine HC.out.mono ?_
      rintro e wx ⟨rfl, hw⟩
      obtain ⟨w9, hwe⟩ : ∃ w9, w9 = w8 := ⟨_, rfl⟩
      subst hw
      rw [← hwe]
      have HP9 : Hid (Below w7.heap.size w7 w9) := Lib.hid (by rw [hwe]; exact HP8.out)
      clear hwe
      clear HC
      have HC := Lib.hid (sectors_any (HKT.out _ HP9.out))
      go_wp2_with fail
      refine HC.out.mono ?_
      rintro e wx ⟨rfl, q10, rfl⟩
      have HP10 := Lib.hid (Below.drewN HP9.out q10)
      generalize w9.drewN q10 = w10 at *
      clear HC
      have HC := Lib.hid (sectors_any (HKU.out _ HP10.out))
      go_wp2_with fail
      refine HC.out.mono ?_
      rintro e wx ⟨rfl, q11, rfl⟩
      have HP11 := Lib.hid (Below.drewN HP10.out q11)
      generalize w10.drewN q11 = w11 at *
      clear HC
      have HC := Lib.hid (free_any (HKT.out _ HP11.out))
      go_wp2_with fail
      refine HC.out.mono ?_
      rintro e wx ⟨rfl, q12, rfl⟩
      have HP12 := Lib.hid (Below.drewN HP11.out q12)
      generalize w11.drewN q12 = w12 at *
      clear HC
      have HC := Lib.hid (free_any (HKU.out _ HP12.out))
      go_wp2_with fail
      refine HC.out.mono ?_
      rintro e wx ⟨rfl, q13, rfl⟩
      have HP13 := Lib.hid (Below.drewN HP12.out q13)
      generalize w12.drewN q13 = w13 at *
      clear HC
      have HC := Lib.hid (bad_any (HKT.out _ HP13.out))
      go_wp2_with fail
      refine HC.out.mono ?_
      rintro e w14 ⟨v14, rfl, ho14, hb14⟩
      obtain ⟨a14, c14, rfl⟩ := ownD_form ho14
      have HO14 := Lib.hid ho14
      have HQ14 := Lib.hid hb14
      have HP14 := Lib.hid (HP13.out.trans ((hb14).mono HP13.out.size))
      clear ho14 hb14 HC
      have HC := Lib.hid (bad_any (HKU.out _ HP14.out))
      go_wp2_with fail
      refine HC.out.mono ?_
      rintro e w15 ⟨v15, rfl, ho15, hb15⟩
      obtain ⟨a15, c15, rfl⟩ := ownD_form ho15
      have HO15 := Lib.hid ho15
      have HQ15 := Lib.hid hb15
      have HP15 := Lib.hid (HP14.out.trans ((hb15).mono HP14.out.size))
      clear ho15 hb15 HC
      have HC := Lib.hid (equal13 (rdI_own (ownD_keep HO14.out HQ15.out) rfl (by
          have h1 := (HKT.out _ HP15.out).ok
          have h2 := h1.us
          have h3 := h1.sp
          have h4 := h1.pl
          have h5 := h1.bad_length
          omega) (fun x hx => by
          have h1 := (HKT.out _ HP15.out).ok
          have h2 := h1.us
          have h3 := h1.sp
          have h4 := h1.pl
          have h5 := h1.b2
          have h6 := first_int T'
          have h7 := Tab.mem_bad.1 hx
          omega)) (rdI_own HO15.out rfl (by
          have h1 := (HKT.out _ HP15.out).ok
          have h2 := h1.us
          have h3 := h1.sp
          have h4 := h1.pl
          have h5 := h1.bad_length
          omega) (fun x hx => by
          have h1 := (HKT.out _ HP15.out).ok
          have h2 := h1.us
          have h3 := h1.sp
          have h4 := h1.pl
          have h5 := h1.b2
          have h6 := first_int T'
          have h7 := Tab.mem_bad.1 hx
          omega)))
      go_wp2_with fail
      refine HC.out.mono ?_
      rintro e wx ⟨rfl, q16, rfl⟩
      have HP16 := Lib.hid (Below.drewN HP15.out q16)
      generalize w15.drewN q16 = w16 at *
      clear HC
      have HC := Lib.hid ((replaced_any (HKT.out _ HP16.out)).2)
      go_wp2_with fail
      refine HC.out.mono ?_
      rintro e w17 ⟨v17, rfl, ho17, hb17⟩
      obtain ⟨a17, c17, rfl⟩ := ownD_form ho17
      have HO17 := Lib.hid ho17
      have HQ17 := Lib.hid hb17
      have HP17 := Lib.hid (HP16.out.trans ((hb17).mono HP16.out.size))
      clear ho17 hb17 HC
      have HC := Lib.hid ((replaced_any (HKU.out _ HP17.out)).2)
      go_wp2_with fail
      refine HC.out.mono ?_
      rintro e w18 ⟨v18, rfl, ho18, hb18⟩
      obtain ⟨a18, c18, rfl⟩ := ownD_form ho18
      have HO18 := Lib.hid ho18
      have HQ18 := Lib.hid hb18
      have HP18 := Lib.hid (HP17.out.trans ((hb18).mono HP17.out.size))
      clear ho18 hb18 HC
      have HC : Hid (Calls Try.prog 26 #[.slice a17 T'.keys.length c17, .slice a18 T'.keys.length c18] w18 fun e w' => e = .returned (.bool true) ∧ ∃ q, w' = w18.drewN q) := Lib.hid (by
        have r1 := RdD.ofOwn (d := ((0 : Int), (0 : Int))) dRep_len (show World.ownsRow _ _ _ 2 _ T'.reps.length (flD dRep T'.reps) by rw [Tab.reps_length]; exact ownD_keep HO17.out HQ18.out)
        have r2 := RdD.ofOwn (d := ((0 : Int), (0 : Int))) dRep_len (show World.ownsRow _ _ _ 2 _ T'.reps.length (flD dRep T'.reps) by rw [Tab.reps_length]; exact HO18.out)
        have h1 := (replaced_any (HKT.out _ HP18.out)).1
        have h2 := (HKT.out _ HP18.out).ok.us
        have h3 := (HKT.out _ HP18.out).ok.sp
        have h4 := equalR13 r1 r2 (by rw [Tab.reps_length]; omega)
        exact h4)
      go_wp2_with fail
      refine HC.out.mono ?_
      rintro e wx ⟨rfl, q19, rfl⟩
      have HP19 := Lib.hid (Below.drewN HP18.out q19)
      generalize w18.drewN q19 = w19 at *
      clear HC
      have HC := Lib.hid (primary_any (HKT.out _ HP19.out))
      go_wp2_with fail
      refine HC.out.mono ?_
      rintro e w20 ⟨v20, rfl, ho20, hb20⟩
      obtain ⟨a20, c20, rfl⟩ := ownD_form ho20
      have HO20 := Lib.hid ho20
      have HQ20 := Lib.hid hb20
      have HP20 := Lib.hid (HP19.out.trans ((hb20).mono HP19.out.size))
      clear ho20 hb20 HC
      have HC := Lib.hid (primary_any (HKU.out _ HP20.out))
      go_wp2_with fail
      refine HC.out.mono ?_
      rintro e w21 ⟨v21, rfl, ho21, hb21⟩
      obtain ⟨a21, c21, rfl⟩ := ownD_form ho21
      have HO21 := Lib.hid ho21
      have HQ21 := Lib.hid hb21
      have HP21 := Lib.hid (HP20.out.trans ((hb21).mono HP20.out.size))
      clear ho21 hb21 HC
      have HC := Lib.hid (equal13 (rdI_own (ownD_keep HO20.out HQ21.out) rfl (by
          have h1 := (HKT.out _ HP21.out).ok
          have h2 := h1.us
          have h3 := h1.sp
          have h4 := h1.pl
          skip
          omega) (fun x hx => by
          have h1 := (HKT.out _ HP21.out).ok
          have h2 := h1.us
          have h3 := h1.sp
          have h4 := h1.pl
          have h5 := h1.b2
          have h6 := first_int T'
          have h7 := h1.pr x hx
          omega)) (rdI_own HO21.out rfl (by
          have h1 := (HKT.out _ HP21.out).ok
          have h2 := h1.us
          have h3 := h1.sp
          have h4 := h1.pl
          skip
          omega) (fun x hx => by
          have h1 := (HKT.out _ HP21.out).ok
          have h2 := h1.us
          have h3 := h1.sp
          have h4 := h1.pl
          have h5 := h1.b2
          have h6 := first_int T'
          have h7 := h1.pr x hx
          omega)))
      go_wp2_with fail
      refine HC.out.mono ?_
      rintro e wx ⟨rfl, q22, rfl⟩
      have HP22 := Lib.hid (Below.drewN HP21.out q22)
      generalize w21.drewN q22 = w22 at *
      clear HC
      go_wp2_with fail
      go_loopw [142] (fun vk wq => ∃ k : Nat, k ≤ T'.blocks ∧ vk = .int .i64 k ∧ Below w7.heap.size w7 wq) (fun vk _ => T'.blocks - (RowKit.intOf vk).toNat)
      case atStart => exact ⟨0, by omega, rfl, HP22.out⟩
      case round =>
        obtain ⟨k, hk, rfl, hB⟩ := hrel
        have HBk := Lib.hid hB
        by_cases hlt : k < T'.blocks
        · have hlt' : (k : Int) < b := by have h1 : (T'.blocks : Int) = b := HBB.out; omega
          have HC1 := Lib.hid (physical_any (HKT.out _ hB) k (by unfold In64; omega))
          have HC2 := Lib.hid (fun W hW => physical_any (HKU.out W hW) k (by unfold In64; omega))
          clear hB
          generalize physR T' k = pr at *
          obtain ⟨pa, pb⟩ := pr
          go_wp2_with fail
          refine HC1.out.mono ?_
          rintro e wx ⟨rfl, qa, rfl⟩
          have HBa := Lib.hid (Below.drewN HBk.out qa)
          have HC3 := Lib.hid (HC2.out _ HBa.out)
          generalize wr.drewN qa = wa at *
          go_wp2_with fail
          refine HC3.out.mono ?_
          rintro e wx ⟨rfl, qb, rfl⟩
          have HBb := Lib.hid (Below.drewN HBa.out qb)
          generalize wa.drewN qb = wb at *
          go_wp2_with fail
          go_roundw
          case rel => exact ⟨k + 1, by omega, by go_num, HBb.out⟩
          case measure => simp [RowKit.intOf]; omega
        · obtain rfl : k = T'.blocks := by omega
          have hnl : ¬ ((T'.blocks : Int) < b) := by have h1 : (T'.blocks : Int) = b := HBB.out; omega
          have HC1 := Lib.hid (encode13 (HKT.out _ hB))
          have HC2 := Lib.hid (fun W hW => encode13 (HKU.out W hW))
          clear hB
          generalize enc13 T' = E at *
          go_wp2_with fail
          refine HC1.out.mono ?_
          rintro e wa ⟨rfl, hba⟩
          have HBa := Lib.hid (HBk.out.trans (hba.mono HBk.out.size))
          have HC3 := Lib.hid (HC2.out _ HBa.out)
          clear hba
          go_wp2_with fail
          refine HC3.out.mono ?_
          rintro e wb ⟨rfl, hbb⟩
          have hfin := HB7.out.trans ((HBa.out.trans (hbb.mono HBa.out.size)).mono HB7.out.size)
          go_wp2_with fail
          go_ret
          exact ⟨retB (by simp), hfin⟩
theorem returns_law (w : World) (b : Int) (hb : (Lit.int .i64 b).wf = true) (s : Int) (hs : (Lit.int .i64 s).wf = true) (v1 : Value) (l1 : List Int) (h1 : CameI w v1 l1) (v2 : Value) (l2 : List Int) (h2 : CameI w v2 l2) (nx : Int) (hnx : (Lit.int .i64 nx).wf = true) :
    Calls Try.prog 8 #[.int .i64 b, .int .i64 s, v1, v2, .int .i64 nx] w fun e w' => e = .returned (.bool true) ∧ Below w.heap.size w w' := by
  by_cases hno : 40 < b ∨ 20 < l1.length ∨ 80 < l2.length
  · exact returns_skip w b s (in64_of hb) (in64_of hs) v1 l1 h1 v2 l2 h2 nx (in64_of hnx) hno
  · by_cases hsh : shp b s l1
    · exact returns_main w b s (in64_of hb) (in64_of hs) v1 l1 (h1.1 (by omega)) v2 l2 (h2.1 (by omega)) nx (in64_of hnx) (by omega) (by omega) (by omega) hsh
    · exact returns_bad w b s (in64_of hb) (in64_of hs) v1 l1 (h1.1 (by omega)) v2 l2 (h2.1 (by omega)) nx (in64_of hnx) (by omega) (by omega) (by omega) hsh
end Go.Proofs.Ytjnedcncfdpjoaa.D13
namespace Go.Proofs.Ytjnedcncfdpjoaa.defectReturns
open Go.ChangeShapes Go.WideShapes Go.ChangeAt Go.RowKit
open Go.ChangeMaps (open_string shut_string)
open D13
set_option linter.unusedVariables false
theorem own : ownKnob Try.prog.godebug = none := by kernel_rfl
theorem laidOut : laidOutB Try.prog = true := by kernel_rfl

set_option maxRecDepth 100000 in
set_option maxHeartbeats 1000000 in
theorem lifted (os : Os) (started : os.Started) (H : Type) (enc : TypeId × Value → H) :
    ReturnsInHanded {} Try.checked os 8 .any (Rows.defectReturnsSpec.pre6 enc Try.prog Try.f8 Rows.defectReturnsRow.domain false) (Rows.defectReturnsSpec.post enc Try.prog Try.f8 false true false false) := by
  refine returnsInHanded_of_change (C := Try.checked) own started (by kernel_rfl) Try.func8
    (ChangeSpec.witness6 (enc := enc) (C := Try.checked) false ⟨#[], #[.int .i64 0, .int .i64 0, .slice none 0 0, .slice none 0 0, .int .i64 0], []⟩ 8 (by kernel_rfl) (by kernel_rfl) (by kernel_rfl) (by kernel_rfl)) ?_
  intro W base args ds gs before hval0 hW hcnd _
  have hval : ∀ (j : Nat) t v, Try.f8.params[j]? = some t → args[j]? = some v → Value.okWide Try.prog W .any base t v := hval0
  have hW' := hW
  obtain ⟨p, q, hA0, hV, rfl, hfz, hnd⟩ := hW
  have hA : DataW.TrodAll enc Try.prog W 0 (fun _ => true) true Try.f8.params.toList args.toList ds p := hA0
  rw [Try.params8] at hA hval
  obtain ⟨v0, vs0, d0, ds0, p0, q0, hargs, rfl, rfl, h0, r0⟩ := trodAll_cons hA
  obtain ⟨v1, vs1, d1, ds1, p1, q1, rfl, rfl, rfl, h1, r1⟩ := trodAll_cons r0
  obtain ⟨v2, vs2, d2, ds2, p2, q2, rfl, rfl, rfl, h2, r2⟩ := trodAll_cons r1
  obtain ⟨v3, vs3, d3, ds3, p3, q3, rfl, rfl, rfl, h3, r3⟩ := trodAll_cons r2
  obtain ⟨v4, vs4, d4, ds4, p4, q4, rfl, rfl, rfl, h4, r4⟩ := trodAll_cons r3
  obtain ⟨rfl, rfl, rfl⟩ := trodAll_nil r4
  obtain rfl : args = #[v0, v1, v2, v3, v4] := by cases args; simp_all
  obtain ⟨rfl, rfl⟩ := trodVars_none hV
  have k0 := h0
  have lt0 : ∀ x ∈ p0, x.block < W.heap.size := by obtain ⟨m, hm⟩ := k0; exact DataW.trod_lt m _ _ _ hm
  obtain ⟨a0, rfl, _, _, w0⟩ := open_int Try.underlying3 (hval 0 3 v0 rfl rfl) h0
  have k1 := h1
  have lt1 : ∀ x ∈ p1, x.block < W.heap.size := by obtain ⟨m, hm⟩ := k1; exact DataW.trod_lt m _ _ _ hm
  obtain ⟨a1, rfl, _, _, w1⟩ := open_int Try.underlying3 (hval 1 3 v1 rfl rfl) h1
  have k2 := h2
  have lt2 : ∀ x ∈ p2, x.block < W.heap.size := by obtain ⟨m, hm⟩ := k2; exact DataW.trod_lt m _ _ _ hm
  obtain ⟨a2, w2⟩ := open_cints (hval 2 22 v2 rfl rfl) h2
  have k3 := h3
  have lt3 : ∀ x ∈ p3, x.block < W.heap.size := by obtain ⟨m, hm⟩ := k3; exact DataW.trod_lt m _ _ _ hm
  obtain ⟨a3, w3⟩ := open_cints (hval 3 22 v3 rfl rfl) h3
  have k4 := h4
  have lt4 : ∀ x ∈ p4, x.block < W.heap.size := by obtain ⟨m, hm⟩ := k4; exact DataW.trod_lt m _ _ _ hm
  obtain ⟨a4, rfl, _, _, w4⟩ := open_int Try.underlying3 (hval 4 3 v4 rfl rfl) h4
  refine (returns_law W a0 w0 a1 w1 v2 a2 w2 v3 a3 w3 a4 w4).mono fun e W' ⟨he, bel⟩ => ?_
  subst he
  exact ⟨_, rfl, _, _, _, [], _, [], hW', trodAll_mk1 (shut_bool Try.underlying4 _), (trodAll_cons_mk (Below.trod laidOut (by kernel_rfl) (of_decide_eq_true (by kernel_rfl)) k0 bel lt0) (trodAll_cons_mk (Below.trod laidOut (by kernel_rfl) (of_decide_eq_true (by kernel_rfl)) k1 bel lt1) (trodAll_cons_mk (Below.trod laidOut (by kernel_rfl) (of_decide_eq_true (by kernel_rfl)) k2 bel lt2) (trodAll_cons_mk (Below.trod laidOut (by kernel_rfl) (of_decide_eq_true (by kernel_rfl)) k3 bel lt3) (trodAll_cons_mk (Below.trod laidOut (by kernel_rfl) (of_decide_eq_true (by kernel_rfl)) k4 bel lt4) trodAll_mk0))))), rfl, bel.frame _, fun h => by cases h⟩

theorem over : Rows.defectReturnsRow.holds Try.pinned (OpenSpec.ofChange Rows.defectReturnsSpec) :=
  OpenClaim.holds_of_wide 8 Try.f8 rfl rfl rfl rfl rfl rfl rfl ⟨rfl, rfl, rfl, rfl, rfl⟩ rfl rfl rfl rfl rfl (by kernel_rfl) Try.func8 (by kernel_rfl)
    (of_decide_eq_true (by kernel_rfl)) (by unfold Func.isWrapper; first | (rw [if_pos (by decide +kernel)]; kernel_rfl) | (rw [if_neg (by decide +kernel)]; exact ⟨rfl, rfl⟩))
    (fun os started H enc _ => lifted os started H enc)

/-- The statement. -/
theorem proved : Rows.DefectReturnsSaid := over
end Go.Proofs.Ytjnedcncfdpjoaa.defectReturns
