/- Parts: XInr XRin XInd -/
import Derived.Test.YtflmjdjkfognjaaGreatTe15
import Derived.OrdersIn
import Derived.RangeFuncCalls
namespace Go.Proofs.YtflmjdjkfognjaaGreat
open Go.RowKit
set_option linter.unusedVariables false
section
variable {P : Program} {Q : Exit → Act → World → Prop}
def slotV (d : Option Tmp) (a : Act) : Value := match d with
  | some t => a.tmps.getD t undef
  | none => undef
def kept (d : Option Tmp) (v : Value) : Value := match d with
  | some _ => v
  | none => undef
def StepR (P : Program) (Q : Exit → Act → World → Prop) (R : World → World → Prop) (C : World → Prop) (V : Nat → Value → World → Prop) (sk : Nat → Bool) (l : List Oper) (a0 : Act) (i : Nat) (o : Oper) : Prop :=
  ∀ a w, C w → a.tmps.size = a0.tmps.size → (∀ t, freeB l t = true → a.tmps.getD t undef = a0.tmps.getD t undef) →
    (∀ k, (o.after.toList.any fun e => e.on == k && Region.binds .any e) = true → sk k = false → ∀ (ok : Oper), l[k]? = some ok → V k (slotV ok.dst a) w) →
    if sk i then Region.wanted o (yielded l.toArray a.tmps) = false
    else Region.wanted o (yielded l.toArray a.tmps) = true ∧ o.wp P a w (fun a' w' => ∃ v, a' = a.put o.dst v ∧ R w w' ∧ V i (kept o.dst v) w') Q
def StepsR (P : Program) (Q : Exit → Act → World → Prop) (R : World → World → Prop) (C : World → Prop) (V : Nat → Value → World → Prop) (sk : Nat → Bool) (l : List Oper) (a0 : Act) : Nat → List Oper → Prop
  | _, [] => True
  | i, o :: r => StepR P Q R C V sk l a0 i o ∧ StepsR P Q R C V sk l a0 (i + 1) r
theorem StepsR.at {R : World → World → Prop} {C : World → Prop} {V : Nat → Value → World → Prop} {sk : Nat → Bool} {l : List Oper} {a0 : Act} : ∀ {i : Nat} {r : List Oper}, StepsR P Q R C V sk l a0 i r → ∀ {j : Nat} {o : Oper}, r[j]? = some o → StepR P Q R C V sk l a0 (i + j) o
  | i, [], _, j, o, h => by simp at h
  | i, x :: r, h, 0, o, ho => by
    have : x = o := by simpa using ho
    subst this; exact h.1
  | i, x :: r, h, j + 1, o, ho => by
    have := StepsR.at h.2 (j := j) (o := o) (by simpa using ho)
    rwa [Nat.add_assoc, Nat.add_comm 1 j] at this
def formR (l : List Oper) (n : Nat) : Bool :=
  (List.range l.length).all (fun i => ((l[i]?).map fun o => o.after.toList.all (fun e => !Region.binds .any e || Nat.blt e.on i) && (match o.dst with | some t => Nat.blt t n | none => true)).getD true) &&
  decide ((l.filterMap (·.dst)).Nodup)
theorem formR_spec {l : List Oper} {n : Nat} (h : formR l n = true) : (∀ (i : Nat) (o : Oper), l[i]? = some o → (∀ e ∈ o.after, Region.binds .any e = true → e.on < i) ∧ ∀ t, o.dst = some t → t < n) ∧
    ∀ (i j : Nat) (oi oj : Oper) (t : Tmp), l[i]? = some oi → l[j]? = some oj → oi.dst = some t → oj.dst = some t → i = j := by
  unfold formR at h
  rw [Bool.and_eq_true] at h
  obtain ⟨h1, h2⟩ := h
  refine ⟨fun i o ho => ?_, ?_⟩
  · have hi := (List.getElem?_eq_some_iff.1 ho).1
    have := List.all_eq_true.1 h1 i (List.mem_range.2 hi)
    rw [ho] at this
    simp only [Option.map_some, Option.getD_some, Bool.and_eq_true] at this
    obtain ⟨g2, g3⟩ := this
    refine ⟨fun e he hbi => ?_, fun t ht => ?_⟩
    · have := List.all_eq_true.1 g2 e (Array.mem_toList_iff.2 he)
      rw [hbi, Bool.not_true, Bool.false_or] at this
      exact Nat.blt_eq ▸ this
    · rw [ht] at g3; exact Nat.blt_eq ▸ g3
  · have hn := of_decide_eq_true h2
    clear h1 h2
    induction l with
    | nil => intro i j oi oj t h; simp at h
    | cons x r ih =>
      intro i j oi oj t hi hj hti htj
      have hnr : (r.filterMap (·.dst)).Nodup := by
        cases hx : x.dst with
        | none => simpa [List.filterMap_cons, hx] using hn
        | some u => simp only [List.filterMap_cons, hx] at hn; exact (List.nodup_cons.1 hn).2
      have hx0 : ∀ (k : Nat) (ok : Oper), r[k]? = some ok → ok.dst = some t → x.dst ≠ some t := fun k ok hk hd hx => by
        simp only [List.filterMap_cons, hx] at hn
        exact (List.nodup_cons.1 hn).1 (List.mem_filterMap.2 ⟨ok, List.mem_of_getElem? hk, hd⟩)
      cases i with
      | zero =>
        cases j with
        | zero => rfl
        | succ j =>
          have e : x = oi := by simpa using hi
          subst e
          exact absurd hti (hx0 j oj (by simpa using hj) htj)
      | succ i =>
        cases j with
        | zero =>
          have e : x = oj := by simpa using hj
          subst e
          exact absurd htj (hx0 i oi (by simpa using hi) hti)
        | succ j =>
          have := ih hnr i j oi oj t (by simpa using hi) (by simpa using hj) hti htj
          omega
theorem wanted_none {o : Oper} {y : Nat → Option Bool} (h : o.guard = none) : Region.wanted o y = true := by simp [Region.wanted, h]
theorem wanted_of {o : Oper} {ops : Array Oper} {tmps : Array Value} {j : Nat} {want b : Bool} {t : Tmp} (h : o.guard = some (j, want)) (hd : ((ops[j]?).bind (·.dst)) = some t) (hv : tmps.getD t undef = .bool b) : Region.wanted o (yielded ops tmps) = (b == want) := by
  have hs : tmps[t]? = some (.bool b) := by
    by_cases hlt : t < tmps.size
    · rw [Array.getElem?_eq_getElem hlt]
      simp only [Array.getD, hlt, dif_pos] at hv
      exact congrArg some hv
    · simp only [Array.getD, hlt, dif_neg, not_false_eq_true] at hv
      cases hv
  simp [Region.wanted, h, yielded, hd, hs]
theorem stepR_val {R : World → World → Prop} {V : Nat → Value → World → Prop} {i : Nat} {o : Oper} {a : Act} {w : World} {v : Value} (hr : R w w) (hv : V i (kept o.dst v) w) (h : ∀ K : Act → World → Prop, K (a.put o.dst v) w → o.wp P a w K Q) :
    o.wp P a w (fun a' w' => ∃ v, a' = a.put o.dst v ∧ R w w' ∧ V i (kept o.dst v) w') Q := h _ ⟨v, rfl, hr, hv⟩
theorem stepR_call {R : World → World → Prop} {V : Nat → Value → World → Prop} {i : Nat} {o : Oper} {a : Act} {w : World} {v : Value} (hr : ∀ w', Below w.heap.size w w' → R w w') (hv : ∀ w', V i (kept o.dst v) w') (h : ∀ K : Act → World → Prop, (∀ w', Below w.heap.size w w' → K (a.put o.dst v) w') → o.wp P a w K Q) :
    o.wp P a w (fun a' w' => ∃ v, a' = a.put o.dst v ∧ R w w' ∧ V i (kept o.dst v) w') Q := h _ fun w' hb => ⟨v, rfl, hr w' hb, hv w'⟩
theorem stepR_new {R : World → World → Prop} {V : Nat → Value → World → Prop} {i : Nat} {o : Oper} {a : Act} {w w' : World} {v : Value} (hr : R w w') (hv : V i (kept o.dst v) w') (h : ∀ K : Act → World → Prop, K (a.put o.dst v) w' → o.wp P a w K Q) :
    o.wp P a w (fun a' w' => ∃ v, a' = a.put o.dst v ∧ R w w' ∧ V i (kept o.dst v) w') Q := h _ ⟨v, rfl, hr, hv⟩
theorem stepR_do {p q : Prop} {b : Bool} (hb : b = false) {c : Prop} (h1 : p) (h2 : q) : if b = true then c else p ∧ q := by rw [if_neg (by rw [hb]; decide)]; exact ⟨h1, h2⟩
structure OkayR (l : List Oper) (C : World → Prop) (V : Nat → Value → World → Prop) (sk : Nat → Bool) (a0 : Act) (listed : Array Bool) (a : Act) (w : World) : Prop where
  c : C w
  defers : a.defers = a0.defers
  size : a.tmps.size = a0.tmps.size
  old : ∀ t, freeB l t = true → a.tmps.getD t undef = a0.tmps.getD t undef
  val : ∀ (i : Nat) (o : Oper), l[i]? = some o → sk i = false → listed.getD i false = true → V i (slotV o.dst a) w
theorem readyR_nil {l : List Oper} {n : Nat} (hf : formR l n = true) {listed : Array Bool} (hs : listed.size = l.length) (h : Region.ready .any l.toArray listed = []) : ∀ i, i < l.length → listed.getD i false = true := by
  intro i
  induction i using Nat.strongRecOn with
  | ind i ih =>
    intro hi
    obtain ⟨o, ho⟩ : ∃ o, l[i]? = some o := ⟨l[i], List.getElem?_eq_getElem hi⟩
    have hsp := (formR_spec hf).1 i o ho
    rcases hb : listed.getD i true with _ | _
    · have : i ∈ Region.ready .any l.toArray listed := mem_ready.2 ⟨hb, o, by simpa using ho, fun e he hbi => ih e.on (hsp.1 e he hbi) (by have := hsp.1 e he hbi; omega)⟩
      rw [h] at this; cases this
    · have : i < listed.size := by omega
      simp only [Array.getD, this, dif_pos] at hb ⊢
      exact hb
theorem wpAny_inr {l : List Oper} {R : World → World → Prop} {C : World → Prop} {V : Nat → Value → World → Prop} {sk : Nat → Bool} {a0 : Act} (hf : formR l a0.tmps.size = true)
    (hC : ∀ w w', R w w' → C w → C w') (hV : ∀ i v w w', R w w' → V i v w → V i v w')
    (hstep : StepsR P Q R C V sk l a0 0 l)
    (hend : ∀ a w, C w → a.defers = a0.defers → a.tmps.size = a0.tmps.size → (∀ t, freeB l t = true → a.tmps.getD t undef = a0.tmps.getD t undef) →
      (∀ (i : Nat) (o : Oper), l[i]? = some o → sk i = false → V i (slotV o.dst a) w) → Q .normal a w) :
    ∀ (fuel : Nat) (listed : Array Bool) (a : Act) (w : World), listed.size = l.length → left l.length listed ≤ fuel → OkayR l C V sk a0 listed a w → wpAny P .any l.toArray Q fuel listed a w := by
  have hfin : ∀ (listed : Array Bool) (a : Act) (w : World), listed.size = l.length → OkayR l C V sk a0 listed a w → Region.ready .any l.toArray listed = [] → Q .normal a w := fun listed a w hs hok hr =>
    hend a w hok.c hok.defers hok.size hok.old fun i o ho hsk => hok.val i o ho hsk (readyR_nil hf hs hr i (List.getElem?_eq_some_iff.1 ho).1)
  intro fuel
  induction fuel with
  | zero =>
    intro listed a w hs hle hok
    have hr : Region.ready .any l.toArray listed = [] := by
      rcases hq : Region.ready .any l.toArray listed with _ | ⟨i, r⟩
      · rfl
      · have hi : i ∈ Region.ready .any l.toArray listed := by rw [hq]; exact List.mem_cons_self ..
        have := left_set hs (mem_ready.1 hi).1
        omega
    exact ⟨hr, hfin listed a w hs hok hr⟩
  | succ fuel ih =>
    intro listed a w hs hle hok
    refine ⟨hfin listed a w hs hok, fun i hi => ?_⟩
    obtain ⟨hun, o, ho, hall⟩ := mem_ready.1 hi
    have hol : l[i]? = some o := by simpa using ho
    obtain ⟨_, hlt⟩ := (formR_spec hf).1 i o hol
    have hst := hstep.at hol
    rw [Nat.zero_add] at hst
    have h1 := hst a w hok.c hok.size hok.old fun k hk hsk ok hkl => by
      rw [List.any_eq_true] at hk
      obtain ⟨e, he, hb⟩ := hk
      rw [Bool.and_eq_true] at hb
      have hek : e.on = k := by simpa using hb.1
      exact hok.val k ok hkl hsk (by rw [← hek]; exact hall e (Array.mem_toList_iff.1 he) hb.2)
    have hold : ∀ v, ∀ t, freeB l t = true → (a.put o.dst v).tmps.getD t undef = a0.tmps.getD t undef := fun v t ht => by
      have hne : o.dst ≠ some t := by
        have := List.all_eq_true.1 ht o (List.mem_of_getElem? hol)
        simpa using this
      rw [put_getD_other hne]; exact hok.old t ht
    have hother : ∀ (v : Value) (j : Nat) (oj : Oper), l[j]? = some oj → j ≠ i → slotV oj.dst (a.put o.dst v) = slotV oj.dst a := fun v j oj hoj hne => by
      cases hjt : oj.dst with
      | none => rfl
      | some t =>
        refine put_getD_other fun hd => hne ?_
        exact ((formR_spec hf).2 i j o oj t hol hoj hd hjt).symm
    unfold wpOp
    simp only [ho]
    by_cases hsk : sk i = true
    · rw [if_pos hsk] at h1
      rw [if_neg (by rw [h1]; decide)]
      refine ih _ _ _ (by simpa using hs) (by have := left_set hs hun; omega) ⟨hok.c, by rw [put_defers]; exact hok.defers, by rw [put_size]; exact hok.size, hold _, fun j oj hoj hsj hlj => ?_⟩
      rcases getD_set_cases hlj with rfl | hlj
      · rw [hsk] at hsj; cases hsj
      · have hne : j ≠ i := fun e => by subst e; rw [hsk] at hsj; cases hsj
        rw [hother _ j oj hoj hne]
        exact hok.val j oj hoj hsj hlj
    · rw [if_neg hsk] at h1
      rw [if_pos h1.1]
      refine .inl (Oper.wp_mono ?_ h1.2)
      rintro a' w' ⟨v, rfl, hb, hv⟩
      refine ih _ _ _ (by simpa using hs) (by have := left_set hs hun; omega) ⟨hC _ _ hb hok.c, by rw [put_defers]; exact hok.defers, by rw [put_size]; exact hok.size, hold _, fun j oj hoj hsj hlj => ?_⟩
      by_cases hji : j = i
      · subst hji
        obtain rfl : o = oj := by rw [hol] at hoj; exact Option.some.inj hoj
        have hsv : slotV o.dst (a.put o.dst v) = kept o.dst v := by
          cases hd : o.dst with
          | none => rfl
          | some t => exact put_getD_same (by rw [hok.size]; exact hlt t hd)
        rw [hsv]
        exact hv
      · rcases getD_set_cases hlj with h | hlj
        · exact (hji h).elim
        · rw [hother _ j oj hoj hji]
          exact hV j _ w w' hb (hok.val j oj hoj hsj hlj)
theorem wp_region_inr {id : Nat} {l : List Oper} {a0 : Act} {w : World} (hm : P.follows .mixedOrders = true) (R : World → World → Prop) (C : World → Prop) (V : Nat → Value → World → Prop) (sk : Nat → Bool) (hf : formR l a0.tmps.size = true)
    (hC : ∀ w w', R w w' → C w → C w') (hV : ∀ i v w w', R w w' → V i v w → V i v w') (h0 : C w.drew)
    (hstep : StepsR P Q R C V sk l a0 0 l)
    (hend : ∀ a w, C w → a.defers = a0.defers → a.tmps.size = a0.tmps.size → (∀ t, freeB l t = true → a.tmps.getD t undef = a0.tmps.getD t undef) →
      (∀ (i : Nat) (o : Oper), l[i]? = some o → sk i = false → V i (slotV o.dst a) w) → Q .normal a w) : (Code.region id l.toArray true).wp P Q a0 w := by
  refine wp_region_any hm ?_
  have hn : (Array.replicate l.toArray.size false).size = l.length := by simp
  refine wpAny_inr hf hC hV hstep hend _ _ _ _ hn ?_ ⟨h0, rfl, rfl, fun t _ => rfl, fun i o ho _ hl => ?_⟩
  · have := List.length_filter_le (fun i => !(Array.replicate l.toArray.size false).getD i true) (List.range l.length)
    unfold left
    simpa using this
  · exfalso
    have hi := (List.getElem?_eq_some_iff.1 ho).1
    simp [Array.getD, hi] at hl
end
section
def setN (W : World) (g : Nat) : Nat → List Value → World
  | _, [] => W
  | o, v :: r => setN (W.setCell ⟨g, o, none⟩ v) g (o + 1) r
def putN : List Value → Nat → List Value → List Value
  | cs, _, [] => cs
  | cs, o, v :: r => putN (cs.set o v) (o + 1) r
theorem putN_length : ∀ (vs cs : List Value) (o : Nat), (putN cs o vs).length = cs.length
  | [], _, _ => rfl
  | v :: r, cs, o => by rw [putN, putN_length r]; simp
theorem Bx.setN {g : Nat} {t : TypeId} : ∀ (vs : List Value) {W : World} {cs : List Value} (o : Nat), Bx W g t cs → Bx (setN W g o vs) g t (putN cs o vs)
  | [], _, _, _, h => h
  | v :: r, _, _, o, h => Bx.setN r (o + 1) (h.set o v)
theorem KeptR.setN {g : Nat} {w : World} : ∀ (vs : List Value) {W : World} (o : Nat), KeptR (some g) w W → KeptR (some g) w (setN W g o vs)
  | [], _, _, h => h
  | v :: r, W, o, h => KeptR.setN r (o + 1) ⟨by simpa using h.1, fun k h1 h2 => (Below.heap_setCell W ⟨g, o, none⟩ v k (fun e => h2 (congrArg some e))).trans (h.2 k h1 h2)⟩
theorem Below.setN {B g : Nat} {w : World} (hg : B ≤ g) : ∀ (vs : List Value) {W : World} (o : Nat), Below B w W → Below B w (setN W g o vs)
  | [], _, _, h => h
  | v :: r, _, o, h => Below.setN hg r (o + 1) (h.setCell hg v)
def RegW (B g : Nat) (t : TypeId) (n : Nat) (D : Nat → World → Prop) (w W : World) : Prop :=
  Below B w W ∧ KeptR (some g) w W ∧ ((∃ cs : List Value, cs.length = n ∧ Bx w g t cs) → ∃ cs : List Value, cs.length = n ∧ Bx W g t cs) ∧ ∀ k, D k w → D k W
variable {B g : Nat} {t : TypeId} {n : Nat} {D : Nat → World → Prop} {w W W' : World}
theorem RegW.refl : RegW B g t n D w w := ⟨Below.refl _ _, KeptR.refl _ _, id, fun _ => id⟩
theorem RegW.call (hD : ∀ k w W, Below w.heap.size w W → D k w → D k W) (hB : B ≤ w.heap.size) (hb : Below w.heap.size w W) : RegW B g t n D w W :=
  ⟨hb.mono hB, (KeptR.refl _ _).call hb, fun ⟨cs, h1, h2⟩ => ⟨cs, h1, h2.call hb⟩, fun k => hD k _ _ hb⟩
theorem RegW.store (hg : B ≤ g) (o : Nat) (vs : List Value) (hD : ∀ k, D k w → D k (Go.Proofs.YtflmjdjkfognjaaGreat.setN w g o vs)) : RegW B g t n D w (Go.Proofs.YtflmjdjkfognjaaGreat.setN w g o vs) :=
  ⟨Below.setN hg vs o (Below.refl _ _), KeptR.setN vs o (KeptR.refl _ _), fun ⟨cs, h1, h2⟩ => ⟨_, by rw [putN_length]; exact h1, h2.setN vs o⟩, hD⟩
end
end Go.Proofs.YtflmjdjkfognjaaGreat
namespace Go.Proofs.YtflmjdjkfognjaaGreat
open Go Go.RowKit
set_option linter.unusedVariables false
section
variable {P : Program} {Q : Exit → Act → World → Prop} {n l₀ : Nat}
def plainOp (o : Oper) : Bool := match o.op with
  | .defer _ => false
  | _ => true
theorem plainOp_ne {o : Oper} (h : plainOp o = true) : ∀ c, o.op ≠ .defer c := fun c e => by simp [plainOp, e] at h
theorem callsIn_round {f : FuncId} {args : Array Value} {w : World} {R : Ending → World → Prop} (h : Calls P f args w R) : CallsIn (Fence.wide.inRound l₀) n P f args w R := CallsIn.inRound l₀ (callsIn_wide.2 h)
theorem oper_in {o : Oper} {a : Act} {w : World} {K : Act → World → Prop} (hd : plainOp o = true) (h : o.wp P a w K Q) : o.wpIn (Fence.wide.inRound l₀) n P a w K Q := by
  refine ⟨fun _ _ => trivial, ?_⟩
  have e : o.semAt (Fence.wide.inRound l₀).round a.eval = execOp a.eval o := Oper.semAt_some l₀ _ o (plainOp_ne hd)
  rw [e]
  unfold Oper.wp at h
  generalize (execOp a.eval o).run P w = r at *
  cases r with
  | ok x w' =>
    cases x with
    | value v => exact h
    | skip => exact h
    | defer d => exact h
    | enter f args => exact ⟨fun hh => (by cases hh), callsIn_round h⟩
    | row r args => exact ⟨fun hh => (by cases hh), fun c cs _ => let ⟨v, w'', hR, hs⟩ := h c cs; ⟨v, w'', hR, stepsIn_wide.2 hs⟩⟩
    | _ => exact h.elim
  | halt x w' =>
    cases x <;> exact h
theorem plainOps_at {l : List Oper} (h : l.all plainOp = true) {i : Nat} {o : Oper} (ho : l[i]? = some o) : plainOp o = true := List.all_eq_true.1 h o (List.mem_of_getElem? ho)
theorem wpAny_in {l : List Oper} (hd : l.all plainOp = true) (hQ : ¬ LetsOut Q) : ∀ (fuel : Nat) (listed : Array Bool) (a : Act) (w : World), wpAny P .any l.toArray Q fuel listed a w → wpAnyIn (Fence.wide.inRound l₀) n P .any l.toArray Q fuel listed a w
  | 0, listed, a, w, h => h
  | fuel + 1, listed, a, w, h => by
    refine ⟨h.1, fun i hi => ?_⟩
    have h2 := h.2 i hi
    unfold wpOp at h2
    unfold wpOpIn
    cases ho : l.toArray[i]? with
    | none =>
      rw [ho] at h2
      exact wpAny_in hd hQ fuel _ a w h2
    | some o =>
      rw [ho] at h2
      simp only at h2 ⊢
      by_cases hw : Region.wanted o (yielded l.toArray a.tmps) = true
      · rw [if_pos hw] at h2 ⊢
        rcases h2 with h2 | ⟨_, h2⟩
        · exact oper_in (plainOps_at hd (by simpa using ho)) (Oper.wp_mono (fun a w => wpAny_in hd hQ fuel _ a w) h2)
        · exact (hQ h2).elim
      · rw [if_neg hw] at h2 ⊢
        exact ⟨fun _ _ => trivial, wpAny_in hd hQ fuel _ _ w h2⟩
theorem wpIn_region_inr {id : Nat} {l : List Oper} {a0 : Act} {w : World} (hQ : ¬ LetsOut Q) (hd : l.all plainOp = true) (hm : P.follows .mixedOrders = true) (R : World → World → Prop) (C : World → Prop) (V : Nat → Value → World → Prop) (sk : Nat → Bool) (hf : formR l a0.tmps.size = true)
    (hC : ∀ w w', R w w' → C w → C w') (hV : ∀ i v w w', R w w' → V i v w → V i v w') (h0 : C w.drew)
    (hstep : StepsR P Q R C V sk l a0 0 l)
    (hend : ∀ a w, C w → a.defers = a0.defers → a.tmps.size = a0.tmps.size → (∀ t, freeB l t = true → a.tmps.getD t undef = a0.tmps.getD t undef) →
      (∀ (i : Nat) (o : Oper), l[i]? = some o → sk i = false → V i (slotV o.dst a) w) → Q .normal a w) : (Code.region id l.toArray true).wpIn (Fence.wide.inRound l₀) n P Q a0 w := by
  refine wpIn_region_any hm (wpAny_in hd hQ _ _ _ _ ?_)
  have hn : (Array.replicate l.toArray.size false).size = l.length := by simp
  refine wpAny_inr hf hC hV hstep hend _ _ _ _ hn ?_ ⟨h0, rfl, rfl, fun t _ => rfl, fun i o ho _ hl => ?_⟩
  · have := List.length_filter_le (fun i => !(Array.replicate l.toArray.size false).getD i true) (List.range l.length)
    unfold left
    simpa using this
  · exfalso
    have hi := (List.getElem?_eq_some_iff.1 ho).1
    simp [Array.getD, hi] at hl
end
end Go.Proofs.YtflmjdjkfognjaaGreat
namespace Go.Proofs.YtflmjdjkfognjaaGreat
open Go.RowKit
set_option linter.unusedVariables false
section
variable {P : Program} {Q : Exit → Act → World → Prop}
def depV (l : List Oper) (i : Nat) (a : Act) (k : Nat) : Value := match l[i]?, l[k]? with
  | some oi, some ok => if (oi.after.toList.any fun e => e.on == k && Region.binds .any e) = true then slotV ok.dst a else undef
  | _, _ => undef
def StepD (P : Program) (Q : Exit → Act → World → Prop) (R : World → World → Prop) (C : World → Prop) (V : Nat → Value → (Nat → Value) → World → Prop) (sk : Nat → Bool) (l : List Oper) (a0 : Act) (i : Nat) (o : Oper) : Prop :=
  ∀ a w, C w → a.tmps.size = a0.tmps.size → (∀ t, freeB l t = true → a.tmps.getD t undef = a0.tmps.getD t undef) →
    (∀ k, (o.after.toList.any fun e => e.on == k && Region.binds .any e) = true → sk k = false → ∀ (ok : Oper), l[k]? = some ok → V k (slotV ok.dst a) (depV l k a) w) →
    if sk i then Region.wanted o (yielded l.toArray a.tmps) = false
    else Region.wanted o (yielded l.toArray a.tmps) = true ∧ o.wp P a w (fun a' w' => ∃ v, a' = a.put o.dst v ∧ R w w' ∧ V i (kept o.dst v) (depV l i a) w') Q
def StepsD (P : Program) (Q : Exit → Act → World → Prop) (R : World → World → Prop) (C : World → Prop) (V : Nat → Value → (Nat → Value) → World → Prop) (sk : Nat → Bool) (l : List Oper) (a0 : Act) : Nat → List Oper → Prop
  | _, [] => True
  | i, o :: r => StepD P Q R C V sk l a0 i o ∧ StepsD P Q R C V sk l a0 (i + 1) r
theorem StepsD.at {R : World → World → Prop} {C : World → Prop} {V : Nat → Value → (Nat → Value) → World → Prop} {sk : Nat → Bool} {l : List Oper} {a0 : Act} : ∀ {i : Nat} {r : List Oper}, StepsD P Q R C V sk l a0 i r → ∀ {j : Nat} {o : Oper}, r[j]? = some o → StepD P Q R C V sk l a0 (i + j) o
  | i, [], _, j, o, h => by simp at h
  | i, x :: r, h, 0, o, ho => by
    have : x = o := by simpa using ho
    subst this; exact h.1
  | i, x :: r, h, j + 1, o, ho => by
    have := StepsD.at h.2 (j := j) (o := o) (by simpa using ho)
    rwa [Nat.add_assoc, Nat.add_comm 1 j] at this
theorem stepD_val {R : World → World → Prop} {V : Nat → Value → (Nat → Value) → World → Prop} {d : Nat → Value} {i : Nat} {o : Oper} {a : Act} {w : World} {v : Value} (hr : R w w) (hv : V i (kept o.dst v) d w) (h : ∀ K : Act → World → Prop, K (a.put o.dst v) w → o.wp P a w K Q) :
    o.wp P a w (fun a' w' => ∃ v, a' = a.put o.dst v ∧ R w w' ∧ V i (kept o.dst v) d w') Q := h _ ⟨v, rfl, hr, hv⟩
theorem stepD_call {R : World → World → Prop} {V : Nat → Value → (Nat → Value) → World → Prop} {d : Nat → Value} {i : Nat} {o : Oper} {a : Act} {w : World} {v : Value} (hr : ∀ w', Below w.heap.size w w' → R w w') (hv : ∀ w', V i (kept o.dst v) d w') (h : ∀ K : Act → World → Prop, (∀ w', Below w.heap.size w w' → K (a.put o.dst v) w') → o.wp P a w K Q) :
    o.wp P a w (fun a' w' => ∃ v, a' = a.put o.dst v ∧ R w w' ∧ V i (kept o.dst v) d w') Q := h _ fun w' hb => ⟨v, rfl, hr w' hb, hv w'⟩
theorem stepD_new {R : World → World → Prop} {V : Nat → Value → (Nat → Value) → World → Prop} {d : Nat → Value} {i : Nat} {o : Oper} {a : Act} {w w' : World} {v : Value} (hr : R w w') (hv : V i (kept o.dst v) d w') (h : ∀ K : Act → World → Prop, K (a.put o.dst v) w' → o.wp P a w K Q) :
    o.wp P a w (fun a' w' => ∃ v, a' = a.put o.dst v ∧ R w w' ∧ V i (kept o.dst v) d w') Q := h _ ⟨v, rfl, hr, hv⟩
structure OkayD (l : List Oper) (C : World → Prop) (V : Nat → Value → (Nat → Value) → World → Prop) (sk : Nat → Bool) (a0 : Act) (listed : Array Bool) (a : Act) (w : World) : Prop where
  c : C w
  defers : a.defers = a0.defers
  size : a.tmps.size = a0.tmps.size
  old : ∀ t, freeB l t = true → a.tmps.getD t undef = a0.tmps.getD t undef
  dn : ∀ (i : Nat) (o : Oper), l[i]? = some o → listed.getD i false = true → ∀ e ∈ o.after, Region.binds .any e = true → listed.getD e.on false = true
  val : ∀ (i : Nat) (o : Oper), l[i]? = some o → sk i = false → listed.getD i false = true → V i (slotV o.dst a) (depV l i a) w
theorem wpAny_ind {l : List Oper} {R : World → World → Prop} {C : World → Prop} {V : Nat → Value → (Nat → Value) → World → Prop} {sk : Nat → Bool} {a0 : Act} (hf : formR l a0.tmps.size = true)
    (hC : ∀ w w', R w w' → C w → C w') (hV : ∀ i v d w w', R w w' → V i v d w → V i v d w')
    (hstep : StepsD P Q R C V sk l a0 0 l)
    (hend : ∀ a w, C w → a.defers = a0.defers → a.tmps.size = a0.tmps.size → (∀ t, freeB l t = true → a.tmps.getD t undef = a0.tmps.getD t undef) →
      (∀ (i : Nat) (o : Oper), l[i]? = some o → sk i = false → V i (slotV o.dst a) (depV l i a) w) → Q .normal a w) :
    ∀ (fuel : Nat) (listed : Array Bool) (a : Act) (w : World), listed.size = l.length → left l.length listed ≤ fuel → OkayD l C V sk a0 listed a w → wpAny P .any l.toArray Q fuel listed a w := by
  have hfin : ∀ (listed : Array Bool) (a : Act) (w : World), listed.size = l.length → OkayD l C V sk a0 listed a w → Region.ready .any l.toArray listed = [] → Q .normal a w := fun listed a w hs hok hr =>
    hend a w hok.c hok.defers hok.size hok.old fun i o ho hsk => hok.val i o ho hsk (readyR_nil hf hs hr i (List.getElem?_eq_some_iff.1 ho).1)
  intro fuel
  induction fuel with
  | zero =>
    intro listed a w hs hle hok
    have hr : Region.ready .any l.toArray listed = [] := by
      rcases hq : Region.ready .any l.toArray listed with _ | ⟨i, r⟩
      · rfl
      · have hi : i ∈ Region.ready .any l.toArray listed := by rw [hq]; exact List.mem_cons_self ..
        have := left_set hs (mem_ready.1 hi).1
        omega
    exact ⟨hr, hfin listed a w hs hok hr⟩
  | succ fuel ih =>
    intro listed a w hs hle hok
    refine ⟨hfin listed a w hs hok, fun i hi => ?_⟩
    obtain ⟨hun, o, ho, hall⟩ := mem_ready.1 hi
    have hol : l[i]? = some o := by simpa using ho
    obtain ⟨_, hlt⟩ := (formR_spec hf).1 i o hol
    have hst := hstep.at hol
    rw [Nat.zero_add] at hst
    have h1 := hst a w hok.c hok.size hok.old fun k hk hsk ok hkl => by
      rw [List.any_eq_true] at hk
      obtain ⟨e, he, hb⟩ := hk
      rw [Bool.and_eq_true] at hb
      have hek : e.on = k := by simpa using hb.1
      exact hok.val k ok hkl hsk (by rw [← hek]; exact hall e (Array.mem_toList_iff.1 he) hb.2)
    have hold : ∀ v, ∀ t, freeB l t = true → (a.put o.dst v).tmps.getD t undef = a0.tmps.getD t undef := fun v t ht => by
      have hne : o.dst ≠ some t := by
        have := List.all_eq_true.1 ht o (List.mem_of_getElem? hol)
        simpa using this
      rw [put_getD_other hne]; exact hok.old t ht
    have hother : ∀ (v : Value) (j : Nat) (oj : Oper), l[j]? = some oj → j ≠ i → slotV oj.dst (a.put o.dst v) = slotV oj.dst a := fun v j oj hoj hne => by
      cases hjt : oj.dst with
      | none => rfl
      | some t =>
        refine put_getD_other fun hd => hne ?_
        exact ((formR_spec hf).2 i j o oj t hol hoj hd hjt).symm
    have hlisted : ∀ k, listed.getD k false = true → k ≠ i := fun k hk e => by
      subst e
      have hil : k < listed.size := by rw [hs]; exact (List.getElem?_eq_some_iff.1 hol).1
      simp only [Array.getD, hil, dif_pos] at hun hk
      rw [hun] at hk; cases hk
    have hset : ∀ k, listed.getD k false = true → (listed.setIfInBounds i true).getD k false = true := fun k hk => by
      rw [getD_set_ne false (Ne.symm (hlisted k hk))]; exact hk
    have hdn : ∀ (j : Nat) (oj : Oper), l[j]? = some oj → (listed.setIfInBounds i true).getD j false = true → ∀ e ∈ oj.after, Region.binds .any e = true → (listed.setIfInBounds i true).getD e.on false = true := fun j oj hoj hlj e he hbi => by
      rcases getD_set_cases hlj with rfl | hlj
      · obtain rfl : o = oj := by rw [hol] at hoj; exact Option.some.inj hoj
        exact hset _ (hall e he hbi)
      · exact hset _ (hok.dn j oj hoj hlj e he hbi)
    have hdv : ∀ (v : Value) (j : Nat) (oj : Oper), l[j]? = some oj → (listed.setIfInBounds i true).getD j false = true → depV l j (a.put o.dst v) = depV l j a := fun v j oj hoj hlj => by
      funext k
      unfold depV
      rw [hoj]
      cases hk : l[k]? with
      | none => rfl
      | some ok =>
        simp only
        by_cases hedge : (oj.after.toList.any fun e => e.on == k && Region.binds .any e) = true
        · rw [if_pos hedge, if_pos hedge]
          refine hother v k ok hk ?_
          rw [List.any_eq_true] at hedge
          obtain ⟨e, he, hb⟩ := hedge
          rw [Bool.and_eq_true] at hb
          have hek : e.on = k := by simpa using hb.1
          rw [← hek]
          rcases getD_set_cases hlj with rfl | hlj
          · obtain rfl : o = oj := by rw [hol] at hoj; exact Option.some.inj hoj
            exact hlisted _ (hall e (Array.mem_toList_iff.1 he) hb.2)
          · exact hlisted _ (hok.dn j oj hoj hlj e (Array.mem_toList_iff.1 he) hb.2)
        · rw [if_neg hedge, if_neg hedge]
    unfold wpOp
    simp only [ho]
    by_cases hsk : sk i = true
    · rw [if_pos hsk] at h1
      rw [if_neg (by rw [h1]; decide)]
      refine ih _ _ _ (by simpa using hs) (by have := left_set hs hun; omega) ⟨hok.c, by rw [put_defers]; exact hok.defers, by rw [put_size]; exact hok.size, hold _, hdn, fun j oj hoj hsj hlj => ?_⟩
      rw [hdv _ j oj hoj hlj]
      rcases getD_set_cases hlj with rfl | hlj
      · rw [hsk] at hsj; cases hsj
      · have hne : j ≠ i := fun e => by subst e; rw [hsk] at hsj; cases hsj
        rw [hother _ j oj hoj hne]
        exact hok.val j oj hoj hsj hlj
    · rw [if_neg hsk] at h1
      rw [if_pos h1.1]
      refine .inl (Oper.wp_mono ?_ h1.2)
      rintro a' w' ⟨v, rfl, hb, hv⟩
      refine ih _ _ _ (by simpa using hs) (by have := left_set hs hun; omega) ⟨hC _ _ hb hok.c, by rw [put_defers]; exact hok.defers, by rw [put_size]; exact hok.size, hold _, hdn, fun j oj hoj hsj hlj => ?_⟩
      rw [hdv _ j oj hoj hlj]
      by_cases hji : j = i
      · subst hji
        obtain rfl : o = oj := by rw [hol] at hoj; exact Option.some.inj hoj
        have hsv : slotV o.dst (a.put o.dst v) = kept o.dst v := by
          cases hd : o.dst with
          | none => rfl
          | some t => exact put_getD_same (by rw [hok.size]; exact hlt t hd)
        rw [hsv]
        exact hv
      · rcases getD_set_cases hlj with h | hlj
        · exact (hji h).elim
        · rw [hother _ j oj hoj hji]
          exact hV j _ _ w w' hb (hok.val j oj hoj hsj hlj)
theorem wp_region_ind {id : Nat} {l : List Oper} {a0 : Act} {w : World} (hm : P.follows .mixedOrders = true) (R : World → World → Prop) (C : World → Prop) (V : Nat → Value → (Nat → Value) → World → Prop) (sk : Nat → Bool) (hf : formR l a0.tmps.size = true)
    (hC : ∀ w w', R w w' → C w → C w') (hV : ∀ i v d w w', R w w' → V i v d w → V i v d w') (h0 : C w.drew)
    (hstep : StepsD P Q R C V sk l a0 0 l)
    (hend : ∀ a w, C w → a.defers = a0.defers → a.tmps.size = a0.tmps.size → (∀ t, freeB l t = true → a.tmps.getD t undef = a0.tmps.getD t undef) →
      (∀ (i : Nat) (o : Oper), l[i]? = some o → sk i = false → V i (slotV o.dst a) (depV l i a) w) → Q .normal a w) : (Code.region id l.toArray true).wp P Q a0 w := by
  refine wp_region_any hm ?_
  have hn : (Array.replicate l.toArray.size false).size = l.length := by simp
  refine wpAny_ind hf hC hV hstep hend _ _ _ _ hn ?_ ⟨h0, rfl, rfl, fun t _ => rfl, fun i o ho hl => ?_, fun i o ho _ hl => ?_⟩
  · have := List.length_filter_le (fun i => !(Array.replicate l.toArray.size false).getD i true) (List.range l.length)
    unfold left
    simpa using this
  · exfalso
    have hi := (List.getElem?_eq_some_iff.1 ho).1
    simp [Array.getD, hi] at hl
  · exfalso
    have hi := (List.getElem?_eq_some_iff.1 ho).1
    simp [Array.getD, hi] at hl
end
section
variable {B : Nat} {t : TypeId} {cs0 : List Value} {w W : World}
theorem putN_all : ∀ (vs pre : List Value) (cs : List Value), cs.length = vs.length → putN (pre ++ cs) pre.length vs = pre ++ vs
  | [], pre, cs, h => by
    have : cs = [] := List.length_eq_zero_iff.1 h
    subst this; rfl
  | v :: r, pre, [], h => by simp at h
  | v :: r, pre, c :: cs, h => by
    have e : (pre ++ c :: cs).set pre.length v = (pre ++ [v]) ++ cs := by
      rw [List.set_append_right _ _ (Nat.le_refl _), Nat.sub_self]; simp
    rw [putN, e, show pre.length + 1 = (pre ++ [v]).length by simp, putN_all r (pre ++ [v]) cs (by simpa using h)]
    simp
theorem putN_eq {cs vs : List Value} (h : cs.length = vs.length) : putN cs 0 vs = vs := putN_all vs [] cs h
def RegN (B : Nat) (t : TypeId) (cs0 : List Value) (w W : World) : Prop :=
  Below B w W ∧ (∀ g, (∃ cs : List Value, cs.length = cs0.length ∧ Bx w g t cs) → ∃ cs : List Value, cs.length = cs0.length ∧ Bx W g t cs) ∧ ∀ g, Bx w g t cs0 → Bx W g t cs0
theorem RegN.refl : RegN B t cs0 w w := ⟨Below.refl _ _, fun _ => id, fun _ => id⟩
theorem RegN.call (hB : B ≤ w.heap.size) (hb : Below w.heap.size w W) : RegN B t cs0 w W :=
  ⟨hb.mono hB, fun _ ⟨cs, h1, h2⟩ => ⟨cs, h1, h2.call hb⟩, fun _ h => h.call hb⟩
theorem RegN.alloc (hB : B ≤ w.heap.size) (o : Obj) : RegN B t cs0 w (w.alloc o) := RegN.call hB ((Below.refl _ _).alloc (Nat.le_refl _) o)
theorem Bx.full {g : Nat} {cs : List Value} (h : Bx w g t cs) (hl : cs.length = cs0.length) : Bx (Go.Proofs.YtflmjdjkfognjaaGreat.setN w g 0 cs0) g t cs0 := by
  have := h.setN cs0 0
  rwa [putN_eq hl] at this
theorem Bx.setOther {g g' : Nat} {t' : TypeId} {cs vs : List Value} {o : Nat} (h : Bx w g' t' cs) (hne : g' ≠ g) : Bx (Go.Proofs.YtflmjdjkfognjaaGreat.setN w g o vs) g' t' cs :=
  ((KeptR.setN vs o (KeptR.refl (some g) w)).2 g' h.lt (fun e => hne (Option.some.inj e))).trans h
theorem RegN.store {g : Nat} (hg : B ≤ g) (ho : ∃ cs : List Value, cs.length = cs0.length ∧ Bx w g t cs) : RegN B t cs0 w (setN w g 0 cs0) := by
  obtain ⟨cs, h1, h2⟩ := ho
  refine ⟨Below.setN hg cs0 0 (Below.refl _ _), fun g' ⟨cs', h3, h4⟩ => ?_, fun g' h => ?_⟩
  · by_cases e : g' = g
    · subst e; exact ⟨_, rfl, h2.full h1⟩
    · exact ⟨_, h3, h4.setOther e⟩
  · by_cases e : g' = g
    · subst e; exact h2.full h1
    · exact h.setOther e
end
end Go.Proofs.YtflmjdjkfognjaaGreat
