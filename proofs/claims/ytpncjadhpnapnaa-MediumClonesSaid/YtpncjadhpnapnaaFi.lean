/- Chapter 12: the maps of a sector: made and stored to. -/
import Derived.Test.YtpncjadhpnapnaaFg
namespace Go.Proofs.Ytpncjadhpnapnaa.D12
open Go.RowKit Go.Maps C9
open D13 (RdI ixI)
set_option linter.unusedVariables false

theorem ErM.made (w : World) (f : Nat → Bool) (hf : ∀ k, f k = false) : ErM (w.alloc (.map #[] 0)) (some w.heap.size) f :=
  ⟨.map [], (World.ownsMap_made _ _ _ _).mono (by omega), fun x => by rw [hf]; simp [Maps.has]⟩
theorem ChM.made (w : World) (f : Nat → UInt8) (hf : ∀ k, f k = 0) : ChM (w.alloc (.map #[] 0)) (some w.heap.size) f :=
  ⟨.map [], (World.ownsMap_made _ _ _ _).mono (by omega), fun x h => by simp [Maps.has] at h, fun k _ => by rw [hf]; rfl⟩
theorem Med.put_self (M : Med) {i : Nat} (h : i < M.n) : M.put i (M.sec i) = M := by
  unfold Med.put Med.sec
  have : M.secs.set i (atD blank M.secs i) = M.secs := by
    apply List.ext_getElem?
    intro k
    rw [List.getElem?_set]
    split
    · rename_i e
      subst e
      have h' : i < M.secs.length := h
      simp [atD, h']
    · rfl
  rw [this]
section
variable {X R : Nat → Prop} {w w' : World} {g : Nat} {L : Lay} {M : Med}
theorem MedC.newMap (h : MedC w g L M X R) {i : Nat} (hi : i < L.S.length) (p : Bool) (hp : (atD sm0 L.S i).bk p = none) :
    ∃ L2 X2, MedC ((w.alloc (.map #[] 0)).setCell ⟨L.gs, i * 5 + (if p = true then 3 else 4), none⟩ (.map (some w.heap.size))) g L2 M X2 R ∧ L2.gs = L.gs ∧ L2.S.length = L.S.length ∧ (atD sm0 L2.S i).bk p = some w.heap.size ∧ (atD sm0 L2.S i).bk (!p) = (atD sm0 L.S i).bk (!p) ∧
      Ch X R X2 R w ((w.alloc (.map #[] 0)).setCell ⟨L.gs, i * 5 + (if p = true then 3 else 4), none⟩ (.map (some w.heap.size))) := by
  have ha := (Below.refl w.heap.size w).alloc (Nat.le_refl _) (.map #[] 0)
  have h1 := h.below ha
  have hn : i < M.n := by rw [← h.n]; exact hi
  have hm := fun q => h1.maps i q hi
  have hs := h.at_ i
  have hXl : ∀ b, X b → b ≠ w.heap.size := fun b hb e => by have := h.lt b (.inl hb); omega
  have hRl : ∀ b, R b → b ≠ w.heap.size := fun b hb e => by have := h.lt b (.inr hb); omega
  have hbl : ∀ q b, (atD sm0 L.S i).bk q = some b → b ≠ w.heap.size := fun q b hb => hXl b (h.xm i q b hi hb)
  have hsz : w.heap.size < (w.alloc (.map #[] 0)).heap.size := by simp
  generalize hxx : atD sm0 L.S i = x at *
  have hself : M.put i x.s = M := by rw [hs]; exact Med.put_self M hn
  have hcx : ∀ (X2 : Nat → Prop) (a : Addr) (u : Value), a.block = L.gs → (∀ b, X2 b → X b ∨ w.heap.size ≤ b) → Ch X R X2 R w ((w.alloc (.map #[] 0)).setCell a u) := fun X2 a u hab hX2 =>
    ⟨rfl, rfl, rfl, by simp, fun b hb hX => (Below.heap_setCell (w.alloc (.map #[] 0)) a u b fun e => hX (by rw [e, hab]; exact h.xs)).trans (ha.block b hb), hX2, fun _ h => .inl h⟩
  cases p with
  | true =>
    have he : x.e = none := hp
    have he0 : ErM (w.alloc (.map #[] 0)) none x.s.er := by have := hm true; unfold SM.W at this; rw [if_pos rfl, he] at this; exact this
    have k := h1.store hi (j := 3) (by decide) (.map (some w.heap.size)) { x with e := some w.heap.size } (by rw [hxx]; rfl) (fun q => by cases q with
      | true => exact ErM.made w _ he0
      | false => exact hm false) (fun q b hb => by
        rw [hxx]
        cases q with
        | true => right; obtain rfl : w.heap.size = b := Option.some.inj hb; exact ⟨fun h2 => hXl _ h2 rfl, fun h2 => hRl _ h2 rfl, hsz⟩
        | false => left; exact hb) (fun b h2 h3 => by obtain rfl : w.heap.size = b := Option.some.inj h2; exact hbl false _ h3 rfl)
    rw [show ({ x with e := some w.heap.size } : SM).s = x.s from rfl, hself] at k
    refine ⟨_, _, k, rfl, by simp, ?_, ?_, hcx _ _ _ rfl ?_⟩
    · simp only [atD_set_eq _ _ _ hi]; rfl
    · simp only [atD_set_eq _ _ _ hi]; rfl
    · rintro b (h2 | h2 | h2)
      · exact .inl h2
      · exact .inr (by have := Option.some.inj h2; omega)
      · exact .inl (h.xm i false b hi (by rw [hxx]; exact h2))
  | false =>
    have he : x.c = none := hp
    have he0 : ChM (w.alloc (.map #[] 0)) none x.s.ch := by have := hm false; unfold SM.W at this; rw [if_neg (by decide), he] at this; exact this
    have k := h1.store hi (j := 4) (by decide) (.map (some w.heap.size)) { x with c := some w.heap.size } (by rw [hxx]; rfl) (fun q => by cases q with
      | true => exact hm true
      | false => exact ChM.made w _ he0) (fun q b hb => by
        rw [hxx]
        cases q with
        | false => right; obtain rfl : w.heap.size = b := Option.some.inj hb; exact ⟨fun h2 => hXl _ h2 rfl, fun h2 => hRl _ h2 rfl, hsz⟩
        | true => left; exact hb) (fun b h2 h3 => by obtain rfl : w.heap.size = b := Option.some.inj h3; exact hbl true _ h2 rfl)
    rw [show ({ x with c := some w.heap.size } : SM).s = x.s from rfl, hself] at k
    refine ⟨_, _, k, rfl, by simp, ?_, ?_, hcx _ _ _ rfl ?_⟩
    · simp only [atD_set_eq _ _ _ hi]; rfl
    · simp only [atD_set_eq _ _ _ hi]; rfl
    · rintro b (h2 | h2 | h2)
      · exact .inl h2
      · exact .inl (h.xm i true b hi (by rw [hxx]; exact h2))
      · exact .inr (by have := Option.some.inj h2; omega)
end
theorem lawI12 : Keyed Try.prog 3 := int_keyed Try.underlying3
theorem wfI12 {x : Int} (h0 : 0 ≤ x) (h1 : x < 2352) : (Lit.int .i64 x).wf = true := by simp [Lit.wf, IntKind.min, IntKind.max, IntKind.signed, IntKind.bits]; omega
theorem wfU12 (x : UInt8) : (Lit.int .u8 x.toNat).wf = true := by have := x.toNat_lt; simp [Lit.wf, IntKind.min, IntKind.max, IntKind.signed, IntKind.bits]; omega
theorem fun_zero : ∀ w, (zeroValue 5).run Try.prog w = .ok (.int .u8 0) w := fun _ => by kernel_rfl
/-- 'm[x] = true' -/
theorem wpList_erPut {w : World} {ops : Array Oper} {rest : List Oper} {o : Oper} {a : Act} {Q : Exit → Act → World → Prop}
    (hg : o.guard = none) (m x v : Operand) (hop : o.op = Op.mapUpdate 98 m x v) {b : Nat} {f : Nat → Bool} (hown : ErM w (some b) f) (hm : a.eval m = .map (some b)) {X : Int} (hx : a.eval x = .int .i64 X) (hv : a.eval v = .bool true)
    (h0 : 0 ≤ X) (h1 : X < 2352) (hf : ∀ k, f k = true → k < 2352)
    (hK : ∀ w', ErM w' (some b) (fun k : Nat => if (k : Int) = X then true else f k) → w.grownBy w' (some b) → wpList Try.prog ops Q rest (a.put o.dst undef) w') : wpList Try.prog ops Q (o :: rest) a w := by
  obtain ⟨D, hown, hh⟩ := hown
  refine wpList_mapUpdate_own _ hg m x v 98 hop 3 4 lawI12 Try.underlying98 _ b 2352 D hm hown (by unfold maxLen; omega) _ _ _ hx hv (keyOf_int_mk Try.underlying3 (wfI12 h0 h1)) _ [] (plainElem_bool Try.underlying4 true) ?_
  intro w' ho hgr
  have hput : ∀ y : Int, Maps.has (D.put (.int .i64 X) (.lit (.bool true))) (.int .i64 y) = (decide (0 ≤ y) && (if ((y.toNat : Nat) : Int) = X then true else f y.toNat)) := fun y => by
    by_cases e : y = X
    · subst e
      rw [has_put_same hown.isMap (by trivial)]
      have e1 : ((y.toNat : Nat) : Int) = y := by omega
      rw [if_pos e1, decide_eq_true h0]
      rfl
    · rw [has_put_other (by simpa using e), hh y]
      by_cases h2 : 0 ≤ y
      · rw [if_neg (by omega)]
      · rw [decide_eq_false h2]
        rfl
  refine hK w' ⟨_, Mp.tight ho fun y hy => ?_, hput⟩ hgr
  rw [hput y] at hy
  simp only [Bool.and_eq_true, decide_eq_true_eq] at hy
  obtain ⟨h2, h3⟩ := hy
  split at h3
  · omega
  · have := hf _ h3
    omega
/-- 'm[x]' of the changed bytes -/
theorem ChM.run {w : World} {b : Nat} {f : Nat → UInt8} (h : ChM w (some b) f) (x : Int) (h0 : 0 ≤ x) (h1 : x < 2352) :
    (Instr.lookup 99 (.map (some b)) (.int .i64 x) false).run Try.prog w = .ok (.int .u8 (f x.toNat).toNat) w := by
  obtain ⟨D, hown, _, hf⟩ := h
  obtain ⟨v, ps, hrun, hv⟩ := hown.lookup lawI12 Try.underlying99 (z := .int .u8 0) (fun_zero w) (plainElem_int Try.underlying5 (a := 0) (by decide)) (keyOf_int_mk Try.underlying3 (wfI12 h0 h1))
  obtain ⟨c, rfl, hc, _⟩ := plainElem_int_inv Try.underlying5 hv
  simp only [Prod.mk.injEq] at hc
  have h2 := hf x.toNat (by omega)
  rw [show ((x.toNat : Nat) : Int) = x by omega] at h2
  rw [h2] at hc
  have : c = (f x.toNat).toNat := by simpa using hc.1.symm
  rw [hrun, this]
/-- 'm[x] = v' of the changed bytes -/
theorem wpList_chPut {w : World} {ops : Array Oper} {rest : List Oper} {o : Oper} {a : Act} {Q : Exit → Act → World → Prop}
    (hg : o.guard = none) (m x v : Operand) (hop : o.op = Op.mapUpdate 99 m x v) {b : Nat} {f : Nat → UInt8} (hown : ChM w (some b) f) (hm : a.eval m = .map (some b)) {X : Int} (hx : a.eval x = .int .i64 X) (V : UInt8) (hv : a.eval v = .int .u8 V.toNat)
    (h0 : 0 ≤ X) (h1 : X < 2352)
    (hK : ∀ w', ChM w' (some b) (fun k : Nat => if (k : Int) = X then V else f k) → w.grownBy w' (some b) → wpList Try.prog ops Q rest (a.put o.dst undef) w') : wpList Try.prog ops Q (o :: rest) a w := by
  obtain ⟨D, hown, hb, hh⟩ := hown
  refine wpList_mapUpdate_own _ hg m x v 99 hop 3 5 lawI12 Try.underlying99 _ b 2352 D hm hown (by unfold maxLen; omega) _ _ _ hx hv (keyOf_int_mk Try.underlying3 (wfI12 h0 h1)) _ [] (plainElem_int Try.underlying5 (wfU12 V)) ?_
  intro w' ho hgr
  have hbd : ∀ y : Int, Maps.has (D.put (.int .i64 X) (.lit (.int .u8 V.toNat))) (.int .i64 y) = true → 0 ≤ y ∧ y < 2352 := fun y hy => by
    by_cases e : y = X
    · subst e; exact ⟨h0, h1⟩
    · rw [has_put_other (by simpa using e)] at hy
      exact hb y hy
  refine hK w' ⟨_, Mp.tight ho hbd, hbd, fun k hk => ?_⟩ hgr
  show _ = DataW.lit (.int .u8 ((if (k : Int) = X then V else f k).toNat : Nat))
  by_cases e : (k : Int) = X
  · subst e
    rw [if_pos rfl, atKey_put_same hown.isMap (by trivial)]
  · rw [if_neg e, atKey_put_other (by simpa using e)]
    exact hh k hk
section
variable {X R : Nat → Prop} {w w' : World} {g : Nat} {L : Lay} {M : Med}
/-- the map of the erased offsets of a sector has turned -/
theorem MedC.erStep (h : MedC w g L M X R) {i b : Nat} (hi : i < L.S.length) (he : (atD sm0 L.S i).e = some b) (hg : w.grownBy w' (some b)) {f : Nat → Bool} (hm : ErM w' (some b) f) :
    ∃ L2, MedC w' g L2 (M.put i { M.sec i with er := f }) X R ∧ L2.gs = L.gs ∧ L2.S.length = L.S.length ∧ (atD sm0 L2.S i).e = some b ∧ (atD sm0 L2.S i).c = (atD sm0 L.S i).c ∧ Ch X R X R w w' := by
  have hs := h.at_ i
  have k := h.grown hi (p := true) he hg { (atD sm0 L.S i) with s := { (atD sm0 L.S i).s with er := f } } rfl rfl rfl (by show ErM w' (atD sm0 L.S i).e f; rw [he]; exact hm) (h.maps i false hi)
  obtain ⟨k1, k2⟩ := k
  simp only [hs] at k1
  exact ⟨_, k1, rfl, by simp, by simp only [atD_set_eq _ _ _ hi]; exact he, by simp only [atD_set_eq _ _ _ hi], k2⟩
theorem MedC.chStep (h : MedC w g L M X R) {i b : Nat} (hi : i < L.S.length) (he : (atD sm0 L.S i).c = some b) (hg : w.grownBy w' (some b)) {f : Nat → UInt8} (hm : ChM w' (some b) f) :
    ∃ L2, MedC w' g L2 (M.put i { M.sec i with ch := f }) X R ∧ L2.gs = L.gs ∧ L2.S.length = L.S.length ∧ (atD sm0 L2.S i).c = some b ∧ (atD sm0 L2.S i).e = (atD sm0 L.S i).e ∧ Ch X R X R w w' := by
  have hs := h.at_ i
  have k := h.grown hi (p := false) he hg { (atD sm0 L.S i) with s := { (atD sm0 L.S i).s with ch := f } } rfl rfl rfl (by show ChM w' (atD sm0 L.S i).c f; rw [he]; exact hm) (h.maps i true hi)
  obtain ⟨k1, k2⟩ := k
  simp only [hs] at k1
  exact ⟨_, k1, rfl, by simp, by simp only [atD_set_eq _ _ _ hi]; exact he, by simp only [atD_set_eq _ _ _ hi], k2⟩
end
end Go.Proofs.Ytpncjadhpnapnaa.D12
