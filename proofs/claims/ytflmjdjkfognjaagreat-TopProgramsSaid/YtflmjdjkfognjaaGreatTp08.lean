/- Shaken out of XOwn XOpS XQd -/
import Derived.Test.YtflmjdjkfognjaaGreatTp07
import Derived.Lib.SmallJoins
import Derived.Test.YtflmjdjkfognjaaGreatChecked
import Derived.Test.YtflmjdjkfognjaaGreatTp01
import Derived.Laws.StructEq
import Derived.IntWalk
import Derived.Deep.Cut
import Derived.Deep.RegionHeld3
import Derived.Outline
namespace Go.Proofs.YtflmjdjkfognjaaGreat
open Go.RowKit
set_option linter.unusedVariables false
/-- the element 'i' of a list, or 'd' -/
def atD {α : Type} (d : α) (l : List α) (i : Nat) : α := (l[i]?).getD d
/-- the cells of a list of structs -/
def flD {α : Type} (D : α → List Value) (l : List α) : List Value := l.flatMap D
/-- a slice of structs that is only read -/
def RdD {α : Type} (d : α) (D : α → List Value) (sz : Nat) (w : World) (v : Value) (l : List α) : Prop := RdS w sz v l.length fun i => D (atD d l i)
section
variable {α : Type} {d : α} {D : α → List Value} {sz : Nat}
theorem atD_set_eq (l : List α) (x : α) (k : Nat) (h : k < l.length) : atD d (l.set k x) k = x := by simp [atD, h]
theorem atD_set_ne (l : List α) (x : α) (i k : Nat) (h : i ≠ k) : atD d (l.set k x) i = atD d l i := by simp [atD, List.getElem?_set_ne (Ne.symm h)]
theorem flD_eq (d : α) (l : List α) : (List.range l.length).flatMap (fun i => D (atD d l i)) = flD D l := by
  unfold flD
  have h : l = (List.range l.length).map (atD d l) := by
    apply List.ext_getElem
    · simp
    · intro i h1 h2
      simp [atD, h1]
  conv => rhs; rw [h]
  rw [List.flatMap_map]
theorem flD_append (l m : List α) : flD D (l ++ m) = flD D l ++ flD D m := by simp [flD]
theorem flD_single (x : α) : flD D [x] = D x := by simp [flD]
theorem flD_one (h : ∀ x, ∀ u ∈ D x, u.oneCell' = true) (l : List α) : ∀ u ∈ flD D l, u.oneCell' = true := by
  intro u hu
  simp only [flD, List.mem_flatMap] at hu
  obtain ⟨x, _, hu⟩ := hu
  exact h x u hu
theorem flD_length (hD : ∀ x, (D x).length = sz) (l : List α) : (flD D l).length = l.length * sz := by
  induction l with
  | nil => simp [flD]
  | cons x l ih =>
    have e : flD D (x :: l) = D x ++ flD D l := by simp [flD]
    rw [e, List.length_append, ih, hD, List.length_cons, Nat.succ_mul]; omega
theorem flD_get (hD : ∀ x, (D x).length = sz) (l : List α) (i j : Nat) (hi : i < l.length) (hj : j < sz) : (flD D l)[i * sz + j]? = (D (atD d l i))[j]? := by
  rw [← flD_eq d]; exact get_flat (fun _ => hD _) _ i j hi hj
/-- the cell 'j' of the element 'i' turns -/
theorem flD_set (hD : ∀ x, (D x).length = sz) (l : List α) (i j : Nat) (hi : i < l.length) (hj : j < sz) (v : Value) (x : α) (hx : D x = (D (atD d l i)).set j v) : (flD D l).set (i * sz + j) v = flD D (l.set i x) := by
  have hl : (l.set i x).length = l.length := by simp
  have hs : 0 < sz := by omega
  have hij : i * sz + j < l.length * sz := by
    have : (i + 1) * sz ≤ l.length * sz := Nat.mul_le_mul_right _ hi
    rw [Nat.succ_mul] at this; omega
  apply List.ext_getElem?
  intro k
  by_cases hk : k < l.length * sz
  · have e : k / sz * sz + k % sz = k := by rw [Nat.mul_comm]; exact Nat.div_add_mod k sz
    have hki : k / sz < l.length := Nat.div_lt_of_lt_mul (by rw [Nat.mul_comm]; exact hk)
    have hkj : k % sz < sz := Nat.mod_lt _ hs
    have h2 := flD_get (d := d) hD (l.set i x) (k / sz) (k % sz) (by rw [hl]; exact hki) hkj
    rw [e] at h2
    rw [h2, List.getElem?_set]
    by_cases h : i * sz + j = k
    · rw [if_pos h, if_pos (by rw [flD_length hD]; exact hij)]
      have h3 : k / sz = i := by rw [← h, Nat.mul_comm, Nat.mul_add_div hs, Nat.div_eq_of_lt hj, Nat.add_zero]
      have h4 : k % sz = j := by rw [← h, Nat.mul_comm, Nat.mul_add_mod, Nat.mod_eq_of_lt hj]
      rw [h3, h4, atD_set_eq _ _ _ hi, hx, List.getElem?_set, if_pos rfl, if_pos (by rw [hD]; exact hj)]
    · rw [if_neg h]
      have h1 := flD_get (d := d) hD l (k / sz) (k % sz) hki hkj
      rw [e] at h1
      rw [h1]
      by_cases h5 : k / sz = i
      · have h6 : j ≠ k % sz := fun h7 => h (by rw [h7, ← h5]; exact e)
        rw [h5, atD_set_eq _ _ _ hi, hx, List.getElem?_set, if_neg h6]
      · rw [atD_set_ne _ _ _ _ h5]
  · rw [List.getElem?_eq_none (by rw [List.length_set, flD_length hD]; omega), List.getElem?_eq_none (by rw [flD_length hD, hl]; omega)]
variable {w w' : World} {v : Value} {l : List α} {base e : Nat}
theorem RdD.form (h : RdD d D sz w v l) : ∃ a c, v = .slice a l.length c ∧ l.length ≤ c := RdS.form h
theorem RdD.keep (h : RdD d D sz w v l) (hb : Below w.heap.size w w') : RdD d D sz w' v l := RdS.keep h hb
theorem RdD.nil (w : World) : RdD d D sz w (.slice none 0 0) [] := RdS.nil _ _ _
theorem RdD.ofOwn (hD : ∀ x, (D x).length = sz) (h : w.ownsRow base e sz v l.length (flD D l)) : RdD d D sz w v l := by
  rw [← flD_eq d] at h
  exact RdS.ofOwn (fun _ => hD _) h
theorem RdD.reads (hD : ∀ x, (D x).length = sz) (h : RdD d D sz w v l) : Reads w sz v l.length (flD D l) := by
  have := RdS.reads (fun _ => hD _) h
  rwa [flD_eq] at this
/-- the cells of the element 'i', and its address -/
theorem RdD.at {a : Option Addr} {n c : Nat} (h : RdD d D sz w (.slice a n c) l) : ∃ b off, ∀ i, i < l.length → a = some ⟨b, off, none⟩ ∧ w.rangeAt b (off + i * sz) (D (atD d l i)) := by
  obtain ⟨a', c', b, off, hv, _, hcell⟩ := h
  injection hv with e1 e2 e3
  subst e1
  exact ⟨b, off, hcell⟩
theorem ownD_addr {n : Nat} {xs : List Value} (h : w.ownsRow base e sz v n xs) (hn : 0 < n) : ∃ g c, v = .slice (some ⟨g, 0, none⟩) n c ∧ base ≤ g ∧ g < w.heap.size := by
  rcases h.2 with ⟨_, h0⟩ | ⟨g, cap, cur, hv, hb, hg, _⟩
  · omega
  · exact ⟨g, cap, hv, hb, (Array.getElem?_eq_some_iff.1 hg).1⟩
theorem ownD_form {n : Nat} {xs : List Value} (h : w.ownsRow base e sz v n xs) : ∃ a c, v = .slice a n c := by
  rcases h.2 with ⟨rfl, h0⟩ | ⟨g, cap, cur, hv, hb, hg, _⟩
  · exact ⟨none, 0, by rw [h0]⟩
  · exact ⟨_, cap, hv⟩
theorem ownD_cells (hD : ∀ x, (D x).length = sz) {g n c : Nat} (h : w.ownsRow base e sz (.slice (some ⟨g, 0, none⟩) n c) n (flD D l)) (i : Nat) (hi : i < l.length) : w.rangeAt g (i * sz) (D (atD d l i)) := fun j u hu => by
  have hj : j < sz := by have := (List.getElem?_eq_some_iff.1 hu).1; rwa [hD] at this
  have hn : l.length * sz = n * sz := by have := h.1; rw [flD_length hD] at this; exact this
  have hij : i * sz + j < l.length * sz := by
    have : (i + 1) * sz ≤ l.length * sz := Nat.mul_le_mul_right _ hi
    rw [Nat.succ_mul] at this; omega
  rw [h.cellAt (i * sz + j) (by omega), flD_get (d := d) hD l i j hi hj]; exact hu
theorem ownD_fld (hD : ∀ x, (D x).length = sz) {g n c : Nat} (h : w.ownsRow base e sz (.slice (some ⟨g, 0, none⟩) n c) n (flD D l)) (i j : Nat) (hi : i < l.length) (hj : j < sz) (u : Value) (x : α) (hx : D x = (D (atD d l i)).set j u) :
    (w.setCell ⟨g, i * sz + j, none⟩ u).ownsRow base e sz (.slice (some ⟨g, 0, none⟩) n c) n (flD D (l.set i x)) := by
  have := (h.stored (i * sz + j) u).1
  rwa [flD_set hD l i j hi hj u x hx] at this
theorem ownD_far {n : Nat} {xs : List Value} (h : w.ownsRow base e sz v n xs) {p : Addr} (hp : p.block < base) (u : Value) : (w.setCell p u).ownsRow base e sz v n xs := by
  refine ⟨h.1, ?_⟩
  rcases h.2 with h | ⟨g, cap, cur, hv, hg, hh, r⟩
  · exact .inl h
  · exact .inr ⟨g, cap, cur, hv, hg, (Below.heap_setCell w p u g (by omega)).trans hh, r⟩
theorem ownD_keep {n : Nat} {xs : List Value} (h : w.ownsRow base e sz v n xs) (hb : Below w.heap.size w w') : w'.ownsRow base e sz v n xs := by
  refine ⟨h.1, ?_⟩
  rcases h.2 with h | ⟨g, cap, cur, hv, hg, hh, r⟩
  · exact .inl h
  · exact .inr ⟨g, cap, cur, hv, hg, (hb.block g (Array.getElem?_eq_some_iff.1 hh).1).trans hh, r⟩
theorem ownD_block {n : Nat} {xs : List Value} (h : w.ownsRow base e sz v n xs) : ∀ k, v.ownBlock = some k → base ≤ k := by
  intro k hk
  rcases h.2 with ⟨rfl, _⟩ | ⟨g, cap, cur, rfl, hb, _⟩
  · simp [Value.ownBlock] at hk
  · have : g = k := by simpa [Value.ownBlock] using hk
    omega
/-- a slice literal of one struct -/
theorem RdD.one (hs : 0 < sz) (hD : ∀ x, (D x).length = sz) (W : World) (t : TypeId) (y : α) : RdD d D sz (W.alloc (.cells (D y).toArray t)) (.slice (some ⟨W.heap.size, 0, none⟩) 1 1) [y] := by
  refine ⟨some ⟨W.heap.size, 0, none⟩, 1, W.heap.size, 0, rfl, Nat.le_refl _, fun i hi => ⟨rfl, fun j u hu => ?_⟩⟩
  obtain rfl : i = 0 := by simp at hi; omega
  replace hu : (D y)[j]? = some u := hu
  simp only [Nat.zero_mul, Nat.zero_add]
  exact (Bx.new W t (D y)).cell hu
theorem RdD.one' (hs : 0 < sz) (hD : ∀ x, (D x).length = sz) (W : World) (t : TypeId) (y : α) {g : Nat} (hg : W.heap.size = g) : RdD d D sz (W.alloc (.cells (D y).toArray t)) (.slice (some ⟨g, 0, none⟩) 1 1) [y] := hg ▸ RdD.one hs hD W t y
/-- 'append(v, s...)' at structs -/
theorem wpList_appD {P : Program} {ops : Array Oper} {rest : List Oper} {o : Oper} {a : Act} {Q : Exit → Act → World → Prop} (hg : o.guard = none) (s x : Operand) {t : TypeId}
    (hop : o.op = .call { callee := .builtin .append, args := #[s, x], argTypes := #[t, t] }) {e : TypeId} {z : Value} {bytes : Nat} (ht : P.underlying t = some (.slice e))
    (hi : (P.info? e).map (fun i => (i.zero, i.size, i.bytes)) = some (some z, sz, bytes)) (hzs : z.cells.size = sz) (hs0 : 0 < sz) (hD : ∀ x, (D x).length = sz) (hone : ∀ x, ∀ u ∈ D x, u.oneCell' = true)
    {n : Nat} (hown : w.ownsRow base e sz v n (flD D l)) (hv : a.eval s = v) {vs : Value} {m : List α} (hs : RdD d D sz w vs m) (hx : a.eval x = vs)
    (h63 : n + m.length ≤ maxLen) (hbytes : (n + m.length) * bytes ≤ 140737488355328) (hbase : base ≤ w.heap.size)
    (hK : ∀ v' w', w'.ownsRow base e sz v' (n + m.length) (flD D (l ++ m)) → w.grownBy w' v.ownBlock → wpList P ops Q rest (a.put o.dst v') w') : wpList P ops Q (o :: rest) a w := by
  obtain ⟨i0, hi, hz0, hz1, hz2⟩ := info_parts hi
  refine wpList_app hg s x hop ht hi hz0 hz1 hz2 hzs hs0 hown hv (hs.reads hD) hx (flD_one hone m) h63 hbytes hbase fun v' w' g1 g2 g3 => ?_
  rw [← flD_append] at g1
  exact hK v' w' g1 g2
end
end Go.Proofs.YtflmjdjkfognjaaGreat
namespace Go.Proofs.YtflmjdjkfognjaaGreat
open Go.ChangeShapes Go.WideShapes Go.RowKit Go.Deep
set_option linter.unusedVariables false
/-- an integer of 64 bits -/
def In64 (a : Int) : Prop := -9223372036854775808 ≤ a ∧ a ≤ 9223372036854775807
theorem in64_wf {a : Int} (h : (Lit.int .i64 a).wf = true) : In64 a := by
  simpa [Lit.wf, IntKind.min, IntKind.max, IntKind.signed, IntKind.bits, In64] using h
section
variable {H : Type} {enc : TypeId × Value → H} {P : Program} {w : World} {base b0 : Nat} {sp : Nat → Bool} {held : Bool}
/-- the reading of a field that is an int -/
theorem leaf_int {t : TypeId} {n : Nat} {cs : List Value} {y : Option (DataW H × List MemPlace)} (ht : P.underlying t = some (.int .i64)) (h : DataW.trod enc P w base sp held n t cs = y) (hy : y ≠ none) : ∃ a, cs = [.int .i64 a] ∧ In64 a := by
  cases y with
  | none => exact (hy rfl).elim
  | some y =>
    obtain ⟨a, h1, _, h2⟩ := DataW.trod_int ht h
    exact ⟨a, h1, in64_wf h2⟩
theorem leaf_bool {t : TypeId} {n : Nat} {cs : List Value} {y : Option (DataW H × List MemPlace)} (ht : P.underlying t = some .bool) (h : DataW.trod enc P w base sp held n t cs = y) (hy : y ≠ none) : ∃ a, cs = [.bool a] := by
  cases y with
  | none => exact (hy rfl).elim
  | some y =>
    obtain ⟨a, h1, _⟩ := DataW.trod_bool ht h
    exact ⟨a, h1⟩
theorem some_at {α : Type} {xs : List α} {n i : Nat} (h : xs.length = n) (hi : i < n) : xs[i]? ≠ none := by
  rw [List.getElem?_eq_getElem (by omega)]; simp
/-- a slice of structs that came in, each read by 'D' -/
theorem open_rdS {α : Type} (d : α) (D : α → List Value) (Q : α → Prop) {t e : TypeId} {sz : Nat} (ht : P.underlying t = some (.slice e)) (hC : P.cellsOf e = sz) (hs : 0 < sz)
    (hE : ∀ n cs x, DataW.trod enc P w base sp held n e cs = some x → ∃ a : α, cs = D a ∧ Q a) {n : Nat} {v : Value} {x : DataW H × List MemPlace} (hd : DataW.trod enc P w base sp held n t [v] = some x) :
    ∃ l : List α, RdS w sz v l.length (fun i => D ((l[i]?).getD d)) ∧ l.length ≤ 9223372036854775807 ∧ ∀ i, i < l.length → Q ((l[i]?).getD d) := by
  rcases open_slice ht hd with ⟨hcs, _⟩ | ⟨a, len, cap, m, n', Dd, Pl, hcs, hb, hl, hm, hmm, hx, hi⟩
  · simp only [List.cons.injEq, and_true] at hcs
    subst hcs
    exact ⟨[], RdS.nil _ _ _, by simp, fun i hi => by simp at hi⟩
  · simp only [List.cons.injEq, and_true] at hcs
    subst hcs
    rw [hC] at hi
    by_cases h0 : len = 0
    · subst h0
      exact ⟨[], RdS.empty _ _ _ _ _, by simp, fun i hi => by simp at hi⟩
    obtain ⟨ab, ao, asp⟩ := a
    have hle : len ≤ m := by rw [hmm]; split <;> omega
    obtain rfl : asp = none := by
      obtain ⟨cs', h1, h2⟩ := hi 0 (by omega)
      obtain ⟨_, hL, hc⟩ := World.cells?_some h1
      have e := hc 0 hs
      rw [List.getElem?_eq_getElem (by omega), Nat.zero_mul] at e
      cases asp with
      | none => rfl
      | some s => unfold World.cell? at e; split at e <;> simp [Addr.add] at e
    have key : ∀ i, ∃ z : α, i < len → Q z ∧ w.rangeAt ab (ao + i * sz) (D z) := fun i => by
      by_cases h : i < len
      · obtain ⟨cs', h1, h2⟩ := hi i (by omega)
        obtain ⟨z, rfl, hq⟩ := hE _ _ _ h2
        obtain ⟨_, hL, hc⟩ := World.cells?_some h1
        refine ⟨z, fun _ => ⟨hq, fun j u hu => ?_⟩⟩
        have hj : j < sz := by have := (List.getElem?_eq_some_iff.1 hu).1; omega
        have e := hc j hj
        rw [hu, Addr.add_lit, Addr.add_lit] at e
        exact e
      · exact ⟨d, fun h' => absurd h' h⟩
    obtain ⟨f, hf⟩ : ∃ f : Nat → α, ∀ i, i < len → Q (f i) ∧ w.rangeAt ab (ao + i * sz) (D (f i)) := ⟨fun i => Classical.choose (key i), fun i => Classical.choose_spec (key i)⟩
    have hL : ((List.range len).map f).length = len := by simp
    have hG : ∀ i, i < len → (((List.range len).map f)[i]?).getD d = f i := fun i h => by simp [h]
    refine ⟨(List.range len).map f, ⟨some ⟨ab, ao, none⟩, cap, ab, ao, by rw [hL], by rw [hL]; exact hl, fun i h => ?_⟩, by rw [hL]; unfold maxLen at hm; omega, fun i h => ?_⟩
    · rw [hL] at h
      simp only [hG i h]
      exact ⟨trivial, (hf i h).2⟩
    · rw [hL] at h
      rw [hG i h]
      exact (hf i h).1
end
end Go.Proofs.YtflmjdjkfognjaaGreat
namespace Go.Proofs.YtflmjdjkfognjaaGreat.W10
open Go.RowKit
set_option linter.unusedVariables false
/-- a returned bool, only new memory -/
def RB (b : Bool) (w : World) (e : Ending) (w' : World) : Prop := e = .returned (.bool b) ∧ Below w.heap.size w w'
/-- the cells of a track -/
def tcs (x : T.Trk) : List Value := [.int .i64 x.num, .int .i64 x.ses, .int .i64 x.st, .int .i64 x.len, .int .i64 x.nx, .int .i64 x.sta, .int .i64 x.pk]
theorem tcs_length (x : T.Trk) : (tcs x).length = 7 := rfl
abbrev tagg (x : T.Trk) : Value := .agg #[.int .i64 x.num, .int .i64 x.ses, .int .i64 x.st, .int .i64 x.len, .int .i64 x.nx, .int .i64 x.sta, .int .i64 x.pk]
abbrev tobj (x : T.Trk) : Obj := .cells #[.int .i64 x.num, .int .i64 x.ses, .int .i64 x.st, .int .i64 x.len, .int .i64 x.nx, .int .i64 x.sta, .int .i64 x.pk] 28
/-- a slice of tracks that is only read -/
def RdK (w : World) (v : Value) (l : List T.Trk) : Prop := RdD T.z tcs 7 w v l
theorem RdK.keep {w w' : World} {v : Value} {l : List T.Trk} (h : RdK w v l) (hb : Below w.heap.size w w') : RdK w' v l := RdS.keep h hb
theorem RdK.cells {w : World} {a : Option Addr} {n c : Nat} {l : List T.Trk} (h : RdK w (.slice a n c) l) : ∃ b off, ∀ i, i < l.length → a = some ⟨b, off, none⟩ ∧ w.rangeAt b (off + i * 7) (tcs (T.tr l i)) := RdD.at h
theorem rd7 {w : World} {b o : Nat} {x : T.Trk} (h : w.rangeAt b o (tcs x)) :
    w.cell? ⟨b, o, none⟩ = some (.int .i64 x.num) ∧ w.cell? ⟨b, o + 1, none⟩ = some (.int .i64 x.ses) ∧ w.cell? ⟨b, o + 2, none⟩ = some (.int .i64 x.st) ∧ w.cell? ⟨b, o + 3, none⟩ = some (.int .i64 x.len) ∧
    w.cell? ⟨b, o + 4, none⟩ = some (.int .i64 x.nx) ∧ w.cell? ⟨b, o + 5, none⟩ = some (.int .i64 x.sta) ∧ w.cell? ⟨b, o + 6, none⟩ = some (.int .i64 x.pk) :=
  ⟨h 0 _ rfl, h 1 _ rfl, h 2 _ rfl, h 3 _ rfl, h 4 _ rfl, h 5 _ rfl, h 6 _ rfl⟩
theorem Tryz.sizeTrack : (Tryz.prog.info? 28).map (·.size) = some 7 := by kernel_rfl
/-- an integer of 64 bits -/
def WfT (x : T.Trk) : Prop := In64 x.num ∧ In64 x.ses ∧ In64 x.st ∧ In64 x.len ∧ In64 x.nx ∧ In64 x.sta ∧ In64 x.pk
def WfL (l : List T.Trk) : Prop := ∀ i, i < l.length → WfT (T.tr l i)
def btw (n a b : Int) : Bool := decide (a ≤ n ∧ n ≤ b)
theorem between_any (n a b : Int) (w : World) : Calls Tryz.prog 39 #[.int .i64 n, .int .i64 a, .int .i64 b] w fun e w' => e = .returned (.bool (btw n a b)) ∧ w = w' := by
  by_cases h : a ≤ n
  · go_enter Tryz.func39, Tryz.ntmps39
    go_wp2
    go_ret
    exact ⟨retB (by simp [btw, h]), rfl⟩
  · have hd : decide (a ≤ n) = false := decide_eq_false h
    go_enter Tryz.func39, Tryz.ntmps39
    go_wp2
    go_ret
    exact ⟨retB (by unfold btw; exact (decide_eq_false (by omega)).symm), rfl⟩
theorem send_any (x : T.Trk) (w : World) (h1 : 0 ≤ x.st) (h2 : x.st ≤ 449849) (h3 : 1 ≤ x.len) (h4 : x.len ≤ 449849) :
    Calls Tryz.prog 42 #[tagg x] w fun e w' => e = .returned (.int .i64 (x.st + x.len)) ∧ w' = w.alloc (tobj x) := by
  go_enter Tryz.func42, Tryz.ntmps42
  go_wp2
  go_ret
  exact ⟨rfl, rfl⟩
theorem btw_t {n a b : Int} (h1 : a ≤ n) (h2 : n ≤ b) : btw n a b = true := decide_eq_true ⟨h1, h2⟩
theorem btw_f {n a b : Int} (h : ¬ (a ≤ n ∧ n ≤ b)) : btw n a b = false := decide_eq_false h
end Go.Proofs.YtflmjdjkfognjaaGreat.W10
