/- The law 'masterdisc/masterdisclaw09.CircMonotone' returns true for every input, and leaves its arguments as they were. -/
import Derived.Test.YtkebnmmcogkldaaDm
import Derived.Maps.OwnOps
import Derived.Maps.OwnSet
import Derived.Maps.Views
import Derived.Test.YtkebnmmcogkldaaOwn
import Derived.Deep.RegionHeld3
import Derived.Outline
import Derived.Test.YtkebnmmcogkldaaOpS
import Derived.Test.YtkebnmmcogkldaaRows
import Derived.Test.YtkebnmmcogkldaaOpen
/- Chapter 9: the law CircScratches, what it needs: a map of ints, BinarySearch, frames that are near. -/
namespace Go.Proofs.Ytkebnmmcogkldaa.C9
open Go.RowKit Go.Maps W8
set_option linter.unusedVariables false

theorem lawInt9 : Keyed Try.prog 3 := int_keyed Try.underlying3
theorem zeroInt9 : ∀ w, (zeroValue 3).run Try.prog w = .ok (.int .i64 0) w := fun _ => by kernel_rfl
theorem wf9 {x : Int} (h1 : -9223372036854775808 ≤ x) (h2 : x ≤ 9223372036854775807) : (Lit.int .i64 x).wf = true := by simp [Lit.wf, IntKind.min, IntKind.max, IntKind.signed, IntKind.bits]; omega
/-- block 'b' is a map of at most 'n' entries; at the int 'x' it reads 'f x' -/
def MapN (w : World) (b n : Nat) (f : Int → Int) : Prop :=
  ∃ D : DataW Unit, w.ownsMap Try.prog 3 (plainElem Try.prog 3) b n D ∧ ∀ x, -9223372036854775808 ≤ x → x ≤ 9223372036854775807 → D.atKey (.int .i64 x) (.lit (.int .i64 0)) = .lit (.int .i64 (f x))
theorem MapN.made (w : World) : MapN (w.alloc (.map #[] 0)) w.heap.size 0 (fun _ => 0) := ⟨.map [], World.ownsMap_made _ _ _ _, fun x _ _ => rfl⟩
theorem MapN.lt {w : World} {b n : Nat} {f : Int → Int} (h : MapN w b n f) : b < w.heap.size := by
  obtain ⟨D, h, _⟩ := h; exact h.lt
theorem MapN.kept {w w' : World} {b n : Nat} {f : Int → Int} (h : MapN w b n f) (hk : w'.heap[b]? = w.heap[b]?) : MapN w' b n f := by
  obtain ⟨D, ⟨es, clock, hb, F, hs, hD⟩, hf⟩ := h
  exact ⟨D, ⟨es, clock, hk.trans hb, F, hs, hD⟩, hf⟩
theorem MapN.below {w w' : World} {b n : Nat} {f : Int → Int} (h : MapN w b n f) (hb : Below w.heap.size w w') : MapN w' b n f := h.kept (hb.block b h.lt)
theorem MapN.run {w : World} {b n : Nat} {f : Int → Int} (h : MapN w b n f) (x : Int) (h1 : -9223372036854775808 ≤ x) (h2 : x ≤ 9223372036854775807) :
    (Instr.lookup 56 (.map (some b)) (.int .i64 x) false).run Try.prog w = .ok (.int .i64 (f x)) w := by
  obtain ⟨D, hown, hf⟩ := h
  obtain ⟨v, ps, hrun, hv⟩ := hown.lookup lawInt9 Try.underlying56 (zeroInt9 w) (plainElem_int Try.underlying3 (a := 0) (by decide)) (keyOf_int_mk Try.underlying3 (wf9 h1 h2))
  obtain ⟨c, rfl, hc, _⟩ := plainElem_int_inv Try.underlying3 hv
  simp only [Prod.mk.injEq] at hc
  rw [hf x h1 h2] at hc
  have : c = f x := by simpa using hc.1.symm
  rw [hrun, this]
def setN9 (f : Int → Int) (x v : Int) : Int → Int := fun y => if y = x then v else f y
/-- 'm[x] = v' -/
theorem wpList_setN9 {w : World} {ops : Array Oper} {rest : List Oper} {o : Oper} {a : Act} {Q : Exit → Act → World → Prop}
    (hg : o.guard = none) (m x v : Operand) (hop : o.op = Op.mapUpdate 56 m x v) {b n : Nat} {f : Int → Int} (hown : MapN w b n f) (hm : a.eval m = .map (some b)) {X : Int} (hx : a.eval x = .int .i64 X) {V : Int} (hv : a.eval v = .int .i64 V)
    (h1 : -9223372036854775808 ≤ X) (h2 : X ≤ 9223372036854775807) (h3 : -9223372036854775808 ≤ V) (h4 : V ≤ 9223372036854775807) (hn : n < 1000000)
    (hK : ∀ w', MapN w' b (n + 1) (setN9 f X V) → w.grownBy w' (some b) → wpList Try.prog ops Q rest (a.put o.dst undef) w') : wpList Try.prog ops Q (o :: rest) a w := by
  obtain ⟨D, hown, hf⟩ := hown
  refine wpList_mapUpdate_own _ hg m x v 56 hop 3 3 lawInt9 Try.underlying56 _ b n D hm hown (by unfold maxLen; omega) _ _ _ hx hv (keyOf_int_mk Try.underlying3 (wf9 h1 h2)) _ [] (plainElem_int Try.underlying3 (wf9 h3 h4)) ?_
  intro w' ho hgr
  refine hK w' ⟨_, ho, fun y g1 g2 => ?_⟩ hgr
  unfold setN9
  by_cases e : y = X
  · subst e
    rw [if_pos rfl, atKey_put_same hown.isMap]
    trivial
  · rw [if_neg e, atKey_put_other (by simpa using e), hf y g1 g2]
set_option maxRecDepth 100000 in
set_option maxHeartbeats 1000000 in
theorem bsearch9_nil (a : Option Addr) (c : Nat) (x : Int) (w : World) : Calls Try.prog 29 #[.slice a 0 c, .int .i64 x] w fun e w' => (∃ p : Int, e = .returned (.tuple #[.int .i64 p, .bool false])) ∧ w = w' := by
  go_enter Try.func29, Try.ntmps29
  go_wp2_with fail
  go_loopw [7, 8] (fun vi vj wr => vi = .int .i64 0 ∧ vj = .int .i64 0 ∧ wr = w) (fun _ _ _ => 0)
  case atStart => exact ⟨rfl, rfl, rfl⟩
  case round =>
    obtain ⟨rfl, rfl, rfl⟩ := hrel
    have hd0 : decide ((0 : Int) < 0) = false := by decide
    go_wp2_with fail
    go_ret2
    exact ⟨⟨0, rfl⟩, rfl⟩
theorem bsearch9 (v : Value) (l : List Int) (x : Int) (w : World) (hv : RdI w v l) (hl : l.length ≤ 100000) (hs : l.Pairwise (· ≤ ·)) :
    Calls Try.prog 29 #[v, .int .i64 x] w fun e w' => (∃ p : Int, e = .returned (.tuple #[.int .i64 p, .bool (l.contains x)])) ∧ Below w.heap.size w w' := by
  obtain ⟨h0, ⟨a, cap, b, off, rfl, hcap, hcell⟩, hrng⟩ := hv
  rcases Nat.eq_zero_or_pos l.length with hz | hpos
  · have e : l = [] := List.length_eq_zero_iff.1 hz
    subst e
    refine (bsearch9_nil a cap x w).mono ?_
    rintro e w' ⟨⟨p, rfl⟩, rfl⟩
    exact ⟨⟨p, rfl⟩, Below.refl _ _⟩
  · obtain ⟨rfl, _⟩ := hcell 0 hpos
    refine (Try.slices_BinarySearch_int b off l.length cap l x w (Nat.le_refl _) (by omega) (fun j hj => (hcell j hj).2) (by rw [List.take_length]; exact hs)).mono ?_
    rintro e w' ⟨rfl, q, rfl⟩
    rw [List.take_length]
    exact ⟨⟨_, rfl⟩, Below.drewN (Below.refl _ _) q⟩
/-- received frames, and how many symbols of each may be changed -/
def NearC (d : List UInt8) (n : Nat) (l : List Sc) (R : List (List UInt8)) (f : Int → Int) : Prop :=
  R.length = n + 108 ∧ (∀ g : Nat, g < n + 108 → if gon l g = true then frA R g = [] else (frA R g).length = 32 ∧ (G.othN (frA R g) (frm d n g) [] 32 : Int) ≤ f g) ∧ ∀ x, 0 ≤ f x ∧ f x ≤ 2
theorem NearC.start (d : List UInt8) (n : Nat) (l : List Sc) : NearC d n l (scrF (frms d n (n + 108)) l) (fun _ => 0) := by
  refine ⟨by rw [scrF_length, frms_length], fun g hg => ?_, fun x => by show (0 : Int) ≤ 0 ∧ (0 : Int) ≤ 2; omega⟩
  rw [frA_scrF _ _ (by rw [frms_length]; exact hg), frA_frms _ _ _ _ hg]
  split
  · rfl
  · exact ⟨frm_length _ _ _, by rw [oth_self]; show ((0 : Nat) : Int) ≤ 0; omega⟩
theorem NearC.near {d : List UInt8} {n : Nat} {l : List Sc} {R : List (List UInt8)} {f : Int → Int} (h : NearC d n l R f) : Near2 d n l R := by
  refine ⟨h.1, fun g hg => ?_⟩
  have h1 := h.2.1 g hg
  have h2 := h.2.2 g
  split at h1
  · next hc => rw [if_pos hc]; exact h1
  · next hc => rw [if_neg hc]; exact ⟨h1.1, by omega⟩
theorem oth_set (x c : List UInt8) (a : Nat) (y : UInt8) (l : List Int) : ∀ k, G.othN (x.set a y) c l k ≤ G.othN x c l k + if a < k then 1 else 0
  | 0 => by simp [G.othN]
  | k + 1 => by
    have ih := oth_set x c a y l k
    rw [G.othN, G.othN]
    by_cases h : a = k
    · subst h
      rw [if_neg (by omega)] at ih
      rw [if_pos (by omega : a < a + 1)]
      have : (if G.ix (x.set a y) a = G.ix c a then 0 else if G.cont l (a : Int) = true then 0 else 1) ≤ 1 := by split <;> (try split) <;> omega
      omega
    · have e : G.ix (x.set a y) k = G.ix x k := by simp [G.ix, List.getElem?_set_ne h]
      rw [e]
      generalize (if G.ix x k = G.ix c k then 0 else if G.cont l (k : Int) = true then 0 else 1) = t
      by_cases h2 : a < k
      · rw [if_pos h2] at ih
        rw [if_pos (by omega)]; omega
      · rw [if_neg h2] at ih
        rw [if_neg (by omega)]; omega
theorem frA_set (R : List (List UInt8)) (g h : Nat) (b : List UInt8) (hg : g < R.length) : frA (R.set g b) h = if h = g then b else frA R h := by
  unfold frA
  by_cases e : h = g
  · subst e; rw [if_pos rfl, List.getElem?_set_self hg]; rfl
  · rw [if_neg e, List.getElem?_set_ne (Ne.symm e)]
theorem NearC.step {d : List UInt8} {n : Nat} {l : List Sc} {R : List (List UInt8)} {f : Int → Int} (h : NearC d n l R f) {g a : Nat} (hg : g < n + 108) (h32 : (frA R g).length = 32) (h2 : f g ≠ 2) (y : UInt8) :
    NearC d n l (R.set g ((frA R g).set a y)) (setN9 f g (f g + 1)) := by
  refine ⟨by rw [List.length_set]; exact h.1, fun k hk => ?_, fun x => ?_⟩
  · have h1 := h.2.1 k hk
    rw [frA_set _ _ _ _ (by rw [h.1]; exact hg)]
    by_cases e : k = g
    · subst e
      rw [if_pos rfl]
      by_cases hc : gon l k = true
      · rw [if_pos hc] at h1
        rw [h1] at h32
        simp at h32
      · rw [if_neg hc] at h1 ⊢
        have h3 := oth_set (frA R k) (frm d n k) a y [] 32
        refine ⟨by rw [List.length_set]; exact h1.1, ?_⟩
        have e2 : setN9 f k (f k + 1) k = f k + 1 := by unfold setN9; rw [if_pos rfl]
        rw [e2]
        split at h3 <;> omega
    · rw [if_neg e]
      have e2 : setN9 f g (f g + 1) k = f k := by unfold setN9; rw [if_neg (by omega)]
      rw [e2]
      exact h1
  · have h1 := h.2.2 x
    have h3 := h.2.2 g
    unfold setN9
    split
    · next e => omega
    · exact h1
end Go.Proofs.Ytkebnmmcogkldaa.C9
/- What a region may do that makes rows and appends to one of them. No program is named here. -/
namespace Go.Proofs.Ytkebnmmcogkldaa
open Go.RowKit
set_option linter.unusedVariables false

/-- blocks below 'B' stay; of the others a row of type 't' may get 'cs' at cell 'k', each other one stays -/
def RegA (B : Nat) (t : TypeId) (k : Nat) (cs : List Value) (w W : World) : Prop :=
  Below B w W ∧ ∀ g, B ≤ g → g < w.heap.size → W.heap[g]? = w.heap[g]? ∨ ∃ cur cur' : Array Value, w.heap[g]? = some (.cells cur t (0, 0)) ∧ W.heap[g]? = some (.cells cur' t (0, 0)) ∧ cur'.size = cur.size ∧
    ∀ j : Nat, cur'[j]? = cur[j]? ∨ (k ≤ j ∧ cur'[j]? = cs[j - k]?)
section
variable {B : Nat} {t : TypeId} {k : Nat} {cs : List Value} {w W : World}
theorem RegA.refl : RegA B t k cs w w := ⟨Below.refl _ _, fun _ _ _ => .inl rfl⟩
theorem RegA.call (hB : B ≤ w.heap.size) (hb : Below w.heap.size w W) : RegA B t k cs w W := ⟨hb.mono hB, fun g _ hg => .inl (hb.block g hg)⟩
theorem RegA.row (h : RegA B t k cs w W) {b e sz n : Nat} {v : Value} {xs : List Value} (hb : B ≤ b) (ho : w.ownsRow b e sz v n xs) (hx : e = t → ∀ j, k ≤ j → j < xs.length → xs[j]? = cs[j - k]?) : W.ownsRow b e sz v n xs := by
  refine ⟨ho.1, ?_⟩
  rcases ho.2 with h0 | ⟨g, cap, cur, hv, hg, hh, hn, hc, hs, ht⟩
  · exact .inl h0
  · right
    rcases h.2 g (by omega) (Array.getElem?_eq_some_iff.1 hh).1 with h1 | ⟨cur0, cur', h1, h2, h3, h4⟩
    · exact ⟨g, cap, cur, hv, hg, h1.trans hh, hn, hc, hs, ht⟩
    · rw [hh] at h1
      simp only [Option.some.injEq, Obj.cells.injEq, and_true] at h1
      obtain ⟨rfl, rfl⟩ := h1
      refine ⟨g, cap, cur', hv, hg, h2, hn, hc, h3.trans hs, ?_⟩
      apply List.ext_getElem?
      intro j
      have hl := ho.1
      have hxj : xs[j]? = if j < n * sz then cur[j]? else none := by rw [← ht, List.getElem?_take]; simp
      rw [List.getElem?_take]
      by_cases hj : j < n * sz
      · rw [if_pos hj] at hxj ⊢
        rw [Array.getElem?_toList, hxj]
        rcases h4 j with h5 | ⟨h5, h6⟩
        · exact h5
        · rw [h6, ← hx rfl j h5 (by omega), hxj]
      · rw [if_neg hj] at hxj ⊢
        exact hxj.symm
theorem RegA.bx (h : RegA B t k cs w W) {g e : Nat} {xs : List Value} (hb : B ≤ g) (ho : Bx w g e xs) (hx : e = t → ∀ j, k ≤ j → j < xs.length → xs[j]? = cs[j - k]?) : Bx W g e xs := by
  rcases h.2 g hb ho.lt with h1 | ⟨cur0, cur', h1, h2, h3, h4⟩
  · exact h1.trans ho
  · have h0 : w.heap[g]? = some (.cells xs.toArray e (0, 0)) := ho
    rw [h0] at h1
    simp only [Option.some.injEq, Obj.cells.injEq, and_true] at h1
    obtain ⟨rfl, rfl⟩ := h1
    have e9 : cur' = xs.toArray := by
      apply Array.ext_getElem?
      intro j
      rcases h4 j with h5 | ⟨h5, h6⟩
      · exact h5
      · by_cases hj : j < xs.length
        · rw [h6, ← hx rfl j h5 hj]; simp
        · rw [Array.getElem?_eq_none (by rw [h3]; simp; omega), Array.getElem?_eq_none (by simp; omega)]
    rw [e9] at h2
    exact h2
/-- 'append(v, ..)' within such a region -/
theorem RegA.append {P : Program} {t' ty : TypeId} {i : TypeInfo} {z : Value} {size bytes : Nat} (ht : P.underlying t' = some (.slice t)) (hi : P.info? t = some i) (hz : i.zero = some z) (hsize : i.size = size) (hby : i.bytes = bytes) (hzs : z.cells.size = size) (hsz : 0 < size)
    {v : Value} {n : Nat} {xs : List Value} (hown : w.ownsRow B t size v n xs) (hk : k = n * size) {a : Addr} {m c : Nat} (hm : 0 < m) (hl : cs.length = m * size) (hnews : ∀ j u, cs[j]? = some u → w.cell? (a.add j) = some u) (h1 : ∀ u ∈ cs, u.oneCell' = true)
    (h63 : n + m ≤ maxLen) (hbytes : (n + m) * bytes ≤ 140737488355328) (hbase : B ≤ w.heap.size) :
    ∃ v' w', (Builtin.append_ #[t', t'] ty #[v, .slice (some a) m c]).run P w = .ok v' w' ∧ w'.ownsRow B t size v' (n + m) (xs ++ cs) ∧ RegA B t k cs w w' := by
  obtain ⟨v', w', r1, r2, r3, _⟩ := run_append_own (P := P) w B t' ty t i z size bytes ht hi hz hsize hby hzs hsz v n xs hown a m c cs hl hnews h1 h63 hbytes hbase
  refine ⟨v', w', r1, r2, ?_⟩
  unfold maxLen at h63
  subst hsize hby hk
  rcases hown.2 with ⟨rfl, rfl⟩ | ⟨g, cap, cur, rfl, hgB, hg, _, _, hcs, _⟩
  · have h9 := run_append_nil (P := P) w t' ty t i z ht hi hz a m c cs hl hnews hm (by omega) (by simp only [Nat.zero_add] at hbytes; omega)
    rw [r1] at h9
    injection h9 with e1 e2
    subst e2
    exact RegA.call hbase ((Below.refl _ _).drew.alloc (Nat.le_refl _) _)
  · by_cases hroom : n + m ≤ cap
    · have hfit : n * i.size + cs.length ≤ cur.size := by rw [hl, hcs, ← Nat.add_mul]; exact Nat.mul_le_mul_right _ hroom
      have h9 := run_append_room (P := P) w t' ty t i ht hi g n cap cur hg a m c cs hl hnews h1 hroom hfit
      rw [r1] at h9
      injection h9 with e1 e2
      subst e2
      refine ⟨below_setRow (Below.refl _ _) hgB _, fun q hq hqs => ?_⟩
      by_cases e : q = g
      · subst e
        right
        have hlt : n * i.size ≤ cur.toList.length := by simp; omega
        refine ⟨cur, (cur.toList.take (n * i.size) ++ cs ++ cur.toList.drop (n * i.size + cs.length)).toArray, hg, by unfold World.setRow; simp [Array.getElem?_modify, hg], ?_, fun j => ?_⟩
        · simp only [List.size_toArray, List.length_append, List.length_take, List.length_drop, Array.length_toList]; omega
        · rw [List.getElem?_toArray, ← Array.getElem?_toList]
          have hL : cur.toList.length = cur.size := by simp
          generalize cur.toList = L at *
          by_cases j1 : j < n * i.size
          · left
            rw [List.getElem?_append_left (by simp; omega), List.getElem?_append_left (by simp; omega), List.getElem?_take, if_pos j1]
          · by_cases j2 : j < n * i.size + cs.length
            · right
              refine ⟨by omega, ?_⟩
              rw [List.getElem?_append_left (by simp; omega), List.getElem?_append_right (by simp; omega), List.length_take, Nat.min_eq_left hlt]
            · left
              rw [List.getElem?_append_right (by simp; omega), List.length_append, List.length_take, Nat.min_eq_left hlt, List.getElem?_drop]
              congr 1; omega
      · left
        unfold World.setRow
        simp [Array.getElem?_modify, Ne.symm e]
    · have h9 := run_append_grow (P := P) w t' ty t i z ht hi hz ⟨g, 0, none⟩ n cap xs hown.1 (hown.cells (g := g) rfl) a m c cs hl hnews (by omega) (by omega) (growslice_fits (by omega) hbytes)
      rw [r1] at h9
      injection h9 with e1 e2
      subst e2
      exact RegA.call hbase ((Below.refl _ _).drew.alloc (Nat.le_refl _) _)
end
end Go.Proofs.Ytkebnmmcogkldaa
/- Steps of a region that draws its order: append of structs; all blocks kept but one. No program is named here. -/
namespace Go.Proofs.Ytkebnmmcogkldaa
open Go.RowKit
set_option linter.unusedVariables false

section
variable {α : Type} {d : α} {D : α → List Value} {sz : Nat}
/-- 'append(v, s...)' at structs, as a step of a region that draws -/
theorem step_appD {P : Program} {ops : Array Oper} {o : Oper} {a : Act} {w : World} {K : Act → World → Prop} {Q : Exit → Act → World → Prop} {E : Prop} (hg : o.guard = none) (s x : Operand) {t : TypeId}
    (hop : o.op = .call { callee := .builtin .append, args := #[s, x], argTypes := #[t, t] }) {e : TypeId} {z : Value} {bytes : Nat} (ht : P.underlying t = some (.slice e))
    (hi : (P.info? e).map (fun i => (i.zero, i.size, i.bytes)) = some (some z, sz, bytes)) (hzs : z.cells.size = sz) (hs0 : 0 < sz) (hD : ∀ x, (D x).length = sz) (hone : ∀ x, ∀ u ∈ D x, u.oneCell' = true)
    {n base : Nat} {v : Value} {l : List α} (hown : w.ownsRow base e sz v n (flD D l)) (hv : a.eval s = v) {vs : Value} {m : List α} (hs : RdD d D sz w vs m) (hx : a.eval x = vs)
    (h63 : n + m.length ≤ maxLen) (hbytes : (n + m.length) * bytes ≤ 140737488355328) (hbase : base ≤ w.heap.size)
    (hK : ∀ v' w', w'.ownsRow base e sz v' (n + m.length) (flD D (l ++ m)) → w.grownBy w' v.ownBlock → K (a.put o.dst v') w') :
    if Region.wanted o (yielded ops a.tmps) = true then Oper.wp P o a w K Q else E := by
  have hw : Region.wanted o (yielded ops a.tmps) = true := by simp [Region.wanted, hg]
  rw [if_pos hw]
  obtain ⟨i0, hi, hz0, hz1, hz2⟩ := info_parts hi
  obtain ⟨v', w', hrun, r1, r2, r3⟩ := run_app (ty := o.type) ht hi hz0 hz1 hz2 hzs hs0 hown (hs.reads hD) (flD_one hone m) h63 hbytes hbase
  unfold Oper.wp
  simp [execOp, hop, resolve, invoke, builtin, hv, hx, hrun, Result.andThen]
  rw [← flD_append] at r1
  exact hK v' w' r1 r2
end
/-- every block but 'r' is as it was -/
def KeptR (r : Option Nat) (w W : World) : Prop := w.heap.size ≤ W.heap.size ∧ ∀ k, k < w.heap.size → some k ≠ r → W.heap[k]? = w.heap[k]?
section
variable {r : Option Nat} {w W W' : World}
theorem KeptR.refl (r : Option Nat) (w : World) : KeptR r w w := ⟨Nat.le_refl _, fun _ _ _ => rfl⟩
theorem KeptR.drew (h : KeptR r w W) : KeptR r w W.drew := h
theorem KeptR.drewN (h : KeptR r w W) (n : Nat) : KeptR r w (W.drewN n) := h
theorem KeptR.call (h : KeptR r w W) (hb : Below W.heap.size W W') : KeptR r w W' := ⟨Nat.le_trans h.1 hb.size, fun k h1 h2 => (hb.block k (Nat.lt_of_lt_of_le h1 h.1)).trans (h.2 k h1 h2)⟩
theorem KeptR.alloc (h : KeptR r w W) (o : Obj) : KeptR r w (W.alloc o) := h.call ((Below.refl _ _).alloc (Nat.le_refl _) o)
theorem KeptR.grown (h : KeptR r w W) (hg : W.grownBy W' r) : KeptR r w W' := ⟨Nat.le_trans h.1 hg.size, fun k h1 h2 => (hg.block k (Nat.lt_of_lt_of_le h1 h.1) h2).trans (h.2 k h1 h2)⟩
theorem KeptR.bx {g : Nat} {t : TypeId} {cs : List Value} (h : KeptR r w W) (hx : Bx w g t cs) (hg : some g ≠ r) : Bx W g t cs := (h.2 g hx.lt hg).trans hx
theorem KeptR.cell (h : KeptR r w W) {p : Addr} (hp : p.block < w.heap.size) (hg : some p.block ≠ r) : W.cell? p = w.cell? p := World.cell?_of_block (w := w) (h.2 p.block hp hg)
theorem KeptR.below (h : KeptR r w W) {B : Nat} (h0 : W.os = w.os ∧ W.tape = w.tape ∧ W.output = w.output) (hB : B ≤ w.heap.size) (hr : ∀ k, r = some k → B ≤ k) : Below B w W :=
  ⟨h0.1, h0.2.1, h0.2.2, h.1, fun k hk => h.2 k (by omega) (fun e => by have := hr k e.symm; omega)⟩
end
end Go.Proofs.Ytkebnmmcogkldaa
/- A region that draws its order, by what is known of each operation's value: every operation is walked once. No program is named here. -/
namespace Go.Proofs.Ytkebnmmcogkldaa
open Go.RowKit
set_option linter.unusedVariables false

section
variable {P : Program} {Q : Exit → Act → World → Prop}
/-- no operation writes this slot -/
def freeB (l : List Oper) (t : Tmp) : Bool := l.all fun o => o.dst != some t
/-- an operation, and what it leans on -/
def StepI (P : Program) (Q : Exit → Act → World → Prop) (C : World → Prop) (V : Nat → Value → World → Prop) (l : List Oper) (a0 : Act) (i : Nat) (o : Oper) : Prop :=
  ∀ a w, C w → a.tmps.size = a0.tmps.size → (∀ t, freeB l t = true → a.tmps.getD t undef = a0.tmps.getD t undef) →
    (∀ k, (o.after.toList.any fun e => e.on == k && Region.binds .any e) = true → ∀ (ok : Oper) (t : Tmp), l[k]? = some ok → ok.dst = some t → V k (a.tmps.getD t undef) w) →
    o.wp P a w (fun a' w' => ∃ v, a' = a.put o.dst v ∧ Below w.heap.size w w' ∧ V i v w') Q
def StepsI (P : Program) (Q : Exit → Act → World → Prop) (C : World → Prop) (V : Nat → Value → World → Prop) (l : List Oper) (a0 : Act) : Nat → List Oper → Prop
  | _, [] => True
  | i, o :: r => StepI P Q C V l a0 i o ∧ StepsI P Q C V l a0 (i + 1) r
theorem StepsI.at {C : World → Prop} {V : Nat → Value → World → Prop} {l : List Oper} {a0 : Act} : ∀ {i : Nat} {r : List Oper}, StepsI P Q C V l a0 i r → ∀ {j : Nat} {o : Oper}, r[j]? = some o → StepI P Q C V l a0 (i + j) o
  | i, [], _, j, o, h => by simp at h
  | i, x :: r, h, 0, o, ho => by
    have : x = o := by simpa using ho
    subst this; exact h.1
  | i, x :: r, h, j + 1, o, ho => by
    have := StepsI.at h.2 (j := j) (o := o) (by simpa using ho)
    rwa [Nat.add_assoc, Nat.add_comm 1 j] at this
/-- the region's form: no guards, edges back, slots apart -/
def formB (l : List Oper) (n : Nat) : Bool :=
  (List.range l.length).all (fun i => ((l[i]?).map fun o => o.guard.isNone && o.after.toList.all (fun e => Nat.blt e.on i) && (match o.dst with | some t => Nat.blt t n | none => true)).getD true) &&
  decide ((l.filterMap (·.dst)).Nodup)
theorem form_spec {l : List Oper} {n : Nat} (h : formB l n = true) : (∀ (i : Nat) (o : Oper), l[i]? = some o → o.guard = none ∧ (∀ e ∈ o.after, e.on < i) ∧ ∀ t, o.dst = some t → t < n) ∧
    ∀ (i j : Nat) (oi oj : Oper) (t : Tmp), l[i]? = some oi → l[j]? = some oj → oi.dst = some t → oj.dst = some t → i = j := by
  unfold formB at h
  rw [Bool.and_eq_true] at h
  obtain ⟨h1, h2⟩ := h
  refine ⟨fun i o ho => ?_, ?_⟩
  · have hi := (List.getElem?_eq_some_iff.1 ho).1
    have := List.all_eq_true.1 h1 i (List.mem_range.2 hi)
    rw [ho] at this
    simp only [Option.map_some, Option.getD_some, Bool.and_eq_true, Option.isNone_iff_eq_none] at this
    obtain ⟨⟨g1, g2⟩, g3⟩ := this
    refine ⟨g1, fun e he => ?_, fun t ht => ?_⟩
    · have := List.all_eq_true.1 g2 e (Array.mem_toList_iff.2 he)
      exact Nat.blt_eq ▸ this
    · rw [ht] at g3; exact Nat.blt_eq ▸ g3
  · have hn := of_decide_eq_true h2
    clear h1 h2
    induction l with
    | nil => intro i j oi oj t h; simp at h
    | cons x r ih =>
      intro i j oi oj t hi hj hti htj
      have hnr : (r.filterMap (·.dst)).Nodup := by
        cases hx : x.dst with
        | none => simpa [List.filterMap_cons, hx] using hn
        | some u => simp only [List.filterMap_cons, hx] at hn; exact (List.nodup_cons.1 hn).2
      have hx0 : ∀ (k : Nat) (ok : Oper), r[k]? = some ok → ok.dst = some t → x.dst ≠ some t := fun k ok hk hd hx => by
        simp only [List.filterMap_cons, hx] at hn
        exact (List.nodup_cons.1 hn).1 (List.mem_filterMap.2 ⟨ok, List.mem_of_getElem? hk, hd⟩)
      cases i with
      | zero =>
        cases j with
        | zero => rfl
        | succ j =>
          have e : x = oi := by simpa using hi
          subst e
          exact absurd hti (hx0 j oj (by simpa using hj) htj)
      | succ i =>
        cases j with
        | zero =>
          have e : x = oj := by simpa using hj
          subst e
          exact absurd htj (hx0 i oi (by simpa using hi) hti)
        | succ j =>
          have := ih hnr i j oi oj t (by simpa using hi) (by simpa using hj) hti htj
          omega
theorem stepVal {V : Nat → Value → World → Prop} {i : Nat} {o : Oper} {a : Act} {w : World} {v : Value} (hv : V i v w) (h : ∀ K : Act → World → Prop, K (a.put o.dst v) w → o.wp P a w K Q) :
    o.wp P a w (fun a' w' => ∃ v, a' = a.put o.dst v ∧ Below w.heap.size w w' ∧ V i v w') Q := h _ ⟨v, rfl, Below.refl _ _, hv⟩
theorem stepCall {V : Nat → Value → World → Prop} {i : Nat} {o : Oper} {a : Act} {w : World} {v : Value} (hv : ∀ w', V i v w') (h : ∀ K : Act → World → Prop, (∀ w', Below w.heap.size w w' → K (a.put o.dst v) w') → o.wp P a w K Q) :
    o.wp P a w (fun a' w' => ∃ v, a' = a.put o.dst v ∧ Below w.heap.size w w' ∧ V i v w') Q := h _ fun w' hb => ⟨v, rfl, hb, hv w'⟩
theorem stepNew {V : Nat → Value → World → Prop} {i : Nat} {o : Oper} {a : Act} {w w' : World} {v : Value} (hb : Below w.heap.size w w') (hv : V i v w') (h : ∀ K : Act → World → Prop, K (a.put o.dst v) w' → o.wp P a w K Q) :
    o.wp P a w (fun a' w' => ∃ v, a' = a.put o.dst v ∧ Below w.heap.size w w' ∧ V i v w') Q := h _ ⟨v, rfl, hb, hv⟩
theorem arr_eq (tm : Array Value) (n : Nat) (h : tm.size = n) : tm = ((List.range n).map fun i => tm.getD i undef).toArray := by
  apply Array.ext
  · simp [h]
  · intro i h1 h2
    simp [Array.getD, h1]
/-- where the region stands -/
structure Okay (l : List Oper) (C : World → Prop) (V : Nat → Value → World → Prop) (a0 : Act) (listed : Array Bool) (a : Act) (w : World) : Prop where
  c : C w
  defers : a.defers = a0.defers
  size : a.tmps.size = a0.tmps.size
  old : ∀ t, freeB l t = true → a.tmps.getD t undef = a0.tmps.getD t undef
  val : ∀ (i : Nat) (o : Oper) (t : Tmp), l[i]? = some o → listed.getD i false = true → o.dst = some t → V i (a.tmps.getD t undef) w
/-- how many are left -/
def left (n : Nat) (listed : Array Bool) : Nat := ((List.range n).filter fun i => !listed.getD i true).length
theorem left_set {n i : Nat} {listed : Array Bool} (hn : listed.size = n) (hi : listed.getD i true = false) : left n (listed.setIfInBounds i true) < left n listed := by
  unfold left
  have hil : i < listed.size := by
    rcases Nat.lt_or_ge i listed.size with h | h
    · exact h
    · simp [Array.getD, Nat.not_lt.2 h] at hi
  have e : (List.range n).filter (fun j => !(listed.setIfInBounds i true).getD j true) = ((List.range n).filter fun j => !listed.getD j true).filter (fun j => decide (j ≠ i)) := by
    rw [List.filter_filter]
    refine List.filter_congr fun j hj => ?_
    by_cases hji : i = j
    · subst hji; simp [hil]
    · rw [getD_set_ne true hji]; simp [Ne.symm hji]
  rw [e]
  refine List.length_filter_lt_length_iff_exists.2 ⟨i, List.mem_filter.2 ⟨List.mem_range.2 (by omega), by simp [hi]⟩, by simp⟩
theorem ready_nil {l : List Oper} {n : Nat} (hf : formB l n = true) {listed : Array Bool} (hs : listed.size = l.length) (h : Region.ready .any l.toArray listed = []) : ∀ i, i < l.length → listed.getD i false = true := by
  intro i
  induction i using Nat.strongRecOn with
  | ind i ih =>
    intro hi
    obtain ⟨o, ho⟩ : ∃ o, l[i]? = some o := ⟨l[i], List.getElem?_eq_getElem hi⟩
    have hsp := (form_spec hf).1 i o ho
    rcases hb : listed.getD i true with _ | _
    · have : i ∈ Region.ready .any l.toArray listed := mem_ready.2 ⟨hb, o, by simpa using ho, fun e he _ => ih e.on (hsp.2.1 e he) (by have := hsp.2.1 e he; omega)⟩
      rw [h] at this; cases this
    · have : i < listed.size := by omega
      simp only [Array.getD, this, dif_pos] at hb ⊢
      exact hb
theorem put_getD_same {a : Act} {t : Tmp} {v : Value} (h : t < a.tmps.size) : (a.put (some t) v).tmps.getD t undef = v := by
  simp [Act.put, Array.getD, h]
theorem put_getD_other {a : Act} {d : Option Tmp} {t : Tmp} {v : Value} (h : d ≠ some t) : (a.put d v).tmps.getD t undef = a.tmps.getD t undef := by
  cases d with
  | none => rfl
  | some d =>
    have hne : d ≠ t := fun e => h (by rw [e])
    simp [Act.put, Array.getElem?_setIfInBounds_ne hne]
theorem put_size {a : Act} {d : Option Tmp} {v : Value} : (a.put d v).tmps.size = a.tmps.size := by
  cases d <;> simp [Act.put]
theorem put_defers {a : Act} {d : Option Tmp} {v : Value} : (a.put d v).defers = a.defers := by
  cases d <;> simp [Act.put]
theorem getD_set_cases {listed : Array Bool} {i j : Nat} (h : (listed.setIfInBounds i true).getD j false = true) : j = i ∨ listed.getD j false = true := by
  by_cases e : j = i
  · exact .inl e
  · rw [getD_set_ne false (Ne.symm e)] at h; exact .inr h

theorem wpAny_inv {l : List Oper} {C : World → Prop} {V : Nat → Value → World → Prop} {a0 : Act} (hf : formB l a0.tmps.size = true)
    (hC : ∀ w w', Below w.heap.size w w' → C w → C w') (hV : ∀ i v w w', Below w.heap.size w w' → V i v w → V i v w')
    (hstep : StepsI P Q C V l a0 0 l)
    (hend : ∀ a w, C w → a.defers = a0.defers → a.tmps.size = a0.tmps.size → (∀ t, freeB l t = true → a.tmps.getD t undef = a0.tmps.getD t undef) →
      (∀ (i : Nat) (o : Oper) (t : Tmp), l[i]? = some o → o.dst = some t → V i (a.tmps.getD t undef) w) → Q .normal a w) :
    ∀ (fuel : Nat) (listed : Array Bool) (a : Act) (w : World), listed.size = l.length → left l.length listed ≤ fuel → Okay l C V a0 listed a w → wpAny P .any l.toArray Q fuel listed a w := by
  have hfin : ∀ (listed : Array Bool) (a : Act) (w : World), listed.size = l.length → Okay l C V a0 listed a w → Region.ready .any l.toArray listed = [] → Q .normal a w := fun listed a w hs hok hr =>
    hend a w hok.c hok.defers hok.size hok.old fun i o t ho ht => hok.val i o t ho (ready_nil hf hs hr i (List.getElem?_eq_some_iff.1 ho).1) ht
  intro fuel
  induction fuel with
  | zero =>
    intro listed a w hs hle hok
    have hr : Region.ready .any l.toArray listed = [] := by
      rcases hq : Region.ready .any l.toArray listed with _ | ⟨i, r⟩
      · rfl
      · have hi : i ∈ Region.ready .any l.toArray listed := by rw [hq]; exact List.mem_cons_self ..
        have := left_set hs (mem_ready.1 hi).1
        omega
    exact ⟨hr, hfin listed a w hs hok hr⟩
  | succ fuel ih =>
    intro listed a w hs hle hok
    refine ⟨hfin listed a w hs hok, fun i hi => ?_⟩
    obtain ⟨hun, o, ho, hall⟩ := mem_ready.1 hi
    have hol : l[i]? = some o := by simpa using ho
    obtain ⟨hg, _, hlt⟩ := (form_spec hf).1 i o hol
    have hst := hstep.at hol
    rw [Nat.zero_add] at hst
    have h1 := hst a w hok.c hok.size hok.old fun k hk ok t hkl hkt => by
      rw [List.any_eq_true] at hk
      obtain ⟨e, he, hb⟩ := hk
      rw [Bool.and_eq_true] at hb
      have hek : e.on = k := by simpa using hb.1
      exact hok.val k ok t hkl (by rw [← hek]; exact hall e (Array.mem_toList_iff.1 he) hb.2) hkt
    unfold wpOp
    simp only [ho]
    rw [if_pos (by simp [Region.wanted, hg])]
    refine .inl (Oper.wp_mono ?_ h1)
    rintro a' w' ⟨v, rfl, hb, hv⟩
    refine ih _ _ _ (by simpa using hs) (by have := left_set hs hun; omega) ⟨hC _ _ hb hok.c, by rw [put_defers]; exact hok.defers, by rw [put_size]; exact hok.size, fun t ht => ?_, fun j oj t hoj hlj hjt => ?_⟩
    · have hne : o.dst ≠ some t := by
        have := List.all_eq_true.1 ht o (List.mem_of_getElem? hol)
        simpa using this
      rw [put_getD_other hne]; exact hok.old t ht
    · rcases getD_set_cases hlj with rfl | hlj
      · obtain rfl : o = oj := by rw [hol] at hoj; exact Option.some.inj hoj
        rw [hjt, put_getD_same (by rw [hok.size]; exact hlt t hjt)]
        exact hv
      · have hji : o.dst ≠ some t := fun hd => by
          have := (form_spec hf).2 i j o oj t hol hoj hd hjt
          subst this
          have hil : i < listed.size := by rw [hs]; exact (List.getElem?_eq_some_iff.1 hol).1
          simp only [Array.getD, hil, dif_pos] at hun hlj
          rw [hun] at hlj; cases hlj
        rw [put_getD_other hji]
        exact hV j _ w w' hb (hok.val j oj t hoj hlj hjt)
/-- a region that draws its order, every operation alone -/
theorem wp_region_inv {id : Nat} {l : List Oper} {a0 : Act} {w : World} (hm : P.follows .mixedOrders = true) (C : World → Prop) (V : Nat → Value → World → Prop) (hf : formB l a0.tmps.size = true)
    (hC : ∀ w w', Below w.heap.size w w' → C w → C w') (hV : ∀ i v w w', Below w.heap.size w w' → V i v w → V i v w') (h0 : C w.drew)
    (hstep : StepsI P Q C V l a0 0 l)
    (hend : ∀ a w, C w → a.defers = a0.defers → a.tmps.size = a0.tmps.size → (∀ t, freeB l t = true → a.tmps.getD t undef = a0.tmps.getD t undef) →
      (∀ (i : Nat) (o : Oper) (t : Tmp), l[i]? = some o → o.dst = some t → V i (a.tmps.getD t undef) w) → Q .normal a w) : (Code.region id l.toArray true).wp P Q a0 w := by
  refine wp_region_any hm ?_
  have hn : (Array.replicate l.toArray.size false).size = l.length := by simp
  refine wpAny_inv hf hC hV hstep hend _ _ _ _ hn ?_ ⟨h0, rfl, rfl, fun t _ => rfl, fun i o t ho hl _ => ?_⟩
  · have := List.length_filter_le (fun i => !(Array.replicate l.toArray.size false).getD i true) (List.range l.length)
    unfold left
    simpa using this
  · exfalso
    have hi := (List.getElem?_eq_some_iff.1 ho).1
    simp [Array.getD, hi] at hl
end
end Go.Proofs.Ytkebnmmcogkldaa
/- A region that draws its order, by what is known of each operation's value: every operation is walked once; stores and guards too. No program is named here. -/
namespace Go.Proofs.Ytkebnmmcogkldaa
open Go.RowKit
set_option linter.unusedVariables false

section
variable {P : Program} {Q : Exit → Act → World → Prop}
/-- what a slot holds, if there is one; a value, if it is kept -/
def slotV (d : Option Tmp) (a : Act) : Value := match d with
  | some t => a.tmps.getD t undef
  | none => undef
def kept (d : Option Tmp) (v : Value) : Value := match d with
  | some _ => v
  | none => undef
/-- an operation, and what it leans on; 'sk': it is skipped by its guard -/
def StepR (P : Program) (Q : Exit → Act → World → Prop) (R : World → World → Prop) (C : World → Prop) (V : Nat → Value → World → Prop) (sk : Nat → Bool) (l : List Oper) (a0 : Act) (i : Nat) (o : Oper) : Prop :=
  ∀ a w, C w → a.tmps.size = a0.tmps.size → (∀ t, freeB l t = true → a.tmps.getD t undef = a0.tmps.getD t undef) →
    (∀ k, (o.after.toList.any fun e => e.on == k && Region.binds .any e) = true → sk k = false → ∀ (ok : Oper), l[k]? = some ok → V k (slotV ok.dst a) w) →
    if sk i then Region.wanted o (yielded l.toArray a.tmps) = false
    else Region.wanted o (yielded l.toArray a.tmps) = true ∧ o.wp P a w (fun a' w' => ∃ v, a' = a.put o.dst v ∧ R w w' ∧ V i (kept o.dst v) w') Q
def StepsR (P : Program) (Q : Exit → Act → World → Prop) (R : World → World → Prop) (C : World → Prop) (V : Nat → Value → World → Prop) (sk : Nat → Bool) (l : List Oper) (a0 : Act) : Nat → List Oper → Prop
  | _, [] => True
  | i, o :: r => StepR P Q R C V sk l a0 i o ∧ StepsR P Q R C V sk l a0 (i + 1) r
theorem StepsR.at {R : World → World → Prop} {C : World → Prop} {V : Nat → Value → World → Prop} {sk : Nat → Bool} {l : List Oper} {a0 : Act} : ∀ {i : Nat} {r : List Oper}, StepsR P Q R C V sk l a0 i r → ∀ {j : Nat} {o : Oper}, r[j]? = some o → StepR P Q R C V sk l a0 (i + j) o
  | i, [], _, j, o, h => by simp at h
  | i, x :: r, h, 0, o, ho => by
    have : x = o := by simpa using ho
    subst this; exact h.1
  | i, x :: r, h, j + 1, o, ho => by
    have := StepsR.at h.2 (j := j) (o := o) (by simpa using ho)
    rwa [Nat.add_assoc, Nat.add_comm 1 j] at this
/-- the region's form: edges back, slots apart -/
def formR (l : List Oper) (n : Nat) : Bool :=
  (List.range l.length).all (fun i => ((l[i]?).map fun o => o.after.toList.all (fun e => !Region.binds .any e || Nat.blt e.on i) && (match o.dst with | some t => Nat.blt t n | none => true)).getD true) &&
  decide ((l.filterMap (·.dst)).Nodup)
theorem formR_spec {l : List Oper} {n : Nat} (h : formR l n = true) : (∀ (i : Nat) (o : Oper), l[i]? = some o → (∀ e ∈ o.after, Region.binds .any e = true → e.on < i) ∧ ∀ t, o.dst = some t → t < n) ∧
    ∀ (i j : Nat) (oi oj : Oper) (t : Tmp), l[i]? = some oi → l[j]? = some oj → oi.dst = some t → oj.dst = some t → i = j := by
  unfold formR at h
  rw [Bool.and_eq_true] at h
  obtain ⟨h1, h2⟩ := h
  refine ⟨fun i o ho => ?_, ?_⟩
  · have hi := (List.getElem?_eq_some_iff.1 ho).1
    have := List.all_eq_true.1 h1 i (List.mem_range.2 hi)
    rw [ho] at this
    simp only [Option.map_some, Option.getD_some, Bool.and_eq_true] at this
    obtain ⟨g2, g3⟩ := this
    refine ⟨fun e he hbi => ?_, fun t ht => ?_⟩
    · have := List.all_eq_true.1 g2 e (Array.mem_toList_iff.2 he)
      rw [hbi, Bool.not_true, Bool.false_or] at this
      exact Nat.blt_eq ▸ this
    · rw [ht] at g3; exact Nat.blt_eq ▸ g3
  · have hn := of_decide_eq_true h2
    clear h1 h2
    induction l with
    | nil => intro i j oi oj t h; simp at h
    | cons x r ih =>
      intro i j oi oj t hi hj hti htj
      have hnr : (r.filterMap (·.dst)).Nodup := by
        cases hx : x.dst with
        | none => simpa [List.filterMap_cons, hx] using hn
        | some u => simp only [List.filterMap_cons, hx] at hn; exact (List.nodup_cons.1 hn).2
      have hx0 : ∀ (k : Nat) (ok : Oper), r[k]? = some ok → ok.dst = some t → x.dst ≠ some t := fun k ok hk hd hx => by
        simp only [List.filterMap_cons, hx] at hn
        exact (List.nodup_cons.1 hn).1 (List.mem_filterMap.2 ⟨ok, List.mem_of_getElem? hk, hd⟩)
      cases i with
      | zero =>
        cases j with
        | zero => rfl
        | succ j =>
          have e : x = oi := by simpa using hi
          subst e
          exact absurd hti (hx0 j oj (by simpa using hj) htj)
      | succ i =>
        cases j with
        | zero =>
          have e : x = oj := by simpa using hj
          subst e
          exact absurd htj (hx0 i oi (by simpa using hi) hti)
        | succ j =>
          have := ih hnr i j oi oj t (by simpa using hi) (by simpa using hj) hti htj
          omega
/-- a guard, out of the value of the operation that it names -/
theorem wanted_none {o : Oper} {y : Nat → Option Bool} (h : o.guard = none) : Region.wanted o y = true := by simp [Region.wanted, h]
theorem wanted_of {o : Oper} {ops : Array Oper} {tmps : Array Value} {j : Nat} {want b : Bool} {t : Tmp} (h : o.guard = some (j, want)) (hd : ((ops[j]?).bind (·.dst)) = some t) (hv : tmps.getD t undef = .bool b) : Region.wanted o (yielded ops tmps) = (b == want) := by
  have hs : tmps[t]? = some (.bool b) := by
    by_cases hlt : t < tmps.size
    · rw [Array.getElem?_eq_getElem hlt]
      simp only [Array.getD, hlt, dif_pos] at hv
      exact congrArg some hv
    · simp only [Array.getD, hlt, dif_neg, not_false_eq_true] at hv
      cases hv
  simp [Region.wanted, h, yielded, hd, hs]
theorem stepR_val {R : World → World → Prop} {V : Nat → Value → World → Prop} {i : Nat} {o : Oper} {a : Act} {w : World} {v : Value} (hr : R w w) (hv : V i (kept o.dst v) w) (h : ∀ K : Act → World → Prop, K (a.put o.dst v) w → o.wp P a w K Q) :
    o.wp P a w (fun a' w' => ∃ v, a' = a.put o.dst v ∧ R w w' ∧ V i (kept o.dst v) w') Q := h _ ⟨v, rfl, hr, hv⟩
theorem stepR_call {R : World → World → Prop} {V : Nat → Value → World → Prop} {i : Nat} {o : Oper} {a : Act} {w : World} {v : Value} (hr : ∀ w', Below w.heap.size w w' → R w w') (hv : ∀ w', V i (kept o.dst v) w') (h : ∀ K : Act → World → Prop, (∀ w', Below w.heap.size w w' → K (a.put o.dst v) w') → o.wp P a w K Q) :
    o.wp P a w (fun a' w' => ∃ v, a' = a.put o.dst v ∧ R w w' ∧ V i (kept o.dst v) w') Q := h _ fun w' hb => ⟨v, rfl, hr w' hb, hv w'⟩
theorem stepR_new {R : World → World → Prop} {V : Nat → Value → World → Prop} {i : Nat} {o : Oper} {a : Act} {w w' : World} {v : Value} (hr : R w w') (hv : V i (kept o.dst v) w') (h : ∀ K : Act → World → Prop, K (a.put o.dst v) w' → o.wp P a w K Q) :
    o.wp P a w (fun a' w' => ∃ v, a' = a.put o.dst v ∧ R w w' ∧ V i (kept o.dst v) w') Q := h _ ⟨v, rfl, hr, hv⟩
theorem stepR_do {p q : Prop} {b : Bool} (hb : b = false) {c : Prop} (h1 : p) (h2 : q) : if b = true then c else p ∧ q := by rw [if_neg (by rw [hb]; decide)]; exact ⟨h1, h2⟩
theorem stepR_skip {p : Prop} {b : Bool} (hb : b = true) {c : Prop} (h : c) : if b = true then c else p := by rw [if_pos hb]; exact h
/-- where the region stands -/
structure OkayR (l : List Oper) (C : World → Prop) (V : Nat → Value → World → Prop) (sk : Nat → Bool) (a0 : Act) (listed : Array Bool) (a : Act) (w : World) : Prop where
  c : C w
  defers : a.defers = a0.defers
  size : a.tmps.size = a0.tmps.size
  old : ∀ t, freeB l t = true → a.tmps.getD t undef = a0.tmps.getD t undef
  val : ∀ (i : Nat) (o : Oper), l[i]? = some o → sk i = false → listed.getD i false = true → V i (slotV o.dst a) w
theorem readyR_nil {l : List Oper} {n : Nat} (hf : formR l n = true) {listed : Array Bool} (hs : listed.size = l.length) (h : Region.ready .any l.toArray listed = []) : ∀ i, i < l.length → listed.getD i false = true := by
  intro i
  induction i using Nat.strongRecOn with
  | ind i ih =>
    intro hi
    obtain ⟨o, ho⟩ : ∃ o, l[i]? = some o := ⟨l[i], List.getElem?_eq_getElem hi⟩
    have hsp := (formR_spec hf).1 i o ho
    rcases hb : listed.getD i true with _ | _
    · have : i ∈ Region.ready .any l.toArray listed := mem_ready.2 ⟨hb, o, by simpa using ho, fun e he hbi => ih e.on (hsp.1 e he hbi) (by have := hsp.1 e he hbi; omega)⟩
      rw [h] at this; cases this
    · have : i < listed.size := by omega
      simp only [Array.getD, this, dif_pos] at hb ⊢
      exact hb
theorem wpAny_inr {l : List Oper} {R : World → World → Prop} {C : World → Prop} {V : Nat → Value → World → Prop} {sk : Nat → Bool} {a0 : Act} (hf : formR l a0.tmps.size = true)
    (hC : ∀ w w', R w w' → C w → C w') (hV : ∀ i v w w', R w w' → V i v w → V i v w')
    (hstep : StepsR P Q R C V sk l a0 0 l)
    (hend : ∀ a w, C w → a.defers = a0.defers → a.tmps.size = a0.tmps.size → (∀ t, freeB l t = true → a.tmps.getD t undef = a0.tmps.getD t undef) →
      (∀ (i : Nat) (o : Oper), l[i]? = some o → sk i = false → V i (slotV o.dst a) w) → Q .normal a w) :
    ∀ (fuel : Nat) (listed : Array Bool) (a : Act) (w : World), listed.size = l.length → left l.length listed ≤ fuel → OkayR l C V sk a0 listed a w → wpAny P .any l.toArray Q fuel listed a w := by
  have hfin : ∀ (listed : Array Bool) (a : Act) (w : World), listed.size = l.length → OkayR l C V sk a0 listed a w → Region.ready .any l.toArray listed = [] → Q .normal a w := fun listed a w hs hok hr =>
    hend a w hok.c hok.defers hok.size hok.old fun i o ho hsk => hok.val i o ho hsk (readyR_nil hf hs hr i (List.getElem?_eq_some_iff.1 ho).1)
  intro fuel
  induction fuel with
  | zero =>
    intro listed a w hs hle hok
    have hr : Region.ready .any l.toArray listed = [] := by
      rcases hq : Region.ready .any l.toArray listed with _ | ⟨i, r⟩
      · rfl
      · have hi : i ∈ Region.ready .any l.toArray listed := by rw [hq]; exact List.mem_cons_self ..
        have := left_set hs (mem_ready.1 hi).1
        omega
    exact ⟨hr, hfin listed a w hs hok hr⟩
  | succ fuel ih =>
    intro listed a w hs hle hok
    refine ⟨hfin listed a w hs hok, fun i hi => ?_⟩
    obtain ⟨hun, o, ho, hall⟩ := mem_ready.1 hi
    have hol : l[i]? = some o := by simpa using ho
    obtain ⟨_, hlt⟩ := (formR_spec hf).1 i o hol
    have hst := hstep.at hol
    rw [Nat.zero_add] at hst
    have h1 := hst a w hok.c hok.size hok.old fun k hk hsk ok hkl => by
      rw [List.any_eq_true] at hk
      obtain ⟨e, he, hb⟩ := hk
      rw [Bool.and_eq_true] at hb
      have hek : e.on = k := by simpa using hb.1
      exact hok.val k ok hkl hsk (by rw [← hek]; exact hall e (Array.mem_toList_iff.1 he) hb.2)
    have hold : ∀ v, ∀ t, freeB l t = true → (a.put o.dst v).tmps.getD t undef = a0.tmps.getD t undef := fun v t ht => by
      have hne : o.dst ≠ some t := by
        have := List.all_eq_true.1 ht o (List.mem_of_getElem? hol)
        simpa using this
      rw [put_getD_other hne]; exact hok.old t ht
    have hother : ∀ (v : Value) (j : Nat) (oj : Oper), l[j]? = some oj → j ≠ i → slotV oj.dst (a.put o.dst v) = slotV oj.dst a := fun v j oj hoj hne => by
      cases hjt : oj.dst with
      | none => rfl
      | some t =>
        refine put_getD_other fun hd => hne ?_
        exact ((formR_spec hf).2 i j o oj t hol hoj hd hjt).symm
    unfold wpOp
    simp only [ho]
    by_cases hsk : sk i = true
    · rw [if_pos hsk] at h1
      rw [if_neg (by rw [h1]; decide)]
      refine ih _ _ _ (by simpa using hs) (by have := left_set hs hun; omega) ⟨hok.c, by rw [put_defers]; exact hok.defers, by rw [put_size]; exact hok.size, hold _, fun j oj hoj hsj hlj => ?_⟩
      rcases getD_set_cases hlj with rfl | hlj
      · rw [hsk] at hsj; cases hsj
      · have hne : j ≠ i := fun e => by subst e; rw [hsk] at hsj; cases hsj
        rw [hother _ j oj hoj hne]
        exact hok.val j oj hoj hsj hlj
    · rw [if_neg hsk] at h1
      rw [if_pos h1.1]
      refine .inl (Oper.wp_mono ?_ h1.2)
      rintro a' w' ⟨v, rfl, hb, hv⟩
      refine ih _ _ _ (by simpa using hs) (by have := left_set hs hun; omega) ⟨hC _ _ hb hok.c, by rw [put_defers]; exact hok.defers, by rw [put_size]; exact hok.size, hold _, fun j oj hoj hsj hlj => ?_⟩
      by_cases hji : j = i
      · subst hji
        obtain rfl : o = oj := by rw [hol] at hoj; exact Option.some.inj hoj
        have hsv : slotV o.dst (a.put o.dst v) = kept o.dst v := by
          cases hd : o.dst with
          | none => rfl
          | some t => exact put_getD_same (by rw [hok.size]; exact hlt t hd)
        rw [hsv]
        exact hv
      · rcases getD_set_cases hlj with h | hlj
        · exact (hji h).elim
        · rw [hother _ j oj hoj hji]
          exact hV j _ w w' hb (hok.val j oj hoj hsj hlj)
/-- a region that draws its order, every operation alone; stores and guards too -/
theorem wp_region_inr {id : Nat} {l : List Oper} {a0 : Act} {w : World} (hm : P.follows .mixedOrders = true) (R : World → World → Prop) (C : World → Prop) (V : Nat → Value → World → Prop) (sk : Nat → Bool) (hf : formR l a0.tmps.size = true)
    (hC : ∀ w w', R w w' → C w → C w') (hV : ∀ i v w w', R w w' → V i v w → V i v w') (h0 : C w.drew)
    (hstep : StepsR P Q R C V sk l a0 0 l)
    (hend : ∀ a w, C w → a.defers = a0.defers → a.tmps.size = a0.tmps.size → (∀ t, freeB l t = true → a.tmps.getD t undef = a0.tmps.getD t undef) →
      (∀ (i : Nat) (o : Oper), l[i]? = some o → sk i = false → V i (slotV o.dst a) w) → Q .normal a w) : (Code.region id l.toArray true).wp P Q a0 w := by
  refine wp_region_any hm ?_
  have hn : (Array.replicate l.toArray.size false).size = l.length := by simp
  refine wpAny_inr hf hC hV hstep hend _ _ _ _ hn ?_ ⟨h0, rfl, rfl, fun t _ => rfl, fun i o ho _ hl => ?_⟩
  · have := List.length_filter_le (fun i => !(Array.replicate l.toArray.size false).getD i true) (List.range l.length)
    unfold left
    simpa using this
  · exfalso
    have hi := (List.getElem?_eq_some_iff.1 ho).1
    simp [Array.getD, hi] at hl
end
section
/-- a block's cells, some set from an offset on -/
def setN (W : World) (g : Nat) : Nat → List Value → World
  | _, [] => W
  | o, v :: r => setN (W.setCell ⟨g, o, none⟩ v) g (o + 1) r
def putN : List Value → Nat → List Value → List Value
  | cs, _, [] => cs
  | cs, o, v :: r => putN (cs.set o v) (o + 1) r
theorem putN_length : ∀ (vs cs : List Value) (o : Nat), (putN cs o vs).length = cs.length
  | [], _, _ => rfl
  | v :: r, cs, o => by rw [putN, putN_length r]; simp
theorem Bx.setN {g : Nat} {t : TypeId} : ∀ (vs : List Value) {W : World} {cs : List Value} (o : Nat), Bx W g t cs → Bx (setN W g o vs) g t (putN cs o vs)
  | [], _, _, _, h => h
  | v :: r, _, _, o, h => Bx.setN r (o + 1) (h.set o v)
theorem KeptR.setN {g : Nat} {w : World} : ∀ (vs : List Value) {W : World} (o : Nat), KeptR (some g) w W → KeptR (some g) w (setN W g o vs)
  | [], _, _, h => h
  | v :: r, W, o, h => KeptR.setN r (o + 1) ⟨by simpa using h.1, fun k h1 h2 => (Below.heap_setCell W ⟨g, o, none⟩ v k (fun e => h2 (congrArg some e))).trans (h.2 k h1 h2)⟩
theorem Below.setN {B g : Nat} {w : World} (hg : B ≤ g) : ∀ (vs : List Value) {W : World} (o : Nat), Below B w W → Below B w (setN W g o vs)
  | [], _, _, h => h
  | v :: r, _, o, h => Below.setN hg r (o + 1) (h.setCell hg v)
/-- what a region may do that stores into one block of the call's own: 'D' says what stays once it is so -/
def RegW (B g : Nat) (t : TypeId) (n : Nat) (D : Nat → World → Prop) (w W : World) : Prop :=
  Below B w W ∧ KeptR (some g) w W ∧ ((∃ cs : List Value, cs.length = n ∧ Bx w g t cs) → ∃ cs : List Value, cs.length = n ∧ Bx W g t cs) ∧ ∀ k, D k w → D k W
variable {B g : Nat} {t : TypeId} {n : Nat} {D : Nat → World → Prop} {w W W' : World}
theorem RegW.refl : RegW B g t n D w w := ⟨Below.refl _ _, KeptR.refl _ _, id, fun _ => id⟩
theorem RegW.call (hD : ∀ k w W, Below w.heap.size w W → D k w → D k W) (hB : B ≤ w.heap.size) (hb : Below w.heap.size w W) : RegW B g t n D w W :=
  ⟨hb.mono hB, (KeptR.refl _ _).call hb, fun ⟨cs, h1, h2⟩ => ⟨cs, h1, h2.call hb⟩, fun k => hD k _ _ hb⟩
theorem RegW.store (hg : B ≤ g) (o : Nat) (vs : List Value) (hD : ∀ k, D k w → D k (Go.Proofs.Ytkebnmmcogkldaa.setN w g o vs)) : RegW B g t n D w (Go.Proofs.Ytkebnmmcogkldaa.setN w g o vs) :=
  ⟨Below.setN hg vs o (Below.refl _ _), KeptR.setN vs o (KeptR.refl _ _), fun ⟨cs, h1, h2⟩ => ⟨_, by rw [putN_length]; exact h1, h2.setN vs o⟩, hD⟩
theorem setN_other : ∀ (vs : List Value) {W : World} (o : Nat) (p : Addr), (p.block ≠ g ∨ p.off < o ∨ o + vs.length ≤ p.off) → (Go.Proofs.Ytkebnmmcogkldaa.setN W g o vs).cell? p = W.cell? p
  | [], _, _, _, _ => rfl
  | v :: r, W, o, p, h => by
    rw [Go.Proofs.Ytkebnmmcogkldaa.setN, setN_other r (o + 1) p (by simp only [List.length_cons] at h; omega)]
    refine World.cell?_setCell_other W _ _ _ fun e => ?_
    subst e
    simp only [List.length_cons] at h
    omega
theorem range_other {o : Nat} {vs xs : List Value} {o' : Nat} (h : w.rangeAt g o' xs) (hd : o' + xs.length ≤ o ∨ o + vs.length ≤ o') : (Go.Proofs.Ytkebnmmcogkldaa.setN w g o vs).rangeAt g o' xs := fun i v hv => by
  have hi := (List.getElem?_eq_some_iff.1 hv).1
  rw [setN_other vs o _ (by simp only; omega)]
  exact h i v hv
theorem range_far {o : Nat} {vs xs : List Value} {o' b : Nat} (h : w.rangeAt b o' xs) (hb : b ≠ g) : (Go.Proofs.Ytkebnmmcogkldaa.setN w g o vs).rangeAt b o' xs := fun i v hv => by
  rw [setN_other vs o _ (.inl hb)]
  exact h i v hv
theorem putN_get : ∀ (vs cs : List Value) (o i : Nat) (v : Value), o + vs.length ≤ cs.length → vs[i]? = some v → (putN cs o vs)[o + i]? = some v
  | [], _, _, _, _, _, h => by simp at h
  | x :: r, cs, o, 0, v, hl, h => by
    have e : x = v := by simpa using h
    subst e
    simp only [List.length_cons] at hl
    show (putN (cs.set o x) (o + 1) r)[o]? = some x
    rw [putN_lt r _ (o + 1) o (by omega), List.getElem?_set_self (by omega)]
  | x :: r, cs, o, i + 1, v, hl, h => by
    simp only [List.length_cons] at hl
    have := putN_get r (cs.set o x) (o + 1) i v (by simp; omega) (by simpa using h)
    rwa [Nat.add_assoc, Nat.add_comm 1 i] at this
where
  putN_lt : ∀ (vs cs : List Value) (o j : Nat), j < o → (putN cs o vs)[j]? = cs[j]?
  | [], _, _, _, _ => rfl
  | x :: r, cs, o, j, h => by rw [putN, putN_lt r _ (o + 1) j (by omega), List.getElem?_set_ne (by omega)]
theorem range_same {o : Nat} {vs : List Value} (h : ∃ cs : List Value, cs.length = n ∧ Bx w g t cs) (hl : o + vs.length ≤ n) : (Go.Proofs.Ytkebnmmcogkldaa.setN w g o vs).rangeAt g o vs := fun i v hv => by
  obtain ⟨cs, h1, h2⟩ := h
  exact (h2.setN vs o).cell (putN_get vs cs o i v (by omega) hv)
theorem Bx.ofRange {cs ds : List Value} (h : Bx w g t cs) (hd : w.rangeAt g 0 ds) (hl : ds.length = cs.length) : Bx w g t ds := by
  have e : cs = ds := by
    apply List.ext_getElem?
    intro i
    by_cases hi : i < ds.length
    · have h1 := hd i _ (List.getElem?_eq_getElem hi)
      rw [Nat.zero_add, h.cell (List.getElem?_eq_getElem (by omega))] at h1
      rw [List.getElem?_eq_getElem hi, List.getElem?_eq_getElem (by omega)]
      exact h1
    · rw [List.getElem?_eq_none (by omega), List.getElem?_eq_none (by omega)]
  subst e
  exact h
theorem range_call {b o : Nat} {xs : List Value} {W : World} (h : w.rangeAt b o xs) (hb : Below w.heap.size w W) : W.rangeAt b o xs := fun i v hv => by
  have h1 := h i v hv
  rw [← h1]
  exact hb.cell (p := ⟨b, o + i, none⟩) (World.block_lt_of_cell? w _ h1)
theorem range_join {b o : Nat} {xs ys : List Value} (h : w.rangeAt b o xs) (h' : w.rangeAt b (o + xs.length) ys) : w.rangeAt b o (xs ++ ys) := fun i v hv => by
  by_cases hi : i < xs.length
  · rw [List.getElem?_append_left hi] at hv; exact h i v hv
  · rw [List.getElem?_append_right (by omega)] at hv
    have := h' _ v hv
    rwa [show o + xs.length + (i - xs.length) = o + i by omega] at this
end
end Go.Proofs.Ytkebnmmcogkldaa
/- Chapter 9: what the law CircMonotone calls: slices.Clone and slices.ContainsFunc at scratches, and its closures. -/
namespace Go.Proofs.Ytkebnmmcogkldaa.C9
open Go.RowKit W8
set_option linter.unusedVariables false

theorem scc_oneK (s : Sc) : ∀ u ∈ scc s, u.oneCell' = true := fun u hu => by
  simp only [scc, List.mem_cons, List.not_mem_nil, or_false] at hu
  rcases hu with rfl | rfl <;> rfl
theorem Try.infoScK : (Try.prog.info? 34).map (fun i => (i.zero, i.size, i.bytes)) = some (some (.agg #[.int .i64 0, .int .i64 0]), 2, 16) := by kernel_rfl
set_option maxRecDepth 100000 in
set_option maxHeartbeats 1000000 in
theorem sclone9 (v : Value) (l : List Sc) (w : World) (hr : RdSc w v l) (hn : l.length ≤ 110) :
    Calls Try.prog 21 #[v] w fun e w' => ∃ v', e = .returned v' ∧ w'.ownsRow w.heap.size 34 2 v' l.length (flD scc l) ∧ Below w.heap.size w w' := by
  obtain ⟨a, c, rfl, hac⟩ := RdD.form hr
  have heq := fun W => Lib.run_eql_slice_nil (P := Try.prog) W 22 34 a l.length c 0 0 Try.underlying22
  cases a with
  | none =>
    have hl : l = [] := by
      obtain ⟨a, c, b, off, h1, _, h2⟩ := hr
      cases l with
      | nil => rfl
      | cons x l => have := (h2 0 (by simp)).1; injection h1 with h1; rw [← h1] at this; cases this
    subst hl
    simp only [List.length_nil] at heq
    go_enter Try.func21, Try.ntmps21
    go_wp2
    go_ret
    exact ⟨_, rfl, ⟨rfl, .inl ⟨rfl, rfl⟩⟩, Below.refl _ _⟩
  | some ad =>
    have hown0 : (w.alloc (.cells #[] 34)).ownsRow w.heap.size 34 2 (.slice (some ⟨w.heap.size, 0, none⟩) 0 0) 0 (flD scc []) := World.ownsRow_lit w #[] 0 (Nat.le_refl _) (by simp [maxLen]) (by simp)
    have hr1 : RdSc (w.alloc (.cells #[] 34)) (.slice (some ad) l.length c) l := RdD.keep hr ((Below.refl _ _).alloc (Nat.le_refl _) _)
    go_enter Try.func21, Try.ntmps21
    go_wp2_with (at_builtin; refine wpList_appD (d := scz) (D := scc) (l := []) (m := l) rfl _ _ rfl Try.underlying22 Try.infoScK rfl (by omega) scc_len scc_oneK hown0 rfl hr1 rfl (by unfold maxLen; omega) (by omega) (by simp) ?_; intro v' w' hown' hg')
    go_ret
    rw [Nat.zero_add, List.nil_append] at hown'
    exact ⟨v', rfl, hown', ((Below.refl _ _).alloc (Nat.le_refl _) _).grown hg' (by simp) (fun k hk => by obtain rfl := Option.some.inj hk; exact Nat.le_refl _)⟩

def scag (s : Sc) : Value := .agg #[.int .i64 s.f, .int .i64 s.c]
set_option maxRecDepth 100000 in
set_option maxHeartbeats 1000000 in
theorem in9_any (x : Sc) (f1 : 0 ≤ x.f) (f2 : x.f ≤ 1000) (c1 : 0 ≤ x.c) (c2 : x.c ≤ 1000) (g : Nat) (k : Nat) (w : World) (hg : w.cell? ⟨g, 0, none⟩ = some (.int .i64 k)) (hlt : g < w.heap.size) :
    Calls Try.prog 24 #[scag x, .pointer (some ⟨g, 0, none⟩)] w fun e w' => e = .returned (.bool (covX x x.c k)) ∧ Below w.heap.size w w' := by
  obtain ⟨xf, xc⟩ := x
  simp only at f1 f2 c1 c2
  unfold covX scag
  simp only
  have HL := Lib.hid hlt
  by_cases h1 : xf ≤ (k : Int)
  · by_cases h2 : (k : Int) < xf + xc
    · rw [decide_eq_true h1, decide_eq_true h2]
      go_enter Try.func24, Try.ntmps24
      go_wp2
      go_ret
      exact ⟨retB (by simp), (Below.refl _ _).alloc (Nat.le_refl _) _⟩
    · rw [decide_eq_true h1, decide_eq_false h2]
      go_enter Try.func24, Try.ntmps24
      go_wp2
      go_ret
      exact ⟨retB (by simp), (Below.refl _ _).alloc (Nat.le_refl _) _⟩
  · rw [decide_eq_false h1]
    go_enter Try.func24, Try.ntmps24
    go_wp2
    go_ret
    exact ⟨retB (by simp), (Below.refl _ _).alloc (Nat.le_refl _) _⟩
def gonT (l : List Sc) (g n : Nat) : Bool := gon (l.take n) g
theorem gonT_succ (l : List Sc) (g n : Nat) (hn : n < l.length) : gonT l g (n + 1) = (gonT l g n || covX (scA l n) (scA l n).c g) := by
  unfold gonT
  have e : l.take (n + 1) = l.take n ++ [scA l n] := by
    rw [List.take_succ_eq_append_getElem hn]
    simp [scA, atD, hn]
  rw [e, gon_snoc]
set_option maxRecDepth 100000 in
set_option maxHeartbeats 2000000 in
theorem idx9 (v : Value) (l : List Sc) (w : World) (hr : RdSc w v l) (hn : l.length ≤ 110) (hs : ∀ i, i < l.length → (0 ≤ (scA l i).f ∧ (scA l i).f ≤ 1000) ∧ (0 ≤ (scA l i).c ∧ (scA l i).c ≤ 1000)) (g : Nat) (k : Nat) (hg : w.cell? ⟨g, 0, none⟩ = some (.int .i64 k)) (hg2 : g < w.heap.size) :
    Calls Try.prog 39 #[v, .func (.func 24) #[] #[.pointer (some ⟨g, 0, none⟩)]] w
      fun e w' => ∃ r : Int, e = .returned (.int .i64 r) ∧ decide (0 ≤ r) = gon l k ∧ Below w.heap.size w w' := by
  obtain ⟨a, c, b, off, rfl, hac, hcell⟩ := hr
  have HC := Lib.hid hcell; clear hcell
  have HS := Lib.hid hs; clear hs
  go_enter Try.func39, Try.ntmps39
  go_wp2_with fail
  go_loopw [8] (fun vi wr => ∃ (i : Nat), i ≤ l.length ∧ vi = .int .i64 i ∧ Hid (gonT l k i = false) ∧ Below w.heap.size w wr) (fun vi _ => l.length - (intOf vi).toNat)
  case atStart => exact ⟨0, by omega, rfl, Lib.hid rfl, Below.refl _ _⟩
  case round =>
    obtain ⟨i, hi, rfl, HO, hb⟩ := hrel
    have hbs := hb.size
    have hgr : wr.cell? ⟨g, 0, none⟩ = some (.int .i64 k) := (hb.cell (p := ⟨g, 0, none⟩) hg2).trans hg
    by_cases hlt : i < l.length
    · obtain ⟨ha, hrange⟩ := HC.out i hlt
      have HG := Lib.hid (gonT_succ l k i hlt)
      obtain ⟨⟨s1, s2⟩, s3, s4⟩ := HS.out i hlt
      change w.rangeAt b (off + i * 2) (scc (scA l i)) at hrange
      obtain ⟨x, hx⟩ : ∃ x, x = scA l i := ⟨_, rfl⟩
      rw [← hx] at hrange HG s1 s2 s3 s4
      clear hx
      have hix := fun w' => run_idxS Try.underlying22 Try.sizeSc (cap := c) ha hlt _ rfl w'
      have hrg : wr.rangeAt b (off + i * 2) (scc x) := fun j u hu => (hb.cell (p := ⟨b, off + i * 2 + j, none⟩) (World.block_lt_of_cell? w _ (hrange j u hu))).trans (hrange j u hu)
      clear hrange
      obtain ⟨hc0, hc1⟩ := rd2 hrg
      clear hrg
      have Ha := Lib.hid ha; clear ha
      have HIN := Lib.hid (fun W h1 h2 => in9_any x s1 s2 s3 s4 g k W h1 h2)
      have HGR := Lib.hid hgr
      go_wp2_with fail
      refine (HIN.out _ (by exact HGR.out) (by omega)).mono ?_
      rintro e w1 ⟨rfl, hb1⟩
      have hbb := hb.trans (hb1.mono hbs)
      rw [show gonT l k i = false from HO.out, Bool.false_or] at HG
      generalize covX x x.c k = q at HG ⊢
      clear hb1
      cases q
      · go_wp2_with fail
        go_roundw
        case rel => exact ⟨i + 1, by omega, by go_num, HG, hbb⟩
        case measure => simp [intOf] <;> omega
      · go_wp2_with fail
        go_ret
        refine ⟨i, rfl, ?_, hbb⟩
        have h1 : gon l k = true := gon_mono (fun s hs => List.mem_of_mem_take hs) HG.out
        rw [h1]; simp
    · obtain rfl : i = l.length := by omega
      go_wp2_with fail
      go_ret
      refine ⟨-1, rfl, ?_, hb⟩
      have := HO.out
      unfold gonT at this
      rw [List.take_length] at this
      rw [this]; rfl
set_option maxRecDepth 100000 in
set_option maxHeartbeats 2000000 in
theorem cont9 (v : Value) (l : List Sc) (w : World) (hr : RdSc w v l) (hn : l.length ≤ 110) (hs : ∀ i, i < l.length → (0 ≤ (scA l i).f ∧ (scA l i).f ≤ 1000) ∧ (0 ≤ (scA l i).c ∧ (scA l i).c ≤ 1000)) (g : Nat) (k : Nat) (hg : w.cell? ⟨g, 0, none⟩ = some (.int .i64 k)) (hg2 : g < w.heap.size) :
    Calls Try.prog 23 #[v, .func (.func 24) #[] #[.pointer (some ⟨g, 0, none⟩)]] w fun e w' => e = .returned (.bool (gon l k)) ∧ Below w.heap.size w w' := by
  obtain ⟨a, c, rfl, _⟩ := RdD.form hr
  have HI := Lib.hid (idx9 _ l w hr hn hs g k hg hg2)
  go_enter Try.func23, Try.ntmps23
  go_wp2_with fail
  refine HI.out.mono ?_
  rintro e w1 ⟨r, rfl, hr1, hb⟩
  have HR1 := Lib.hid hr1; clear hr1
  go_wp2_with fail
  go_ret
  exact ⟨retB HR1.out, hb⟩
end Go.Proofs.Ytkebnmmcogkldaa.C9
/- Chapter 9: the closure of the law CircMonotone walked. -/
namespace Go.Proofs.Ytkebnmmcogkldaa
open Go.RowKit
set_option linter.unusedVariables false
theorem stepR_ex {P : Program} {Q : Exit → Act → World → Prop} {R : World → World → Prop} {V : Nat → Value → World → Prop} {i : Nat} {o : Oper} {a : Act} {w : World} (h : ∀ K : Act → World → Prop, (∀ v w', R w w' → V i (kept o.dst v) w' → K (a.put o.dst v) w') → o.wp P a w K Q) :
    o.wp P a w (fun a' w' => ∃ v, a' = a.put o.dst v ∧ R w w' ∧ V i (kept o.dst v) w') Q := h _ fun v w' h1 h2 => ⟨v, rfl, h1, h2⟩
theorem op_app {P : Program} {Q : Exit → Act → World → Prop} {o : Oper} {ac : Act} {w w' : World} {K : Act → World → Prop} (s x : Operand) {t' : TypeId} (hop : o.op = .call { callee := .builtin .append, args := #[s, x], argTypes := #[t', t'] }) {v vs v' : Value} (hv : ac.eval s = v) (hx : ac.eval x = vs)
    (hrun : (Builtin.append_ #[t', t'] o.type #[v, vs]).run P w = .ok v' w') (hK : K (ac.put o.dst v') w') : o.wp P ac w K Q := by
  unfold Oper.wp
  simp [execOp, hop, resolve, invoke, builtin, hv, hx, hrun, Result.andThen]
  exact hK
end Go.Proofs.Ytkebnmmcogkldaa
namespace Go.Proofs.Ytkebnmmcogkldaa.C9
open Go.RowKit W8
set_option linter.unusedVariables false

theorem lit9 (l : List Sc) (x : Sc) : ∀ j, l.length * 2 ≤ j → j < (scc x).length → (scc x)[j]? = (scc x)[j - l.length * 2]? := fun j h1 h2 => by
  rw [scc_len] at h2
  rw [show l.length * 2 = 0 by omega, Nat.sub_zero]
theorem own9 (l : List Sc) (x : Sc) : ∀ j, l.length * 2 ≤ j → j < (flD scc l).length → (flD scc l)[j]? = (scc x)[j - l.length * 2]? := fun j h1 h2 => by
  rw [flD_length scc_len] at h2; omega
theorem app9 (l : List Sc) (x : Sc) : ∀ j, l.length * 2 ≤ j → j < (flD scc (l ++ [x])).length → (flD scc (l ++ [x]))[j]? = (scc x)[j - l.length * 2]? := fun j h1 h2 => by
  rw [flD_append, flD_single, List.getElem?_append_right (by rw [flD_length scc_len]; exact h1), flD_length scc_len]
def mono1V (B : Nat) (l : List Sc) (mo : Sc) (a0 : Option Addr) (c0 g3 k : Nat) (i : Nat) (v : Value) (W : World) : Prop := match i with
  | 0 => v = .slice a0 l.length c0
  | 1 => W.ownsRow B 34 2 v l.length (flD scc l)
  | 2 => v = scag mo
  | 3 => ∃ g, v = .slice (some ⟨g, 0, none⟩) 1 1 ∧ B ≤ g ∧ Bx W g 34 (scc mo)
  | 4 => W.ownsRow B 34 2 v (l.length + 1) (flD scc (l ++ [mo]))
  | 5 => v = .func (.func 24) #[] #[.pointer (some ⟨g3, 0, none⟩)]
  | 6 => v = .bool (gon (l ++ [mo]) k)
  | 7 => v = .bool (gon (l ++ [mo]) k)
  | _ => True
theorem mono1V_keep (B : Nat) (l : List Sc) (mo : Sc) (a0 : Option Addr) (c0 g3 k : Nat) (i : Nat) (v : Value) (W W' : World) (hR : (RegA B 34 (l.length * 2) (scc mo)) W W') (h : mono1V B l mo a0 c0 g3 k i v W) : mono1V B l mo a0 c0 g3 k i v W' := by
  by_cases h1 : i = 1
  · subst h1
    exact hR.row (Nat.le_refl _) h fun _ => own9 l mo
  by_cases h3 : i = 3
  · subst h3
    obtain ⟨g, hv, hg, hb⟩ := h
    exact ⟨g, hv, hg, hR.bx hg hb fun _ => lit9 l mo⟩
  by_cases h4 : i = 4
  · subst h4
    exact hR.row (Nat.le_refl _) h fun _ => app9 l mo
  unfold mono1V at h ⊢
  split at h <;> first | exact h | exact absurd rfl h1 | exact absurd rfl h3 | exact absurd rfl h4
set_option maxRecDepth 100000 in
set_option maxHeartbeats 4000000 in
theorem mono_covered (l : List Sc) (mo : Sc) (hn : l.length ≤ 100) (hs : ∀ i, i < (l ++ [mo]).length → (0 ≤ (scA (l ++ [mo]) i).f ∧ (scA (l ++ [mo]) i).f ≤ 1000) ∧ (0 ≤ (scA (l ++ [mo]) i).c ∧ (scA (l ++ [mo]) i).c ≤ 1000))
    (v : Value) (w : World) (hr : RdSc w v l) (g4 g5 : Nat) (hg4 : g4 < w.heap.size) (hg5 : g5 < w.heap.size) (h4 : w.cell? ⟨g4, 0, none⟩ = some v) (h5 : w.cell? ⟨g5, 0, none⟩ = some (.int .i64 mo.f) ∧ w.cell? ⟨g5, 1, none⟩ = some (.int .i64 mo.c)) (k : Nat) :
    Calls Try.prog 22 #[.int .i64 k, .pointer (some ⟨g4, 0, none⟩), .pointer (some ⟨g5, 0, none⟩)] w fun e w' => e = .returned (.bool (gon (l ++ [mo]) k)) ∧ Below w.heap.size w w' := by
  obtain ⟨a0, c0, rfl, _⟩ := RdD.form hr
  obtain ⟨w1, hw1⟩ : ∃ w1, w1 = w.alloc (.cells #[.int .i64 k] 3) := ⟨_, rfl⟩
  have hA : Below w.heap.size w w1 := by rw [hw1]; exact (Below.refl _ _).alloc (Nat.le_refl _) _
  obtain ⟨g3, hg3e⟩ : ∃ g3, g3 = w.heap.size := ⟨_, rfl⟩
  have h3 : w1.cell? ⟨g3, 0, none⟩ = some (.int .i64 k) := by rw [hw1, hg3e]; exact (Bx.new w 3 [.int .i64 k]).cell rfl
  have hsz : w1.heap.size = w.heap.size + 1 := by rw [hw1]; simp
  obtain ⟨B, hB⟩ : ∃ B, B = w1.heap.size := ⟨_, rfl⟩
  have H4 := Lib.hid ((hA.cell (p := ⟨g4, 0, none⟩) hg4).trans h4)
  have H5 := Lib.hid (And.intro ((hA.cell (p := ⟨g5, 0, none⟩) hg5).trans h5.1) ((hA.cell (p := ⟨g5, 1, none⟩) hg5).trans h5.2))
  have H3 := Lib.hid h3
  have hr1 : RdSc w1 (.slice a0 l.length c0) l := RdD.keep hr hA
  have HCL := Lib.hid (fun W (hb : Below B w1 W) => sclone9 _ l W (RdD.keep hr1 (hB ▸ hb)) (by omega))
  have HCF := Lib.hid (fun W v4 hr4 hq hlt => cont9 v4 (l ++ [mo]) W hr4 (by simp; omega) hs g3 k hq hlt)
  have HN := Lib.hid hn
  have HB := Lib.hid hB
  have HA := Lib.hid hA
  replace hg4 : g4 < B := by omega
  replace hg5 : g5 < B := by omega
  have hg3 : g3 < B := by omega
  have HW := Lib.hid hw1
  have HG := Lib.hid hg3e
  have HSZ := Lib.hid hsz
  clear hw1 hA hg3e h3 hsz hB h4 h5 hr hr1 hs hn
  go_enter Try.func22, Try.ntmps22
  go_upto_region 1 with (fail)
  have hw1 := HW.out
  have hg3e := HG.out
  rw [← hw1, ← hg3e]
  clear hw1 hg3e HW HG
  refine wp_region_inr (by kernel_rfl) (RegA B 34 (l.length * 2) (scc mo)) (fun W => Below B w1 W) (mono1V B l mo a0 c0 g3 k) (fun _ => false) (by kernel_rfl) (fun W W' hR h => h.trans hR.1) (mono1V_keep B l mo a0 c0 g3 k) ((Below.refl _ _).drew) ⟨?_, ?_, ?_, ?_, ?_, ?_, ?_, ?_, trivial⟩ ?_
  · intro a W hc hsz hold hdep
    have o1 : a.tmps.getD 1 undef = .pointer (some ⟨g4, 0, none⟩) := hold 1 (by kernel_rfl)
    have q0 := (hc.cell (p := ⟨g4, 0, none⟩) hg4).trans H4.out
    clear hsz hold hdep
    refine stepR_do rfl (wanted_none rfl) ?_
    refine stepR_val (v := .slice a0 l.length c0) RegA.refl rfl fun K hK => ?_
    go_simp
    exact hK
  · intro a W hc hsz hold hdep
    have d0 : a.tmps.getD 5 undef = .slice a0 l.length c0 := hdep 0 (by kernel_rfl) rfl _ rfl
    have e0 : a.tmps[5]?.getD undef = .slice a0 l.length c0 := by rw [← Array.getD_eq_getD_getElem?]; exact d0
    have hBW : B ≤ W.heap.size := Nat.le_trans (Nat.le_of_eq HB.out) hc.size
    clear hsz hold hdep
    refine stepR_do rfl (wanted_none rfl) ?_
    refine stepR_ex fun K hK => ?_
    go_simp
    refine (HCL.out W hc).mono ?_
    rintro e w' ⟨v', rfl, ho, hb⟩
    exact hK v' w' (RegA.call hBW hb) (own_mono ho hBW)
  · intro a W hc hsz hold hdep
    have o2 : a.tmps.getD 2 undef = .pointer (some ⟨g5, 0, none⟩) := hold 2 (by kernel_rfl)
    have q0 := (hc.cell (p := ⟨g5, 0, none⟩) hg5).trans H5.out.1
    have q1 := (hc.cell (p := ⟨g5, 1, none⟩) hg5).trans H5.out.2
    clear hsz hold hdep
    refine stepR_do rfl (wanted_none rfl) ?_
    refine stepR_val (v := scag mo) RegA.refl rfl fun K hK => ?_
    go_simp
    exact hK
  · intro a W hc hsz hold hdep
    have d2 : a.tmps.getD 7 undef = scag mo := hdep 2 (by kernel_rfl) rfl _ rfl
    have e2 : a.tmps[7]?.getD undef = scag mo := by rw [← Array.getD_eq_getD_getElem?]; exact d2
    have hBW : B ≤ W.heap.size := Nat.le_trans (Nat.le_of_eq HB.out) hc.size
    clear hsz hold hdep
    refine stepR_do rfl (wanted_none rfl) ?_
    refine stepR_new (w' := W.alloc (.cells (scc mo).toArray 34)) (v := .slice (some ⟨W.heap.size, 0, none⟩) 1 1) (RegA.call hBW ((Below.refl _ _).alloc (Nat.le_refl _) _)) ⟨_, rfl, hBW, Bx.new _ _ _⟩ fun K hK => ?_
    go_simp
    exact hK
  · intro a W hc hsz hold hdep
    have x1 := hdep 1 (by kernel_rfl) rfl _ rfl
    have x3 := hdep 3 (by kernel_rfl) rfl _ rfl
    have hBW : B ≤ W.heap.size := Nat.le_trans (Nat.le_of_eq HB.out) hc.size
    clear hsz hold hdep
    refine stepR_do rfl (wanted_none rfl) ?_
    obtain ⟨gl, hgl, hgB, hbx⟩ := x3
    obtain ⟨i0, hi, hz0, hz1, hz2⟩ := info_parts Try.infoScK
    have hn := HN.out
    obtain ⟨v', w', hrun, r1, r2⟩ := RegA.append (P := Try.prog) (ty := 22) Try.underlying22 hi hz0 hz1 hz2 rfl (by omega) x1 rfl (a := ⟨gl, 0, none⟩) (m := 1) (c := 1) (cs := scc mo) (by omega) rfl (fun j u hu => by rw [Addr.add_lit, Nat.zero_add]; exact hbx.cell hu) (scc_oneK mo) (by unfold maxLen; omega) (by omega) hBW
    refine stepR_ex fun K hK => ?_
    refine op_app (.tmp 6) (.tmp 8) rfl rfl hgl hrun (hK v' w' r2 ?_)
    show w'.ownsRow B 34 2 v' (l.length + 1) (flD scc (l ++ [mo]))
    rw [flD_append, flD_single]
    exact r1
  · intro a W hc hsz hold hdep
    have o3 : a.tmps.getD 3 undef = .pointer (some ⟨g3, 0, none⟩) := hold 3 (by kernel_rfl)
    clear hsz hold hdep
    refine stepR_do rfl (wanted_none rfl) ?_
    refine stepR_val (v := .func (.func 24) #[] #[.pointer (some ⟨g3, 0, none⟩)]) RegA.refl rfl fun K hK => ?_
    go_simp
    exact hK
  · intro a W hc hsz hold hdep
    have x4 := hdep 4 (by kernel_rfl) rfl _ rfl
    have d5 : a.tmps.getD 10 undef = .func (.func 24) #[] #[.pointer (some ⟨g3, 0, none⟩)] := hdep 5 (by kernel_rfl) rfl _ rfl
    have e5 : a.tmps[10]?.getD undef = .func (.func 24) #[] #[.pointer (some ⟨g3, 0, none⟩)] := by rw [← Array.getD_eq_getD_getElem?]; exact d5
    have hBW : B ≤ W.heap.size := Nat.le_trans (Nat.le_of_eq HB.out) hc.size
    clear hsz hold hdep
    refine stepR_do rfl (wanted_none rfl) ?_
    refine stepR_call (v := .bool (gon (l ++ [mo]) k)) (fun W' hb => RegA.call hBW hb) (fun _ => rfl) fun K hK => ?_
    have hown : W.ownsRow B 34 2 (a.tmps.getD 9 undef) (l.length + 1) (flD scc (l ++ [mo])) := x4
    obtain ⟨v4, hv4⟩ : ∃ v4, v4 = a.tmps.getD 9 undef := ⟨_, rfl⟩
    rw [← hv4] at hown
    have e4 : a.tmps[9]?.getD undef = v4 := by rw [← Array.getD_eq_getD_getElem?]; exact hv4.symm
    have q0 := (hc.cell (p := ⟨g3, 0, none⟩) hg3).trans H3.out
    have HCO := Lib.hid (HCF.out W v4 (RdD.ofOwn scc_len (by rw [List.length_append]; exact hown)) q0 (by omega))
    clear hown hv4 x4 q0
    go_simp
    refine HCO.out.mono ?_
    rintro e w' ⟨rfl, hb'⟩
    exact hK _ hb'
  · intro a W hc hsz hold hdep
    have d6 : a.tmps.getD 11 undef = .bool (gon (l ++ [mo]) k) := hdep 6 (by kernel_rfl) rfl _ rfl
    clear hsz hold hdep
    refine stepR_do rfl (wanted_none rfl) ?_
    refine stepR_val (v := .bool (gon (l ++ [mo]) k)) RegA.refl rfl fun K hK => ?_
    go_simp
    exact hK
  · intro a W hC hd hsz hold hval
    have d4 : a.tmps.getD 4 undef = .bool (gon (l ++ [mo]) k) := hval 7 _ rfl rfl
    clear hold
    obtain ⟨tm, df⟩ := a
    replace hd : df = [] := hd
    replace hsz : tm.size = 12 := hsz
    replace d4 : tm.getD 4 undef = .bool (gon (l ++ [mo]) k) := d4
    subst hd
    have e : tm = #[tm.getD 0 undef, tm.getD 1 undef, tm.getD 2 undef, tm.getD 3 undef, tm.getD 4 undef, tm.getD 5 undef, tm.getD 6 undef, tm.getD 7 undef, tm.getD 8 undef, tm.getD 9 undef, tm.getD 10 undef, tm.getD 11 undef] := arr_eq tm 12 hsz
    rw [d4] at e
    clear d4 hsz
    generalize tm.getD 0 undef = v0 at e
    generalize tm.getD 1 undef = v1 at e
    generalize tm.getD 2 undef = v2 at e
    generalize tm.getD 3 undef = v3 at e
    generalize tm.getD 5 undef = v5 at e
    generalize tm.getD 6 undef = v6 at e
    generalize tm.getD 7 undef = v7 at e
    generalize tm.getD 8 undef = v8 at e
    generalize tm.getD 9 undef = v9 at e
    generalize tm.getD 10 undef = v10 at e
    generalize tm.getD 11 undef = v11 at e
    subst e
    have hle := hC
    clear hval hC
    have hout : Below w.heap.size w W := HA.out.trans (hle.mono (by rw [HB.out]; exact HA.out.size))
    go_wp2_with fail
    go_ret
    exact ⟨rfl, hout⟩
end Go.Proofs.Ytkebnmmcogkldaa.C9
/- Chapter 9: the law CircMonotone walked. -/
namespace Go.Proofs.Ytkebnmmcogkldaa.C9
open Go.RowKit W8
set_option linter.unusedVariables false

def mono6V (B : Nat) (l : List Sc) (mo : Sc) (a0 : Option Addr) (c0 n : Nat) (rb : List Int × Int) (i : Nat) (v : Value) (W : World) : Prop := match i with
  | 0 => v = .int .i64 n
  | 1 => v = .slice a0 l.length c0
  | 2 => W.ownsRow B 34 2 v l.length (flD scc l)
  | 3 => v = scag mo
  | 4 => ∃ g, v = .slice (some ⟨g, 0, none⟩) 1 1 ∧ B ≤ g ∧ Bx W g 34 (scc mo)
  | 5 => W.ownsRow B 34 2 v (l.length + 1) (flD scc (l ++ [mo]))
  | 6 => ∃ u, v = .tuple #[u, .int .i64 rb.2] ∧ W.ownsRow B 3 1 u rb.1.length (is rb.1)
  | 7 => ∃ u, v = .tuple #[u, .int .i64 rb.2] ∧ W.ownsRow B 3 1 u rb.1.length (is rb.1)
  | 8 => W.ownsRow B 3 1 v rb.1.length (is rb.1)
  | 9 => v = .int .i64 rb.2
  | 10 => W.ownsRow B 3 1 v rb.1.length (is rb.1)
  | 11 => v = .int .i64 rb.2
  | _ => True
theorem mono6V_keep (B : Nat) (l : List Sc) (mo : Sc) (a0 : Option Addr) (c0 n : Nat) (rb : List Int × Int) (i : Nat) (v : Value) (W W' : World) (hR : (RegA B 34 (l.length * 2) (scc mo)) W W') (h : mono6V B l mo a0 c0 n rb i v W) : mono6V B l mo a0 c0 n rb i v W' := by
  by_cases h2 : i = 2
  · subst h2
    exact hR.row (Nat.le_refl _) h fun _ => own9 l mo
  by_cases h4 : i = 4
  · subst h4
    obtain ⟨g, hv, hg, hb⟩ := h
    exact ⟨g, hv, hg, hR.bx hg hb fun _ => lit9 l mo⟩
  by_cases h5 : i = 5
  · subst h5
    exact hR.row (Nat.le_refl _) h fun _ => app9 l mo
  by_cases h6 : i = 6
  · subst h6
    obtain ⟨u, hu, ho⟩ := h
    exact ⟨u, hu, hR.row (Nat.le_refl _) ho fun e => absurd e (by decide)⟩
  by_cases h7 : i = 7
  · subst h7
    obtain ⟨u, hu, ho⟩ := h
    exact ⟨u, hu, hR.row (Nat.le_refl _) ho fun e => absurd e (by decide)⟩
  by_cases h8 : i = 8
  · subst h8
    exact hR.row (Nat.le_refl _) h fun e => absurd e (by decide)
  by_cases h10 : i = 10
  · subst h10
    exact hR.row (Nat.le_refl _) h fun e => absurd e (by decide)
  unfold mono6V at h ⊢
  split at h <;> first | exact h | exact absurd rfl h2 | exact absurd rfl h4 | exact absurd rfl h5 | exact absurd rfl h6 | exact absurd rfl h7 | exact absurd rfl h8 | exact absurd rfl h10
theorem RdI.at9 {w : World} {a : Option Addr} {c : Nat} {l : List Int} (h : RdI w (.slice a l.length c) l) : ∃ b off, ∀ i, i < l.length → a = some ⟨b, off, none⟩ ∧ w.cell? ⟨b, off + i, none⟩ = some (.int .i64 (ixI l i)) := by
  obtain ⟨_, ⟨a', c', b, o, hv, _, hcell⟩, _⟩ := h
  injection hv with e1 _ _
  subst e1
  exact ⟨b, o, hcell⟩
theorem contains9 (v : Value) (l : List Int) (x : Int) (w : World) (hv : RdI w v l) (hx : x ∈ l) :
    Calls Try.prog 25 #[v, .int .i64 x] w fun e w' => e = .returned (.bool true) ∧ w = w' := by
  obtain ⟨h0, ⟨a, cap, b, off, rfl, hcap, hcell⟩, hrng⟩ := hv
  have hpos : 0 < l.length := List.length_pos_of_mem hx
  obtain ⟨rfl, _⟩ := hcell 0 hpos
  refine (Try.slices_Contains_int b off l.length cap l x w (Nat.le_refl _) (by omega) (fun j hj => (hcell j hj).2)).mono ?_
  rintro e w' ⟨rfl, rfl⟩
  rw [List.take_length]
  exact ⟨by simpa using hx, rfl⟩
theorem lostR_natM {n : Nat} (l : List Sc) (h1 : 1 ≤ n) (h2 : n ≤ 401408) : lostR (n : Int) l = if fitA (n + 108) l = false then ([], 1) else (lostN l n, 0) := by
  unfold lostR
  rw [if_neg (by omega), Int.toNat_natCast]
theorem fit_sub {n : Nat} {l : List Sc} {x : Sc} (h : fitA n (l ++ [x]) = true) : fitA n l = true := by
  unfold fitA at h ⊢
  rw [List.all_append, Bool.and_eq_true] at h
  exact h.1
theorem fit_bd {n : Nat} {l : List Sc} (h : fitA n l = true) (hn : n ≤ 500) : ∀ i, i < l.length → (0 ≤ (scA l i).f ∧ (scA l i).f ≤ 1000) ∧ (0 ≤ (scA l i).c ∧ (scA l i).c ≤ 1000) := fun i hi => by
  unfold fitA at h
  have := (fitB_iff n _).1 (List.all_eq_true.1 h _ (atD_mem (d := scz) hi))
  unfold scA
  omega
set_option maxRecDepth 100000 in
set_option maxHeartbeats 16000000 in
theorem mono_main (w : World) (n : Nat) (n1 : 1 ≤ n) (n2 : n ≤ 300) (v1 : Value) (l : List Sc) (h1 : CameSc w v1 l) (hl : l.length ≤ 20) (mo : Sc) (hwf : Wf mo) :
    Calls Try.prog 6 #[.int .i64 n, v1, scag mo] w fun e w' => e = .returned (.bool true) ∧ Below w.heap.size w w' := by
  have HLO := Lib.hid (fun W hc => plost_any n v1 l W hc)
  have HLX := Lib.hid (fun W v hc => plost_any n v (l ++ [mo]) W hc)
  have HRA := Lib.hid (lostR_natM l n1 (by omega : n ≤ 401408))
  have HRB := Lib.hid (lostR_natM (l ++ [mo]) n1 (by omega : n ≤ 401408))
  generalize lostR (n : Int) l = ra at HLO HRA
  generalize lostR (n : Int) (l ++ [mo]) = rb at HLX HRB
  have HWF : Hid (∀ i, i < (l ++ [mo]).length → Wf (scA (l ++ [mo]) i)) := Lib.hid (fun i hi => by
    rw [List.length_append] at hi
    by_cases e : i < l.length
    · have : scA (l ++ [mo]) i = scA l i := by unfold scA; rw [atD_append_lt _ _ _ e]
      rw [this]; exact h1.2.1 i e
    · have e2 : i = l.length := by simp at hi; omega
      have : scA (l ++ [mo]) i = mo := by unfold scA; rw [e2, atD_append_eq]
      rw [this]; exact hwf)
  have HLB := Lib.hid (fun W v (hr : RdSc W v (l ++ [mo])) => HLX.out W v ⟨hr, HWF.out, by simp; omega⟩)
  have HC := Lib.hid h1
  have HN : Hid (l.length ≤ 100) := Lib.hid (by omega)
  obtain ⟨a0, c0, rfl, _⟩ := RdD.form h1.1
  obtain ⟨w1, hw1⟩ : ∃ w1, w1 = (w.alloc (.cells #[.slice a0 l.length c0] 22)).alloc (.cells (scc mo).toArray 34) := ⟨_, rfl⟩
  have hA : Below w.heap.size w w1 := by rw [hw1]; exact ((Below.refl _ _).alloc (Nat.le_refl _) _).alloc (by simp) _
  obtain ⟨g4, hg4e⟩ : ∃ g4, g4 = w.heap.size := ⟨_, rfl⟩
  obtain ⟨g5, hg5e⟩ : ∃ g5, g5 = w.heap.size + 1 := ⟨_, rfl⟩
  have h4 : w1.cell? ⟨g4, 0, none⟩ = some (.slice a0 l.length c0) := by
    rw [hw1, hg4e]; exact ((Bx.new w 22 [.slice a0 l.length c0]).alloc _).cell rfl
  have hb5 : Bx w1 g5 34 (scc mo) := by
    have := Bx.new (w.alloc (.cells #[.slice a0 l.length c0] 22)) 34 (scc mo)
    rw [hw1, hg5e]
    simpa using this
  have h5 : w1.cell? ⟨g5, 0, none⟩ = some (.int .i64 mo.f) ∧ w1.cell? ⟨g5, 1, none⟩ = some (.int .i64 mo.c) := ⟨hb5.cell (i := 0) rfl, hb5.cell (i := 1) rfl⟩
  have hsz : w1.heap.size = w.heap.size + 2 := by rw [hw1]; simp
  have HA := Lib.hid hA
  have HW := Lib.hid hw1
  have HG4 := Lib.hid hg4e
  have HG5 := Lib.hid hg5e
  have HSZ := Lib.hid hsz
  have HX4 := Lib.hid h4
  have HX5 := Lib.hid h5
  clear hw1 hA hg4e hg5e hsz h4 h5 hb5 h1 hwf
  unfold scag
  go_enter Try.func6, Try.ntmps6
  go_upto_region 1 with (fail)
  have hw1 := HW.out
  have hg4e := HG4.out
  have hg5e := HG5.out
  have e5 : g4 + 1 = g5 := by omega
  simp only [scc] at hw1
  try rw [← hw1]
  try rw [← hg4e]
  try simp only [e5]
  clear hw1 hg4e hg5e e5 HW
  go_wp2_with fail
  refine (awake9_any _).mono ?_
  rintro e w2 ⟨rfl, hb2⟩
  have hsz1 := HSZ.out
  have hg4 : g4 < w1.heap.size := by have := HG4.out; omega
  have hg5 : g5 < w1.heap.size := by have := HG5.out; omega
  have hq4 := (hb2.cell (p := ⟨g4, 0, none⟩) hg4).trans HX4.out
  have hq5 := And.intro ((hb2.cell (p := ⟨g5, 0, none⟩) hg5).trans HX5.out.1) ((hb2.cell (p := ⟨g5, 1, none⟩) hg5).trans HX5.out.2)
  have hs2 := hb2.size
  have hbw2 := HA.out.trans (hb2.mono HA.out.size)
  have HQ5 := Lib.hid hq5
  clear hb2 hq5 HX4 HX5 HA
  go_wp2_with fail
  refine (HLO.out w2 (HC.out.keep hbw2)).mono ?_
  rintro e w3 ⟨v3, rfl, ho3, hb3⟩
  obtain ⟨a3, c3, rfl⟩ := ownD_form ho3
  have H4 := Lib.hid ((hb3.cell (p := ⟨g4, 0, none⟩) (Nat.lt_of_lt_of_le hg4 hs2)).trans hq4)
  have H5 := Lib.hid (And.intro ((hb3.cell (p := ⟨g5, 0, none⟩) (Nat.lt_of_lt_of_le hg5 hs2)).trans HQ5.out.1) ((hb3.cell (p := ⟨g5, 1, none⟩) (Nat.lt_of_lt_of_le hg5 hs2)).trans HQ5.out.2))
  have hbw3 := hbw2.trans (hb3.mono hbw2.size)
  have hs3 := hb3.size
  obtain ⟨B, hB⟩ : ∃ B, B = w3.heap.size := ⟨_, rfl⟩
  have HB := Lib.hid hB
  replace hg4 : g4 < B := by omega
  replace hg5 : g5 < B := by omega
  have HCL := Lib.hid (fun W (hb : Below B w3 W) => sclone9 _ l W (RdD.keep (HC.out.keep hbw3).1 (hB ▸ hb)) (by omega))
  have HO3 := Lib.hid ho3
  have HBW3 := Lib.hid hbw3
  clear hB hq4 HQ5 hb3 hbw2 hbw3 ho3 hs2 hs3 hsz1
  go_upto_region 6 with (fail)
  refine wp_region_inr (by kernel_rfl) (RegA B 34 (l.length * 2) (scc mo)) (fun W => Below B w3 W) (mono6V B l mo a0 c0 n rb) (fun _ => false) (by kernel_rfl) (fun W W' hR h => h.trans hR.1) (mono6V_keep B l mo a0 c0 n rb) ((Below.refl _ _).drew) ⟨?_, ?_, ?_, ?_, ?_, ?_, ?_, ?_, ?_, ?_, ?_, ?_, trivial⟩ ?_
  · intro a W hc hsz hold hdep
    have o0 : a.tmps.getD 0 undef = .int .i64 n := hold 0 (by kernel_rfl)
    clear hsz hold hdep
    refine stepR_do rfl (wanted_none rfl) ?_
    refine stepR_val (v := .int .i64 n) RegA.refl rfl fun K hK => ?_
    go_simp
    exact hK
  · intro a W hc hsz hold hdep
    have o4 : a.tmps.getD 4 undef = .pointer (some ⟨g4, 0, none⟩) := hold 4 (by kernel_rfl)
    have q0 := (hc.cell (p := ⟨g4, 0, none⟩) hg4).trans H4.out
    clear hsz hold hdep
    refine stepR_do rfl (wanted_none rfl) ?_
    refine stepR_val (v := .slice a0 l.length c0) RegA.refl rfl fun K hK => ?_
    go_simp
    exact hK
  · intro a W hc hsz hold hdep
    have d1 : a.tmps.getD 37 undef = .slice a0 l.length c0 := hdep 1 (by kernel_rfl) rfl _ rfl
    have e1 : a.tmps[37]?.getD undef = .slice a0 l.length c0 := by rw [← Array.getD_eq_getD_getElem?]; exact d1
    have hBW : B ≤ W.heap.size := Nat.le_trans (Nat.le_of_eq HB.out) hc.size
    clear hsz hold hdep
    refine stepR_do rfl (wanted_none rfl) ?_
    refine stepR_ex fun K hK => ?_
    go_simp
    refine (HCL.out W hc).mono ?_
    rintro e w' ⟨v', rfl, ho, hb⟩
    exact hK v' w' (RegA.call hBW hb) (own_mono ho hBW)
  · intro a W hc hsz hold hdep
    have o5 : a.tmps.getD 5 undef = .pointer (some ⟨g5, 0, none⟩) := hold 5 (by kernel_rfl)
    have q0 := (hc.cell (p := ⟨g5, 0, none⟩) hg5).trans H5.out.1
    have q1 := (hc.cell (p := ⟨g5, 1, none⟩) hg5).trans H5.out.2
    clear hsz hold hdep
    refine stepR_do rfl (wanted_none rfl) ?_
    refine stepR_val (v := scag mo) RegA.refl rfl fun K hK => ?_
    go_simp
    exact hK
  · intro a W hc hsz hold hdep
    have d3 : a.tmps.getD 39 undef = scag mo := hdep 3 (by kernel_rfl) rfl _ rfl
    have e3 : a.tmps[39]?.getD undef = scag mo := by rw [← Array.getD_eq_getD_getElem?]; exact d3
    have hBW : B ≤ W.heap.size := Nat.le_trans (Nat.le_of_eq HB.out) hc.size
    clear hsz hold hdep
    refine stepR_do rfl (wanted_none rfl) ?_
    refine stepR_new (w' := W.alloc (.cells (scc mo).toArray 34)) (v := .slice (some ⟨W.heap.size, 0, none⟩) 1 1) (RegA.call hBW ((Below.refl _ _).alloc (Nat.le_refl _) _)) ⟨_, rfl, hBW, Bx.new _ _ _⟩ fun K hK => ?_
    go_simp
    exact hK
  · intro a W hc hsz hold hdep
    have x2 := hdep 2 (by kernel_rfl) rfl _ rfl
    have x4 := hdep 4 (by kernel_rfl) rfl _ rfl
    have hBW : B ≤ W.heap.size := Nat.le_trans (Nat.le_of_eq HB.out) hc.size
    clear hsz hold hdep
    refine stepR_do rfl (wanted_none rfl) ?_
    obtain ⟨gl, hgl, hgB, hbx⟩ := x4
    obtain ⟨i0, hi, hz0, hz1, hz2⟩ := info_parts Try.infoScK
    have hn := HN.out
    obtain ⟨v', w', hrun, r1, r2⟩ := RegA.append (P := Try.prog) (ty := 22) Try.underlying22 hi hz0 hz1 hz2 rfl (by omega) x2 rfl (a := ⟨gl, 0, none⟩) (m := 1) (c := 1) (cs := scc mo) (by omega) rfl (fun j u hu => by rw [Addr.add_lit, Nat.zero_add]; exact hbx.cell hu) (scc_oneK mo) (by unfold maxLen; omega) (by omega) hBW
    refine stepR_ex fun K hK => ?_
    refine op_app (.tmp 38) (.tmp 40) rfl rfl hgl hrun (hK v' w' r2 ?_)
    show w'.ownsRow B 34 2 v' (l.length + 1) (flD scc (l ++ [mo]))
    rw [flD_append, flD_single]
    exact r1
  · intro a W hc hsz hold hdep
    have d0 : a.tmps.getD 36 undef = .int .i64 n := hdep 0 (by kernel_rfl) rfl _ rfl
    have e0 : a.tmps[36]?.getD undef = .int .i64 n := by rw [← Array.getD_eq_getD_getElem?]; exact d0
    have x5 := hdep 5 (by kernel_rfl) rfl _ rfl
    have hBW : B ≤ W.heap.size := Nat.le_trans (Nat.le_of_eq HB.out) hc.size
    clear hsz hold hdep
    refine stepR_do rfl (wanted_none rfl) ?_
    have hown : W.ownsRow B 34 2 (a.tmps.getD 41 undef) (l.length + 1) (flD scc (l ++ [mo])) := x5
    obtain ⟨v4, hv4⟩ : ∃ v4, v4 = a.tmps.getD 41 undef := ⟨_, rfl⟩
    rw [← hv4] at hown
    have e4 : a.tmps[41]?.getD undef = v4 := by rw [← Array.getD_eq_getD_getElem?]; exact hv4.symm
    have HCO := Lib.hid (HLB.out W v4 (RdD.ofOwn scc_len (by rw [List.length_append]; exact hown)))
    clear hown hv4 x5
    refine stepR_ex fun K hK => ?_
    go_simp
    refine HCO.out.mono ?_
    rintro e w' ⟨u, rfl, ho, hb⟩
    exact hK _ w' (RegA.call hBW hb) ⟨u, rfl, own_mono ho hBW⟩
  · intro a W hc hsz hold hdep
    have x6 := hdep 6 (by kernel_rfl) rfl _ rfl
    clear hsz hold hdep
    refine stepR_do rfl (wanted_none rfl) ?_
    obtain ⟨u, hu⟩ : ∃ u, u = a.tmps.getD 42 undef := ⟨_, rfl⟩
    have hu' : a.tmps.getD 42 undef = u := hu.symm
    refine stepR_new (v := u) RegA.refl (hu ▸ x6) fun K hK => ?_
    clear hu x6
    go_simp
    exact hK
  · intro a W hc hsz hold hdep
    have x7 := hdep 7 (by kernel_rfl) rfl _ rfl
    clear hsz hold hdep
    refine stepR_do rfl (wanted_none rfl) ?_
    obtain ⟨u, hu, ho⟩ := x7
    have hu' : a.tmps.getD 35 undef = .tuple #[u, .int .i64 rb.2] := hu
    refine stepR_new (v := u) RegA.refl ho fun K hK => ?_
    clear hu ho
    go_simp
    exact hK
  · intro a W hc hsz hold hdep
    have x7 := hdep 7 (by kernel_rfl) rfl _ rfl
    clear hsz hold hdep
    refine stepR_do rfl (wanted_none rfl) ?_
    obtain ⟨u, hu, ho⟩ := x7
    have hu' : a.tmps.getD 35 undef = .tuple #[u, .int .i64 rb.2] := hu
    refine stepR_new (v := .int .i64 rb.2) RegA.refl rfl fun K hK => ?_
    clear hu ho
    go_simp
    exact hK
  · intro a W hc hsz hold hdep
    have x8 := hdep 8 (by kernel_rfl) rfl _ rfl
    clear hsz hold hdep
    refine stepR_do rfl (wanted_none rfl) ?_
    obtain ⟨u, hu⟩ : ∃ u, u = a.tmps.getD 43 undef := ⟨_, rfl⟩
    have hu' : a.tmps.getD 43 undef = u := hu.symm
    refine stepR_new (v := u) RegA.refl (hu ▸ x8) fun K hK => ?_
    clear hu x8
    go_simp
    exact hK
  · intro a W hc hsz hold hdep
    have d9 : a.tmps.getD 44 undef = .int .i64 rb.2 := hdep 9 (by kernel_rfl) rfl _ rfl
    clear hsz hold hdep
    refine stepR_do rfl (wanted_none rfl) ?_
    refine stepR_val (v := .int .i64 rb.2) RegA.refl rfl fun K hK => ?_
    go_simp
    exact hK
  · intro a W hC hd hsz hold hval
    obtain ⟨u9, hu9⟩ : ∃ u9, u9 = a.tmps.getD 9 undef := ⟨_, rfl⟩
    have HO9 : Hid (W.ownsRow B 3 1 u9 rb.1.length (is rb.1)) := Lib.hid (hu9 ▸ (hval 10 _ rfl rfl))
    have d0 : a.tmps.getD 0 undef = .int .i64 n := hold 0 (by kernel_rfl)
    have d4 : a.tmps.getD 4 undef = .pointer (some ⟨g4, 0, none⟩) := hold 4 (by kernel_rfl)
    have d5 : a.tmps.getD 5 undef = .pointer (some ⟨g5, 0, none⟩) := hold 5 (by kernel_rfl)
    have d7 : a.tmps.getD 7 undef = .slice a3 ra.1.length c3 := hold 7 (by kernel_rfl)
    have d8 : a.tmps.getD 8 undef = .int .i64 ra.2 := hold 8 (by kernel_rfl)
    have d9 : a.tmps.getD 9 undef = u9 := hu9.symm
    have d10 : a.tmps.getD 10 undef = .int .i64 rb.2 := hval 11 _ rfl rfl
    clear hold
    obtain ⟨tm, df⟩ := a
    replace hd : df = [] := hd
    replace hsz : tm.size = 119 := hsz
    replace d0 : tm.getD 0 undef = .int .i64 n := d0
    replace d4 : tm.getD 4 undef = .pointer (some ⟨g4, 0, none⟩) := d4
    replace d5 : tm.getD 5 undef = .pointer (some ⟨g5, 0, none⟩) := d5
    replace d7 : tm.getD 7 undef = .slice a3 ra.1.length c3 := d7
    replace d8 : tm.getD 8 undef = .int .i64 ra.2 := d8
    replace d9 : tm.getD 9 undef = u9 := d9
    replace d10 : tm.getD 10 undef = .int .i64 rb.2 := d10
    subst hd
    have e : tm = List.toArray (tm.getD 0 undef :: tm.getD 1 undef :: tm.getD 2 undef :: tm.getD 3 undef :: tm.getD 4 undef :: tm.getD 5 undef :: tm.getD 6 undef :: tm.getD 7 undef :: tm.getD 8 undef :: tm.getD 9 undef :: tm.getD 10 undef :: tm.getD 11 undef :: tm.getD 12 undef :: tm.getD 13 undef :: tm.getD 14 undef :: tm.getD 15 undef :: tm.getD 16 undef :: tm.getD 17 undef :: tm.getD 18 undef :: tm.getD 19 undef :: tm.getD 20 undef :: tm.getD 21 undef :: tm.getD 22 undef :: tm.getD 23 undef :: tm.getD 24 undef :: tm.getD 25 undef :: tm.getD 26 undef :: tm.getD 27 undef :: tm.getD 28 undef :: tm.getD 29 undef :: tm.getD 30 undef :: tm.getD 31 undef :: tm.getD 32 undef :: tm.getD 33 undef :: tm.getD 34 undef :: tm.getD 35 undef :: tm.getD 36 undef :: tm.getD 37 undef :: tm.getD 38 undef :: tm.getD 39 undef :: tm.getD 40 undef :: tm.getD 41 undef :: tm.getD 42 undef :: tm.getD 43 undef :: tm.getD 44 undef :: tm.getD 45 undef :: tm.getD 46 undef :: tm.getD 47 undef :: tm.getD 48 undef :: tm.getD 49 undef :: tm.getD 50 undef :: tm.getD 51 undef :: tm.getD 52 undef :: tm.getD 53 undef :: tm.getD 54 undef :: tm.getD 55 undef :: tm.getD 56 undef :: tm.getD 57 undef :: tm.getD 58 undef :: tm.getD 59 undef :: tm.getD 60 undef :: tm.getD 61 undef :: tm.getD 62 undef :: tm.getD 63 undef :: tm.getD 64 undef :: tm.getD 65 undef :: tm.getD 66 undef :: tm.getD 67 undef :: tm.getD 68 undef :: tm.getD 69 undef :: tm.getD 70 undef :: tm.getD 71 undef :: tm.getD 72 undef :: tm.getD 73 undef :: tm.getD 74 undef :: tm.getD 75 undef :: tm.getD 76 undef :: tm.getD 77 undef :: tm.getD 78 undef :: tm.getD 79 undef :: tm.getD 80 undef :: tm.getD 81 undef :: tm.getD 82 undef :: tm.getD 83 undef :: tm.getD 84 undef :: tm.getD 85 undef :: tm.getD 86 undef :: tm.getD 87 undef :: tm.getD 88 undef :: tm.getD 89 undef :: tm.getD 90 undef :: tm.getD 91 undef :: tm.getD 92 undef :: tm.getD 93 undef :: tm.getD 94 undef :: tm.getD 95 undef :: tm.getD 96 undef :: tm.getD 97 undef :: tm.getD 98 undef :: tm.getD 99 undef :: tm.getD 100 undef :: tm.getD 101 undef :: tm.getD 102 undef :: tm.getD 103 undef :: tm.getD 104 undef :: tm.getD 105 undef :: tm.getD 106 undef :: tm.getD 107 undef :: tm.getD 108 undef :: tm.getD 109 undef :: tm.getD 110 undef :: tm.getD 111 undef :: tm.getD 112 undef :: tm.getD 113 undef :: tm.getD 114 undef :: tm.getD 115 undef :: tm.getD 116 undef :: tm.getD 117 undef :: tm.getD 118 undef :: []) := arr_eq tm 119 hsz
    rw [d0, d4, d5, d7, d8, d9, d10] at e
    clear d0 d4 d5 d7 d8 d9 d10 hsz
    generalize tm.getD 1 undef = v1 at e
    generalize tm.getD 2 undef = v2 at e
    generalize tm.getD 3 undef = v3 at e
    generalize tm.getD 6 undef = v6 at e
    generalize tm.getD 11 undef = v11 at e
    generalize tm.getD 12 undef = v12 at e
    generalize tm.getD 13 undef = v13 at e
    generalize tm.getD 14 undef = v14 at e
    generalize tm.getD 15 undef = v15 at e
    generalize tm.getD 16 undef = v16 at e
    generalize tm.getD 17 undef = v17 at e
    generalize tm.getD 18 undef = v18 at e
    generalize tm.getD 19 undef = v19 at e
    generalize tm.getD 20 undef = v20 at e
    generalize tm.getD 21 undef = v21 at e
    generalize tm.getD 22 undef = v22 at e
    generalize tm.getD 23 undef = v23 at e
    generalize tm.getD 24 undef = v24 at e
    generalize tm.getD 25 undef = v25 at e
    generalize tm.getD 26 undef = v26 at e
    generalize tm.getD 27 undef = v27 at e
    generalize tm.getD 28 undef = v28 at e
    generalize tm.getD 29 undef = v29 at e
    generalize tm.getD 30 undef = v30 at e
    generalize tm.getD 31 undef = v31 at e
    generalize tm.getD 32 undef = v32 at e
    generalize tm.getD 33 undef = v33 at e
    generalize tm.getD 34 undef = v34 at e
    generalize tm.getD 35 undef = v35 at e
    generalize tm.getD 36 undef = v36 at e
    generalize tm.getD 37 undef = v37 at e
    generalize tm.getD 38 undef = v38 at e
    generalize tm.getD 39 undef = v39 at e
    generalize tm.getD 40 undef = v40 at e
    generalize tm.getD 41 undef = v41 at e
    generalize tm.getD 42 undef = v42 at e
    generalize tm.getD 43 undef = v43 at e
    generalize tm.getD 44 undef = v44 at e
    generalize tm.getD 45 undef = v45 at e
    generalize tm.getD 46 undef = v46 at e
    generalize tm.getD 47 undef = v47 at e
    generalize tm.getD 48 undef = v48 at e
    generalize tm.getD 49 undef = v49 at e
    generalize tm.getD 50 undef = v50 at e
    generalize tm.getD 51 undef = v51 at e
    generalize tm.getD 52 undef = v52 at e
    generalize tm.getD 53 undef = v53 at e
    generalize tm.getD 54 undef = v54 at e
    generalize tm.getD 55 undef = v55 at e
    generalize tm.getD 56 undef = v56 at e
    generalize tm.getD 57 undef = v57 at e
    generalize tm.getD 58 undef = v58 at e
    generalize tm.getD 59 undef = v59 at e
    generalize tm.getD 60 undef = v60 at e
    generalize tm.getD 61 undef = v61 at e
    generalize tm.getD 62 undef = v62 at e
    generalize tm.getD 63 undef = v63 at e
    generalize tm.getD 64 undef = v64 at e
    generalize tm.getD 65 undef = v65 at e
    generalize tm.getD 66 undef = v66 at e
    generalize tm.getD 67 undef = v67 at e
    generalize tm.getD 68 undef = v68 at e
    generalize tm.getD 69 undef = v69 at e
    generalize tm.getD 70 undef = v70 at e
    generalize tm.getD 71 undef = v71 at e
    generalize tm.getD 72 undef = v72 at e
    generalize tm.getD 73 undef = v73 at e
    generalize tm.getD 74 undef = v74 at e
    generalize tm.getD 75 undef = v75 at e
    generalize tm.getD 76 undef = v76 at e
    generalize tm.getD 77 undef = v77 at e
    generalize tm.getD 78 undef = v78 at e
    generalize tm.getD 79 undef = v79 at e
    generalize tm.getD 80 undef = v80 at e
    generalize tm.getD 81 undef = v81 at e
    generalize tm.getD 82 undef = v82 at e
    generalize tm.getD 83 undef = v83 at e
    generalize tm.getD 84 undef = v84 at e
    generalize tm.getD 85 undef = v85 at e
    generalize tm.getD 86 undef = v86 at e
    generalize tm.getD 87 undef = v87 at e
    generalize tm.getD 88 undef = v88 at e
    generalize tm.getD 89 undef = v89 at e
    generalize tm.getD 90 undef = v90 at e
    generalize tm.getD 91 undef = v91 at e
    generalize tm.getD 92 undef = v92 at e
    generalize tm.getD 93 undef = v93 at e
    generalize tm.getD 94 undef = v94 at e
    generalize tm.getD 95 undef = v95 at e
    generalize tm.getD 96 undef = v96 at e
    generalize tm.getD 97 undef = v97 at e
    generalize tm.getD 98 undef = v98 at e
    generalize tm.getD 99 undef = v99 at e
    generalize tm.getD 100 undef = v100 at e
    generalize tm.getD 101 undef = v101 at e
    generalize tm.getD 102 undef = v102 at e
    generalize tm.getD 103 undef = v103 at e
    generalize tm.getD 104 undef = v104 at e
    generalize tm.getD 105 undef = v105 at e
    generalize tm.getD 106 undef = v106 at e
    generalize tm.getD 107 undef = v107 at e
    generalize tm.getD 108 undef = v108 at e
    generalize tm.getD 109 undef = v109 at e
    generalize tm.getD 110 undef = v110 at e
    generalize tm.getD 111 undef = v111 at e
    generalize tm.getD 112 undef = v112 at e
    generalize tm.getD 113 undef = v113 at e
    generalize tm.getD 114 undef = v114 at e
    generalize tm.getD 115 undef = v115 at e
    generalize tm.getD 116 undef = v116 at e
    generalize tm.getD 117 undef = v117 at e
    generalize tm.getD 118 undef = v118 at e
    subst e
    have hle : Below w3.heap.size w3 W := by rw [← HB.out]; exact hC
    have hbw := HBW3.out.trans (hle.mono HBW3.out.size)
    have HO7 := Lib.hid (ownD_keep HO3.out hle)
    have hq4 := (hle.cell (p := ⟨g4, 0, none⟩) (by rw [← HB.out]; exact hg4)).trans H4.out
    have hq5 := And.intro ((hle.cell (p := ⟨g5, 0, none⟩) (by rw [← HB.out]; exact hg5)).trans H5.out.1) ((hle.cell (p := ⟨g5, 1, none⟩) (by rw [← HB.out]; exact hg5)).trans H5.out.2)
    have hgW : B ≤ W.heap.size := Nat.le_trans (Nat.le_of_eq HB.out) hle.size
    have HQ4 := Lib.hid hq4
    have HQ5 := Lib.hid hq5
    have HRD := Lib.hid (RdD.keep HC.out.1 hbw)
    obtain ⟨a9, c9, rfl⟩ := ownD_form HO9.out
    clear hval hC hle hq4 hq5 H4 H5 HBW3 HO3 HCL HLB HLX HLO HC hu9
    by_cases hfb : fitA (n + 108) (l ++ [mo]) = true
    · have hfa : fitA (n + 108) l = true := fit_sub hfb
      have hra := HRA.out
      rw [hfa, if_neg (by decide)] at hra
      have hrb := HRB.out
      rw [hfb, if_neg (by decide)] at hrb
      subst hra
      subst hrb
      simp only at HO7 HO9 ⊢
      have HSUB := Lib.hid (lostN_mono (l := l) (m := l ++ [mo]) (fun s hs => List.mem_append_left _ hs) n)
      have HMEM := Lib.hid (fun x => (mem_lostN (l ++ [mo]) x n).1)
      have HSRT := Lib.hid (lostN_sorted (l ++ [mo]) n)
      have HLA := Lib.hid (rdI_own HO7.out rfl (by have := lostN_length l n; omega) (fun x hx => by have := lostN_bd l n x hx; omega))
      have HLBR := Lib.hid (rdI_own HO9.out rfl (by have := lostN_length (l ++ [mo]) n; omega) (fun x hx => by have := lostN_bd (l ++ [mo]) n x hx; omega))
      have HCOV := Lib.hid (fun W v hr h1 h2 h3 h4 k => mono_covered l mo (by omega) (fit_bd hfb (by omega)) v W hr g4 g5 h1 h2 h3 h4 k)
      have hla := lostN_length l n
      have hlb := lostN_length (l ++ [mo]) n
      clear hfa hfb HO7 HO9
      generalize lostN l n = LA at *
      generalize lostN (l ++ [mo]) n = LB at *
      obtain ⟨b9, o9, h9⟩ := RdI.at9 HLBR.out
      obtain ⟨b7, o7, h7⟩ := RdI.at9 HLA.out
      have H9 := Lib.hid h9
      have H7 := Lib.hid h7
      have HCW : Hid (∀ (W' : World), Below W.heap.size W W' → ∀ (k : Nat) (x : Int), x = (k : Int) → Calls Try.prog 22 #[.int .i64 x, .pointer (some ⟨g4, 0, none⟩), .pointer (some ⟨g5, 0, none⟩)] W' fun e w' => e = .returned (.bool (gon (l ++ [mo]) k)) ∧ Below W'.heap.size W' w') := Lib.hid (fun W' hb' k x hx => by
        subst hx
        exact HCOV.out W' (.slice a0 l.length c0) (RdD.keep HRD.out hb') (Nat.lt_of_lt_of_le hg4 (Nat.le_trans hgW hb'.size)) (Nat.lt_of_lt_of_le hg5 (Nat.le_trans hgW hb'.size)) ((hb'.cell (p := ⟨g4, 0, none⟩) (Nat.lt_of_lt_of_le hg4 hgW)).trans HQ4.out) ⟨(hb'.cell (p := ⟨g5, 0, none⟩) (Nat.lt_of_lt_of_le hg5 hgW)).trans HQ5.out.1, (hb'.cell (p := ⟨g5, 1, none⟩) (Nat.lt_of_lt_of_le hg5 hgW)).trans HQ5.out.2⟩ k)
      clear h9 h7 HRA HRB HWF HN HB HCOV
      go_wp2_with fail
      go_loopw [70] (fun vk wr => ∃ i : Nat, i ≤ LB.length ∧ vk = .int .i64 i ∧ Below W.heap.size W wr) (fun vk _ => LB.length - (intOf vk).toNat)
      case atStart => exact ⟨0, by omega, rfl, Below.refl _ _⟩
      case round =>
        obtain ⟨i, hi, rfl, hb⟩ := hrel
        obtain ⟨wo, rfl⟩ : ∃ wo : World, wo = wr := ⟨_, rfl⟩
        have hbs := hb.size
        by_cases hlt : i < LB.length
        · obtain ⟨ha, hcl⟩ := H9.out i hlt
          have hq := (hb.cell (p := ⟨b9, o9 + i, none⟩) (World.block_lt_of_cell? W _ hcl)).trans hcl
          obtain ⟨f, r, f1, f2, f3, f4, _⟩ := HMEM.out _ (ixI_mem hlt)
          have hix := fun w' => run_idxS Try.underlying24 Try.sizeInt9 (cap := c9) ha hlt (i : Int) rfl w'
          simp only [Nat.mul_one] at hix
          have HCV := Lib.hid (HCW.out wo hb (f + 4 * r))
          rw [f3] at HCV
          have HB9 := Lib.hid hb
          have HA9 := Lib.hid ha
          have hprev : i ≠ 0 → ixI LB (i - 1) < ixI LB i ∧ wo.cell? ⟨b9, o9 + (i - 1), none⟩ = some (.int .i64 (ixI LB (i - 1))) := fun h => by
            have hlt' : i - 1 < LB.length := by omega
            refine ⟨?_, (hb.cell (p := ⟨b9, o9 + (i - 1), none⟩) (World.block_lt_of_cell? W _ (H9.out _ hlt').2)).trans (H9.out _ hlt').2⟩
            rw [ixI_get hlt', ixI_get hlt]
            exact List.pairwise_iff_getElem.1 HSRT.out _ _ hlt' hlt (by omega)
          obtain ⟨K, hK⟩ : ∃ K, K = ixI LB i := ⟨_, rfl⟩
          rw [← hK] at hq f4 hprev
          have k1 : 0 ≤ K := by omega
          have k2 : K < 24 * (n : Int) := by omega
          have k3 : K / 24 = (f : Int) := by omega
          have k4 : K % 24 = (r : Int) := by omega
          have k5 : K.tdiv 24 = (f : Int) := by rw [Int.tdiv_eq_ediv_of_nonneg k1]; exact k3
          have k6 : K.tmod 24 = (r : Int) := by rw [Int.tmod_eq_emod_of_nonneg k1]; exact k4
          clear hK f4 hcl hb
          by_cases hi0 : i = 0
          · subst hi0
            have hix0 := fun w' => run_idxS Try.underlying24 Try.sizeInt9 (cap := c9) ha hlt (0 : Int) rfl w'
            simp only [Nat.mul_one, Nat.add_zero] at hix0 hq
            clear hprev ha hix
            go_wp2_with fail
            refine Calls.mono (HCV.out _ ?_) ?_
            · push_cast; omega
            rintro e w5 ⟨rfl, hb5⟩
            have hbb := HB9.out.trans (hb5.mono hbs)
            clear hb5
            go_wp2_with fail
            go_roundw
            case rel => exact ⟨0 + 1, by omega, by go_num, hbb⟩
            case measure => simp [intOf]; omega
          · obtain ⟨hp1, hp2⟩ := hprev hi0
            have hix2 := fun w' => run_idxS Try.underlying24 Try.sizeInt9 (cap := c9) ha (show i - 1 < LB.length by omega) ((i : Int) - 1) (by omega) w'
            simp only [Nat.mul_one] at hix2
            generalize ixI LB (i - 1) = K0 at hp1 hp2
            have hi1 : 0 < (i : Int) := by omega
            clear hprev ha
            go_wp2_with fail
            refine Calls.mono (HCV.out _ ?_) ?_
            · push_cast; omega
            rintro e w5 ⟨rfl, hb5⟩
            have hbb := HB9.out.trans (hb5.mono hbs)
            clear hb5
            go_wp2_with fail
            go_roundw
            case rel => exact ⟨i + 1, by omega, by go_num, hbb⟩
            case measure => simp [intOf]; omega
        · have hbW := hbw.trans (hb.mono hbw.size)
          have HB9 := Lib.hid hb
          clear hb
          go_wp2_with fail
          go_loopw [110] (fun vk wr => ∃ i : Nat, i ≤ LA.length ∧ vk = .int .i64 i ∧ wr = wo) (fun vk _ => LA.length - (intOf vk).toNat)
          case atStart => exact ⟨0, by omega, rfl, rfl⟩
          case round =>
            obtain ⟨j, hj, rfl, rfl⟩ := hrel
            by_cases hlt2 : j < LA.length
            · obtain ⟨ha, hcl⟩ := H7.out j hlt2
              have hq := (HB9.out.cell (p := ⟨b7, o7 + j, none⟩) (World.block_lt_of_cell? W _ hcl)).trans hcl
              have hix := fun w' => run_idxS Try.underlying24 Try.sizeInt9 (cap := c3) ha hlt2 (j : Int) rfl w'
              simp only [Nat.mul_one] at hix
              have HCT := Lib.hid (contains9 _ LB (ixI LA j) _ (HLBR.out.keep HB9.out) (HSUB.out _ (ixI_mem hlt2)))
              generalize ixI LA j = K at hq HCT
              have HA9 := Lib.hid ha
              clear ha hcl
              go_wp2_with fail
              refine HCT.out.mono ?_
              rintro e w5 ⟨rfl, rfl⟩
              go_wp2_with fail
              go_roundw
              case rel => exact ⟨j + 1, by omega, by go_num, trivial⟩
              case measure => simp [intOf]; omega
            · go_wp2_with fail
              go_ret
              exact ⟨rfl, hbW⟩
    · have hfb' : fitA (n + 108) (l ++ [mo]) = false := by simpa using hfb
      have hrb := HRB.out
      rw [if_pos hfb'] at hrb
      subst hrb
      clear hfb hfb'
      by_cases hfa : fitA (n + 108) l = false
      · have hra := HRA.out
        rw [if_pos hfa] at hra
        subst hra
        clear hfa
        simp only [List.length_nil]
        go_wp2_with fail
        go_ret
        exact ⟨retB (by simp), hbw⟩
      · have hra := HRA.out
        rw [if_neg hfa] at hra
        subst hra
        clear hfa
        simp only [List.length_nil]
        go_wp2_with fail
        go_ret
        exact ⟨retB (by simp), hbw⟩
set_option maxRecDepth 100000 in
set_option maxHeartbeats 4000000 in
theorem mono_skip (w : World) (d : Int) (d1 : -9223372036854775808 ≤ d) (d2 : d ≤ 9223372036854775807) (v1 : Value) (l : List Sc) (h1 : CameSc w v1 l) (mo : Sc) (hno : d < 1 ∨ 300 < d ∨ 20 < l.length) :
    Calls Try.prog 6 #[.int .i64 d, v1, scag mo] w fun e w' => e = .returned (.bool true) ∧ Below w.heap.size w w' := by
  obtain ⟨a0, c0, rfl, _⟩ := RdD.form h1.1
  have hl := h1.2.2
  clear h1
  obtain ⟨w1, hw1⟩ : ∃ w1, w1 = (w.alloc (.cells #[.slice a0 l.length c0] 22)).alloc (.cells (scc mo).toArray 34) := ⟨_, rfl⟩
  have hA : Below w.heap.size w w1 := by rw [hw1]; exact ((Below.refl _ _).alloc (Nat.le_refl _) _).alloc (by simp) _
  have h4 : w1.cell? ⟨w.heap.size, 0, none⟩ = some (.slice a0 l.length c0) := by
    rw [hw1]; exact ((Bx.new w 22 [.slice a0 l.length c0]).alloc _).cell rfl
  have hsz : w1.heap.size = w.heap.size + 2 := by rw [hw1]; simp
  have HA := Lib.hid hA
  have HW := Lib.hid hw1
  have HX4 := Lib.hid h4
  have HSZ := Lib.hid hsz
  clear hw1 hA h4 hsz
  have hcase : d < 1 ∨ (¬ d < 1 ∧ 300 < d) ∨ (¬ d < 1 ∧ ¬ 300 < d ∧ 20 < l.length) := by omega
  clear hno
  unfold scag
  rcases hcase with g1 | ⟨g1, g2⟩ | ⟨g1, g2, g3⟩
  all_goals
    go_enter Try.func6, Try.ntmps6
    go_upto_region 1 with (fail)
    have hw1 := HW.out
    simp only [scc] at hw1
    rw [← hw1]
    clear hw1 HW
    go_wp2_with fail
    refine (awake9_any _).mono ?_
    rintro e w2 ⟨rfl, hb2⟩
    have hq4 := (hb2.cell (p := ⟨w.heap.size, 0, none⟩) (show w.heap.size < w1.heap.size by rw [HSZ.out]; omega)).trans HX4.out
    have hbw2 := HA.out.trans (hb2.mono HA.out.size)
    clear hb2 HX4 HA
    go_wp2_with fail
    go_ret
    exact ⟨rfl, hbw2⟩
section
open Go.ChangeShapes Go.WideShapes Go.Deep Go.Joins
variable {H : Type} {enc : TypeId × Value → H} {w : World} {base b0 : Nat} {sp : Nat → Bool} {held : Bool}
def CameScr (w : World) (v : Value) (x : Sc) : Prop := v = scag x ∧ Wf x
set_option maxRecDepth 100000 in
theorem open_cscr {v : Value} {d : DataW H} {ps : List MemPlace} {r : Reach} (hval : Value.okWide Try.prog w r b0 34 v) (hd : DataW.Trod enc Try.prog w base sp held 34 v d ps) : ∃ x, CameScr w v x := by
  obtain ⟨v0, v1, y0, y1, n, rfl, _, _, h0, h1⟩ := open_agg2 Try.underlying34 (by kernel_rfl) (by kernel_rfl) hval hd
  obtain ⟨a, e0, w0⟩ := leaf_int Try.underlying3 h0 (by simp)
  obtain ⟨b, e1, w1⟩ := leaf_int Try.underlying3 h1 (by simp)
  simp only [List.cons.injEq, and_true] at e0 e1
  subst e0 e1
  exact ⟨⟨a, b⟩, rfl, w0, w1⟩
end
theorem monotone_law (w : World) (d : Int) (hd : (Lit.int .i64 d).wf = true) (v1 : Value) (l : List Sc) (h1 : CameSc w v1 l) (v2 : Value) (mo : Sc) (h2 : CameScr w v2 mo) :
    Calls Try.prog 6 #[.int .i64 d, v1, v2] w fun e w' => e = .returned (.bool true) ∧ Below w.heap.size w w' := by
  have hd' : -9223372036854775808 ≤ d ∧ d ≤ 9223372036854775807 := by simpa [Lit.wf, IntKind.min, IntKind.max, IntKind.signed, IntKind.bits] using hd
  obtain ⟨rfl, hwf⟩ := h2
  by_cases hno : d < 1 ∨ 300 < d ∨ 20 < l.length
  · exact mono_skip w d hd'.1 hd'.2 v1 l h1 mo hno
  · obtain ⟨n, rfl⟩ : ∃ n : Nat, d = n := ⟨d.toNat, by omega⟩
    exact mono_main w n (by omega) (by omega) v1 l h1 (by omega) mo hwf
end Go.Proofs.Ytkebnmmcogkldaa.C9
namespace Go.Proofs.Ytkebnmmcogkldaa.circMonotone
open Go.ChangeShapes Go.WideShapes Go.ChangeAt Go.RowKit
open Go.ChangeMaps (open_string shut_string)
open C9
set_option linter.unusedVariables false
theorem own : ownKnob Try.prog.godebug = none := by kernel_rfl
theorem laidOut : laidOutB Try.prog = true := by kernel_rfl

set_option maxRecDepth 100000 in
set_option maxHeartbeats 1000000 in
theorem lifted (os : Os) (started : os.Started) (H : Type) (enc : TypeId × Value → H) :
    ReturnsInHanded {} Try.checked os 6 .any (Rows.circMonotoneSpec.pre6 enc Try.prog Try.f6 Rows.circMonotoneRow.domain false) (Rows.circMonotoneSpec.post enc Try.prog Try.f6 false true false false) := by
  refine returnsInHanded_of_change (C := Try.checked) own started (by kernel_rfl) Try.func6
    (ChangeSpec.witness6 (enc := enc) (C := Try.checked) false ⟨#[], #[.int .i64 0, .slice none 0 0, .agg #[.int .i64 0, .int .i64 0]], []⟩ 8 (by kernel_rfl) (by kernel_rfl) (by kernel_rfl) (by kernel_rfl)) ?_
  intro W base args ds gs before hval0 hW hcnd _
  have hval : ∀ (j : Nat) t v, Try.f6.params[j]? = some t → args[j]? = some v → Value.okWide Try.prog W .any base t v := hval0
  have hW' := hW
  obtain ⟨p, q, hA0, hV, rfl, hfz, hnd⟩ := hW
  have hA : DataW.TrodAll enc Try.prog W 0 (fun _ => true) true Try.f6.params.toList args.toList ds p := hA0
  rw [Try.params6] at hA hval
  obtain ⟨v0, vs0, d0, ds0, p0, q0, hargs, rfl, rfl, h0, r0⟩ := trodAll_cons hA
  obtain ⟨v1, vs1, d1, ds1, p1, q1, rfl, rfl, rfl, h1, r1⟩ := trodAll_cons r0
  obtain ⟨v2, vs2, d2, ds2, p2, q2, rfl, rfl, rfl, h2, r2⟩ := trodAll_cons r1
  obtain ⟨rfl, rfl, rfl⟩ := trodAll_nil r2
  obtain rfl : args = #[v0, v1, v2] := by cases args; simp_all
  obtain ⟨rfl, rfl⟩ := trodVars_none hV
  have k0 := h0
  have lt0 : ∀ x ∈ p0, x.block < W.heap.size := by obtain ⟨m, hm⟩ := k0; exact DataW.trod_lt m _ _ _ hm
  obtain ⟨a0, rfl, _, _, w0⟩ := open_int Try.underlying3 (hval 0 3 v0 rfl rfl) h0
  have k1 := h1
  have lt1 : ∀ x ∈ p1, x.block < W.heap.size := by obtain ⟨m, hm⟩ := k1; exact DataW.trod_lt m _ _ _ hm
  obtain ⟨a1, w1⟩ := open_cscrs (hval 1 22 v1 rfl rfl) h1
  have k2 := h2
  have lt2 : ∀ x ∈ p2, x.block < W.heap.size := by obtain ⟨m, hm⟩ := k2; exact DataW.trod_lt m _ _ _ hm
  obtain ⟨a2, w2⟩ := open_cscr (hval 2 34 v2 rfl rfl) h2
  refine (monotone_law W a0 w0 v1 a1 w1 v2 a2 w2).mono fun e W' ⟨he, bel⟩ => ?_
  subst he
  exact ⟨_, rfl, _, _, _, [], _, [], hW', trodAll_mk1 (shut_bool Try.underlying4 _), (trodAll_cons_mk (Below.trod laidOut (by kernel_rfl) (of_decide_eq_true (by kernel_rfl)) k0 bel lt0) (trodAll_cons_mk (Below.trod laidOut (by kernel_rfl) (of_decide_eq_true (by kernel_rfl)) k1 bel lt1) (trodAll_cons_mk (Below.trod laidOut (by kernel_rfl) (of_decide_eq_true (by kernel_rfl)) k2 bel lt2) trodAll_mk0))), rfl, bel.frame _, fun h => by cases h⟩

theorem over : Rows.circMonotoneRow.holds Try.pinned (OpenSpec.ofChange Rows.circMonotoneSpec) :=
  OpenClaim.holds_of_wide 6 Try.f6 rfl rfl rfl rfl rfl rfl rfl ⟨rfl, rfl, rfl, rfl, rfl⟩ rfl rfl rfl rfl rfl (by kernel_rfl) Try.func6 (by kernel_rfl)
    (of_decide_eq_true (by kernel_rfl)) (by unfold Func.isWrapper; first | (rw [if_pos (by decide +kernel)]; kernel_rfl) | (rw [if_neg (by decide +kernel)]; exact ⟨rfl, rfl⟩))
    (fun os started H enc _ => lifted os started H enc)

/-- The statement. -/
theorem proved : Rows.CircMonotoneSaid := over
end Go.Proofs.Ytkebnmmcogkldaa.circMonotone
