/- Chapter 13: a map of ints as a partial function; the defect table in memory; the small functions. -/
import Derived.Test.YtjnedcncfdpjoaaChecked
import Derived.Test.YtjnedcncfdpjoaaShelf
import Derived.Test.YtjnedcncfdpjoaaE1
import Derived.Test.YtjnedcncfdpjoaaRi
import Derived.Test.YtjnedcncfdpjoaaBx
import Derived.IntWalk
import Derived.Maps.OwnOps
import Derived.Maps.OwnSet
import Derived.Maps.Views
import Derived.Maps.RangeWalk
import Derived.Outline
namespace Go.Proofs.Ytjnedcncfdpjoaa.D13
open Go.RowKit Go.Maps
set_option linter.unusedVariables false

theorem lawI : Keyed Try.prog 3 := int_keyed Try.underlying3
theorem zeroI : ∀ w, (zeroValue 3).run Try.prog w = .ok (.int .i64 0) w := fun _ => by kernel_rfl
def In64 (x : Int) : Prop := -9223372036854775808 ≤ x ∧ x ≤ 9223372036854775807
theorem wfI {x : Int} (h : In64 x) : (Lit.int .i64 x).wf = true := by obtain ⟨h1, h2⟩ := h; simp [Lit.wf, IntKind.min, IntKind.max, IntKind.signed, IntKind.bits]; omega
theorem in64_of {x : Int} (h : (Lit.int .i64 x).wf = true) : In64 x := by simpa [Lit.wf, IntKind.min, IntKind.max, IntKind.signed, IntKind.bits, In64] using h
/-- the datum reads as 'f' -/
def ReadsO (D : DataW Unit) (f : Int → Option Int) : Prop := ∀ x, In64 x → Maps.has D (.int .i64 x) = (f x).isSome ∧ D.atKey (.int .i64 x) (.lit (.int .i64 0)) = .lit (.int .i64 ((f x).getD 0))
/-- block 'b' is a map of at most 'n' entries that reads as 'f' -/
def MapO (w : World) (b n : Nat) (f : Int → Option Int) : Prop := ∃ D : DataW Unit, w.ownsMap Try.prog 3 (plainElem Try.prog 3) b n D ∧ ReadsO D f
theorem MapO.made (w : World) : MapO (w.alloc (.map #[] 0)) w.heap.size 0 (fun _ => none) := ⟨.map [], World.ownsMap_made _ _ _ _, fun x _ => ⟨rfl, rfl⟩⟩
theorem MapO.lt {w : World} {b n : Nat} {f : Int → Option Int} (h : MapO w b n f) : b < w.heap.size := by
  obtain ⟨D, h, _⟩ := h; exact h.lt
theorem MapO.kept {w w' : World} {b n : Nat} {f : Int → Option Int} (h : MapO w b n f) (hk : w'.heap[b]? = w.heap[b]?) : MapO w' b n f := by
  obtain ⟨D, ⟨es, clock, hb, F, hs, hD⟩, hf⟩ := h
  exact ⟨D, ⟨es, clock, hk.trans hb, F, hs, hD⟩, hf⟩
theorem MapO.below {w w' : World} {b n : Nat} {f : Int → Option Int} (h : MapO w b n f) (hb : Below w.heap.size w w') : MapO w' b n f := h.kept (hb.block b h.lt)
theorem MapO.more {w : World} {b n m : Nat} {f : Int → Option Int} (h : MapO w b n f) (hm : n ≤ m) : MapO w b m f := by
  obtain ⟨D, ⟨es, clock, hb, F, hs, hD⟩, hf⟩ := h
  exact ⟨D, ⟨es, clock, hb, F, Nat.le_trans hs hm, hD⟩, hf⟩
/-- 'v, ok := m[x]' -/
theorem MapO.run {w : World} {b n : Nat} {f : Int → Option Int} (h : MapO w b n f) (x : Int) (hx : In64 x) :
    (Instr.lookup 36 (.map (some b)) (.int .i64 x) true).run Try.prog w = .ok (.tuple #[.int .i64 ((f x).getD 0), .bool (f x).isSome]) w := by
  obtain ⟨D, hown, hf⟩ := h
  obtain ⟨v, ps, hrun, hv⟩ := hown.look_ok lawI Try.underlying36 (zeroI w) (plainElem_int Try.underlying3 (a := 0) (by decide)) (keyOf_int_mk Try.underlying3 (wfI hx))
  obtain ⟨c, rfl, hc, _⟩ := plainElem_int_inv Try.underlying3 hv
  simp only [Prod.mk.injEq] at hc
  obtain ⟨h1, h2⟩ := hf x hx
  rw [h2] at hc
  have : c = (f x).getD 0 := by simpa using hc.1.symm
  rw [hrun, this, h1]
def setO (f : Int → Option Int) (x v : Int) : Int → Option Int := fun y => if y = x then some v else f y
/-- 'm[x] = v' -/
theorem wpList_setO {w : World} {ops : Array Oper} {rest : List Oper} {o : Oper} {a : Act} {Q : Exit → Act → World → Prop}
    (hg : o.guard = none) (m x v : Operand) (hop : o.op = Op.mapUpdate 36 m x v) {b n : Nat} {f : Int → Option Int} (hown : MapO w b n f) (hm : a.eval m = .map (some b)) {X : Int} (hx : a.eval x = .int .i64 X) {V : Int} (hv : a.eval v = .int .i64 V)
    (h1 : In64 X) (h2 : In64 V) (hn : n < 1000000)
    (hK : ∀ w', MapO w' b (n + 1) (setO f X V) → w.grownBy w' (some b) → wpList Try.prog ops Q rest (a.put o.dst undef) w') : wpList Try.prog ops Q (o :: rest) a w := by
  obtain ⟨D, hown, hf⟩ := hown
  refine wpList_mapUpdate_own _ hg m x v 36 hop 3 3 lawI Try.underlying36 _ b n D hm hown (by unfold maxLen; omega) _ _ _ hx hv (keyOf_int_mk Try.underlying3 (wfI h1)) _ [] (plainElem_int Try.underlying3 (wfI h2)) ?_
  intro w' ho hgr
  refine hK w' ⟨_, ho, fun y hy => ?_⟩ hgr
  unfold setO
  by_cases e : y = X
  · subst e
    rw [if_pos rfl, atKey_put_same hown.isMap, has_put_same hown.isMap]
    · exact ⟨rfl, rfl⟩
    · trivial
    · trivial
  · rw [if_neg e, atKey_put_other (by simpa using e), has_put_other (by simpa using e)]
    exact hf y hy

/-- the table at block 'g', with its map at block 'gm' and its primary defects as 'vp' -/
structure TabW (w : World) (g gm : Nat) (vp : Value) (T : Tab) : Prop where
  ok : T.Ok
  box : Bx w g 57 [.int .i64 T.blocks, .int .i64 T.spares, .int .i64 T.used, vp, .map (some gm)]
  pri : w.ownsRow 0 3 1 vp T.prim.length (is T.prim)
  map : MapO w gm T.used (fun x => (T.mv x).map Int.ofNat)
  ne : g ≠ gm
section
variable {w w' : World} {g gm : Nat} {vp : Value} {T : Tab}
theorem TabW.below (h : TabW w g gm vp T) (hb : Below w.heap.size w w') : TabW w' g gm vp T := ⟨h.ok, (hb.block g h.box.lt).trans h.box, ownD_keep h.pri hb, h.map.below hb, h.ne⟩
theorem TabW.rd (h : TabW w g gm vp T) : RdI w vp T.prim := rdI_own h.pri rfl (by have := h.ok.pl; omega) (fun x hx => by have := h.ok.pr x hx; have := h.ok.b2; have := h.ok.pl; unfold Tab.first at *; omega)
theorem TabW.cells (h : TabW w g gm vp T) : w.cell? ⟨g, 0, none⟩ = some (.int .i64 T.blocks) ∧ w.cell? ⟨g, 1, none⟩ = some (.int .i64 T.spares) ∧ w.cell? ⟨g, 2, none⟩ = some (.int .i64 T.used) ∧ w.cell? ⟨g, 3, none⟩ = some vp ∧ w.cell? ⟨g, 4, none⟩ = some (.map (some gm)) :=
  ⟨h.box.cell (i := 0) rfl, h.box.cell (i := 1) rfl, h.box.cell (i := 2) rfl, h.box.cell (i := 3) rfl, h.box.cell (i := 4) rfl⟩
end
theorem RdI.formD {w : World} {v : Value} {l : List Int} (h : RdI w v l) : ∃ a c, v = .slice a l.length c := by
  obtain ⟨_, ⟨a, c, b, o, rfl, _⟩, _⟩ := h
  exact ⟨a, c, rfl⟩
/-- it returns 'v' and writes nothing -/
def RetQ (v : Value) (w : World) (e : Ending) (w' : World) : Prop := e = .returned v ∧ ∃ q, w' = w.drewN q
theorem first_int (T : Tab) : ((T.first : Nat) : Int) = (T.blocks : Int) + (T.prim.length : Int) := by unfold Tab.first; push_cast; rfl
set_option maxRecDepth 100000 in
set_option maxHeartbeats 1000000 in
theorem first_any {w : World} {g gm : Nat} {vp : Value} {T : Tab} (h : TabW w g gm vp T) :
    Calls Try.prog 30 #[.pointer (some ⟨g, 0, none⟩)] w (RetQ (.int .i64 T.first) w) := by
  obtain ⟨c0, c1, c2, c3, c4⟩ := h.cells
  obtain ⟨a, c, rfl⟩ := RdI.formD h.rd
  have h1 := h.ok.b2
  have h2 := h.ok.pl
  rw [first_int]
  clear h
  generalize T.prim.length = n at *
  generalize T.blocks = m at *
  go_enter Try.func30, Try.ntmps30
  go_upto_region 1 with (fail)
  go_quiet (fail)
  go_wp2_with fail
  go_ret
  exact ⟨rfl, _, rfl⟩
set_option maxRecDepth 100000 in
set_option maxHeartbeats 1000000 in
theorem sectors_any {w : World} {g gm : Nat} {vp : Value} {T : Tab} (h : TabW w g gm vp T) :
    Calls Try.prog 12 #[.pointer (some ⟨g, 0, none⟩)] w (RetQ (.int .i64 ((T.first : Int) + T.spares)) w) := by
  obtain ⟨c0, c1, c2, c3, c4⟩ := h.cells
  have HF := Lib.hid (fun W hW => first_any (w := W) (g := g) (gm := gm) (vp := vp) (T := T) hW)
  have HT := Lib.hid h
  have h1 := h.ok.b2
  have h2 := h.ok.pl
  have h3 := h.ok.sp
  have h4 : T.first ≤ 5000 := by unfold Tab.first; omega
  clear h
  generalize T.first = n at *
  go_enter Try.func12, Try.ntmps12
  go_upto_region 1 with (fail)
  go_quiet ((go_at_call 30; exact Calls.quiet_of (HF.out _ (HT.out.below (Below.drewN (Below.refl _ _) _)))))
  go_wp2_with fail
  go_ret
  exact ⟨rfl, _, rfl⟩
set_option maxRecDepth 100000 in
set_option maxHeartbeats 1000000 in
theorem free_any {w : World} {g gm : Nat} {vp : Value} {T : Tab} (h : TabW w g gm vp T) :
    Calls Try.prog 16 #[.pointer (some ⟨g, 0, none⟩)] w (RetQ (.int .i64 ((T.spares : Int) - T.used)) w) := by
  obtain ⟨c0, c1, c2, c3, c4⟩ := h.cells
  have h3 := h.ok.sp
  have h4 := h.ok.us
  clear h
  go_enter Try.func16, Try.ntmps16
  go_upto_region 1 with (fail)
  go_quiet (fail)
  go_wp2_with fail
  go_ret
  exact ⟨rfl, _, rfl⟩
set_option maxRecDepth 100000 in
set_option maxHeartbeats 1000000 in
theorem has_any {w : World} {g gm : Nat} {vp : Value} {T : Tab} (h : TabW w g gm vp T) (b : Int) :
    Calls Try.prog 29 #[.pointer (some ⟨g, 0, none⟩), .int .i64 b] w fun e w' => e = .returned (.bool (decide (0 ≤ b ∧ b < T.blocks))) ∧ w = w' := by
  obtain ⟨c0, c1, c2, c3, c4⟩ := h.cells
  clear h
  by_cases h0 : 0 ≤ b
  · by_cases h1 : b < (T.blocks : Int)
    · rw [decide_eq_true ⟨h0, h1⟩]
      go_enter Try.func29, Try.ntmps29
      go_wp2_with fail
      go_ret
      exact ⟨retB (by simp), rfl⟩
    · rw [decide_eq_false fun e => h1 e.2]
      go_enter Try.func29, Try.ntmps29
      go_wp2_with fail
      go_ret
      exact ⟨retB (by simp), rfl⟩
  · rw [decide_eq_false fun e => h0 e.1]
    go_enter Try.func29, Try.ntmps29
    go_wp2_with fail
    go_ret
    exact ⟨retB (by simp), rfl⟩
end Go.Proofs.Ytjnedcncfdpjoaa.D13
