/- Chapter 8: a set of offsets in a map that the call made; set, positions and release walked. -/
import Derived.Maps.OwnOps
import Derived.Maps.OwnSet
import Derived.Maps.Views
import Derived.Test.YtepdcpbgdfjobaaWt
import Derived.Test.YtepdcpbgdfjobaaMap
namespace Go.Proofs.Ytepdcpbgdfjobaa.W8
open Go.RowKit Go.Maps
set_option linter.unusedVariables false

/-- block 'b' is a map whose keys are the ints of 'S', all true -/
def MS (w : World) (b n : Nat) (S : List Int) : Prop :=
  ∃ D : DataW Unit, w.ownsMap Try.prog 3 (plainElem Try.prog 4) b n D ∧ (∀ x : Int, D.atKey (.int .i64 x) (.lit (.bool false)) = .lit (.bool (S.contains x))) ∧ (∀ x : Int, has D (.int .i64 x) = S.contains x) ∧ Maps.size D = S.length ∧ S.Nodup
section
variable {w w' : World} {b n : Nat} {S : List Int}
theorem MS.made (w : World) : MS (w.alloc (.map #[] 0)) w.heap.size 0 [] := ⟨.map [], World.ownsMap_made _ _ _ _, fun x => rfl, fun x => rfl, rfl, List.nodup_nil⟩
theorem MS.lt (h : MS w b n S) : b < w.heap.size := by obtain ⟨D, h, _⟩ := h; exact h.lt
theorem MS.kept (h : MS w b n S) (hk : w'.heap[b]? = w.heap[b]?) : MS w' b n S := by
  obtain ⟨D, ⟨es, clock, hb, F, hs, hD⟩, hf⟩ := h
  exact ⟨D, ⟨es, clock, hk.trans hb, F, hs, hD⟩, hf⟩
theorem MS.below (h : MS w b n S) (hb : Below w.heap.size w w') : MS w' b n S := h.kept (hb.block b h.lt)
theorem MS.nodup (h : MS w b n S) : S.Nodup := by obtain ⟨D, _, _, _, _, h⟩ := h; exact h
theorem MS.run (h : MS w b n S) (x : Int) (h1 : -9223372036854775808 ≤ x) (h2 : x ≤ 9223372036854775807) : (Instr.lookup 44 (.map (some b)) (.int .i64 x) false).run Try.prog w = .ok (.bool (S.contains x)) w := by
  obtain ⟨D, hown, hf, _⟩ := h
  obtain ⟨v, ps, hrun, hv⟩ := hown.lookup lawInt Try.underlying44 (zeroBool w) (plainElem_bool Try.underlying4 false) (keyOf_int_mk Try.underlying3 (wfI h1 h2))
  obtain ⟨c, rfl, hc⟩ := plainElem_bool_inv Try.underlying4 hv
  simp only [Prod.mk.injEq] at hc
  rw [hf x] at hc
  have : c = S.contains x := by simpa using hc.1.symm
  rw [hrun, this]
theorem MS.len (h : MS w b n S) (ty : TypeId) : (Builtin.len_ #[44] ty #[.map (some b)]).run Try.prog w = .ok (.int .i64 S.length) w := by
  obtain ⟨D, hown, _, _, hs, _⟩ := h
  rw [hown.len Try.underlying44 ty, hs]
/-- 'delete(m, x)' on the list -/
def del (S : List Int) (x : Int) : List Int := S.filter fun y => y != x
theorem del_contains (S : List Int) (x y : Int) : (del S x).contains y = (S.contains y && y != x) := by
  rw [Bool.eq_iff_iff]
  simp [del]
theorem del_nodup (h : S.Nodup) (x : Int) : (del S x).Nodup := h.filter _
theorem del_len (h : S.Nodup) (x : Int) : (del S x).length + (if S.contains x = true then 1 else 0) = S.length := by
  induction S with
  | nil => simp [del]
  | cons y r ih =>
    have hn := List.nodup_cons.1 h
    have ih := ih hn.2
    by_cases e : y = x
    · subst e
      have hc : r.contains y = false := by simpa using hn.1
      rw [hc] at ih
      have e1 : del (y :: r) y = del r y := by simp [del]
      rw [e1, List.length_cons]
      simp at ih
      simp
      omega
    · have e1 : del (y :: r) x = y :: del r x := by simp [del, e]
      have e2 : (y :: r).contains x = r.contains x := by
        rw [List.contains_cons]
        have : (x == y) = false := by simpa using Ne.symm e
        rw [this, Bool.false_or]
      rw [e1, e2, List.length_cons, List.length_cons]
      omega
theorem wpList_ms_set {ops : Array Oper} {rest : List Oper} {o : Oper} {a : Act} {Q : Exit → Act → World → Prop}
    (hg : o.guard = none) (m x v : Operand) (hop : o.op = Op.mapUpdate 44 m x v) (hown : MS w b n S) (hm : a.eval m = .map (some b)) {X : Int} (hx : a.eval x = .int .i64 X) (hv : a.eval v = .bool true)
    (h1 : -9223372036854775808 ≤ X) (h2 : X ≤ 9223372036854775807) (hn : n < 1000000) (hnew : X ∉ S)
    (hK : ∀ w', MS w' b (n + 1) (S ++ [X]) → w.grownBy w' (some b) → wpList Try.prog ops Q rest (a.put o.dst undef) w') : wpList Try.prog ops Q (o :: rest) a w := by
  obtain ⟨D, hown, hf, hh, hs, hnd⟩ := hown
  have htidy := hown.tidy lawInt
  refine wpList_mapUpdate_own _ hg m x v 44 hop 3 4 lawInt Try.underlying44 _ b n D hm hown (by unfold maxLen; omega) _ _ _ hx hv (keyOf_int_mk Try.underlying3 (wfI h1 h2)) _ [] (plainElem_bool Try.underlying4 true) ?_
  intro w' ho hgr
  have hc : S.contains X = false := by simpa using hnew
  refine hK w' ⟨_, ho, fun y => ?_, fun y => ?_, ?_, ?_⟩ hgr
  · by_cases e : y = X
    · subst e
      rw [atKey_put_same (k := .int .i64 y) hown.isMap trivial]
      simp
    · rw [atKey_put_other (by simpa using e), hf y]
      simp [e]
  · by_cases e : y = X
    · subst e
      rw [has_put_same (k := .int .i64 y) hown.isMap trivial]
      simp
    · rw [has_put_other (by simpa using e), hh y]
      simp [e]
  · rw [size_put htidy, hh X, hc, hs]
    simp
  · rw [List.nodup_append]
    exact ⟨hnd, by simp, fun u hu v hv => by simp at hv; subst hv; exact fun e => hnew (e ▸ hu)⟩
theorem wpList_ms_del {ops : Array Oper} {rest : List Oper} {o : Oper} {a : Act} {Q : Exit → Act → World → Prop}
    (hg : o.guard = none) (m x : Operand) (hop : o.op = Op.call { callee := Callee.builtin Builtin.delete, args := #[m, x], argTypes := #[44, 3] }) (hown : MS w b n S) (hm : a.eval m = .map (some b)) {X : Int} (hx : a.eval x = .int .i64 X)
    (h1 : -9223372036854775808 ≤ X) (h2 : X ≤ 9223372036854775807)
    (hK : ∀ w', MS w' b n (del S X) → w.grownBy w' (some b) → wpList Try.prog ops Q rest (a.put o.dst (.tuple #[])) w') : wpList Try.prog ops Q (o :: rest) a w := by
  obtain ⟨D, hown, hf, hh, hs, hnd⟩ := hown
  have htidy := hown.tidy lawInt
  refine wpList_delete_own w hg m x 44 3 hop 4 lawInt Try.underlying44 _ b n D hm hown _ _ hx (keyOf_int_mk Try.underlying3 (wfI h1 h2)) ?_
  intro w' ho hturn
  refine hK w' ⟨_, ho, fun y => ?_, fun y => ?_, ?_, del_nodup hnd X⟩ hturn.grown
  · rw [del_contains]
    by_cases e : y = X
    · subst e
      rw [atKey_del_same]
      simp
    · have hne : (y != X) = true := by simpa using e
      rw [atKey_del_other (by simpa using e), hf y, hne, Bool.and_true]
  · rw [del_contains]
    by_cases e : y = X
    · subst e
      rw [has_del_same]
      simp
    · have hne : (y != X) = true := by simpa using e
      rw [has_del_other (by simpa using e), hh y, hne, Bool.and_true]
  · have h3 := size_del (k := .int .i64 X) htidy
    have h4 := del_len hnd X
    rw [hh X] at h3
    omega
end

/-- the offsets of a word are no longer erased: the first 'k' of them; the erased positions of a word, the first 'k' looked at -/
def relN (S : List Int) (ws : List Int) : Nat → List Int
  | 0 => S
  | k + 1 => del (relN S ws k) (ixI ws k)
def rel (S ws : List Int) : List Int := relN S ws ws.length
def posN8 (ws S : List Int) : Nat → List Int
  | 0 => []
  | k + 1 => if S.contains (ixI ws k) = true then posN8 ws S k ++ [(k : Int)] else posN8 ws S k
def posS (ws S : List Int) : List Int := posN8 ws S ws.length
theorem posN8_len (ws S : List Int) : ∀ k, (posN8 ws S k).length ≤ k
  | 0 => Nat.le_refl _
  | k + 1 => by have := posN8_len ws S k; unfold posN8; split <;> simp <;> omega
theorem posN8_bd (ws S : List Int) : ∀ k, ∀ x ∈ posN8 ws S k, 0 ≤ x ∧ x < k
  | 0 => fun x hx => by cases hx
  | k + 1 => fun x hx => by
    unfold posN8 at hx
    split at hx
    · rcases List.mem_append.1 hx with h | h
      · have := posN8_bd ws S k x h; omega
      · simp at h; omega
    · have := posN8_bd ws S k x hx; omega

def RelP (b n : Nat) (S : List Int) (w : World) (e : Ending) (w' : World) : Prop := e = .returned (.tuple #[]) ∧ MS w' b n S ∧ w.grownBy w' (some b)
set_option maxRecDepth 100000 in
set_option maxHeartbeats 2000000 in
theorem release_any (wv : Value) (ws : List Int) (b n : Nat) (S : List Int) (w : World) (hw : OffI b w wv ws) (hm : MS w b n S) (hl : ws.length ≤ 1000) :
    Calls Try.prog 47 #[wv, .map (some b)] w (RelP b n (rel S ws) w) := by
  obtain ⟨hw0, ⟨wa, wc, wb, wo, rfl, hwc, _⟩, hwr⟩ := hw.rd
  have HOff := Lib.hid hw
  have HWR := Lib.hid hwr
  clear hw hwr
  go_enter Try.func47, Try.ntmps47
  go_wp2_with fail
  go_loopw [8] (fun vk wr => ∃ k : Nat, k ≤ ws.length ∧ vk = .int .i64 k ∧ MS wr b n (relN S ws k) ∧ w.grownBy wr (some b)) (fun vk _ => ws.length - (intOf vk).toNat)
  case atStart => exact ⟨0, by omega, rfl, hm, World.grownBy.refl _ _⟩
  case round =>
    clear hm
    obtain ⟨k, hk, rfl, hr, hb⟩ := hrel
    by_cases hlt : k < ws.length
    · have hwr : RdI wr (.slice wa ws.length wc) ws := HOff.out wr fun j hj hjg => hb.block j hj (fun e => hjg (Option.some.inj e))
      obtain ⟨_, ⟨a2, c2, b2, o2, hv2, _, hcell⟩, _⟩ := hwr
      injection hv2 with e1 e2 e3
      subst e1 e3
      obtain ⟨ha, hcw⟩ := hcell k hlt
      obtain ⟨hx1, hx2⟩ := HWR.out k hlt
      clear hcell e2
      have HK : Hid (relN S ws (k + 1) = del (relN S ws k) (ixI ws k)) := Lib.hid rfl
      have hix := run_idx (P := Try.prog) Try.underlying24 Try.sizeInt (cap := wc) ha hlt _ rfl wr
      generalize relN S ws k = T at *
      generalize ixI ws k = x at *
      have Ha := Lib.hid ha; clear ha
      go_wp2_with (refine wpList_ms_del rfl _ _ rfl hr rfl rfl hx1 hx2 ?_; intro w2 hr2 hg2)
      have hb2 := hb.trans hg2
      rw [← HK.out] at hr2
      clear hr hb hg2
      go_roundw
      case rel => exact ⟨k + 1, by omega, by go_num, hr2, hb2⟩
      case measure => simp [intOf]; omega
    · obtain rfl : k = ws.length := by omega
      go_wp2_with fail
      go_end0
      exact ⟨rfl, hr, hb⟩

set_option maxRecDepth 100000 in
set_option maxHeartbeats 2000000 in
theorem positions8_any (wv : Value) (ws : List Int) (b n : Nat) (S : List Int) (w : World) (hw : RdI w wv ws) (hm : MS w b n S) (hl : ws.length ≤ 1000) :
    Calls Try.prog 46 #[wv, .map (some b)] w fun e w' => ∃ v, e = .returned v ∧ w'.ownsRow w.heap.size 3 1 v (posS ws S).length (is (posS ws S)) ∧ Below w.heap.size w w' := by
  obtain ⟨hw0, ⟨wa, wc, wb, wo, rfl, hwc, hwcell⟩, hwr⟩ := hw
  have HW := Lib.hid hwcell
  have HWR := Lib.hid hwr
  clear hwcell hwr
  go_enter Try.func46, Try.ntmps46
  go_wp2_with fail
  have ho0 := ownsRow_nil w w.heap.size 3
  have hb0 := Below.refl w.heap.size w
  have HM := Lib.hid hm
  clear hm
  go_loopw [5, 10] (fun vo vk wr => ∃ k : Nat, k ≤ ws.length ∧ vk = .int .i64 k ∧ wr.ownsRow w.heap.size 3 1 vo (posN8 ws S k).length (is (posN8 ws S k)) ∧ Below w.heap.size w wr) (fun _ vk _ => ws.length - (intOf vk).toNat)
  case atStart => exact ⟨0, by omega, rfl, ho0, hb0⟩
  case round =>
    clear ho0 hb0
    obtain ⟨k, hk, rfl, ho, hb⟩ := hrel
    by_cases hlt : k < ws.length
    · obtain ⟨ha, hcw⟩ := HW.out k hlt
      obtain ⟨hx1, hx2⟩ := HWR.out k hlt
      have hcw' : wr.cell? ⟨wb, wo + k, none⟩ = some (.int .i64 (ixI ws k)) := (hb.cell (p := ⟨wb, wo + k, none⟩) (World.block_lt_of_cell? w _ hcw)).trans hcw
      have hix := run_idx (P := Try.prog) Try.underlying24 Try.sizeInt (cap := wc) ha hlt _ rfl wr
      have hlook := (HM.out.below hb).run (ixI ws k) hx1 hx2
      have HK : Hid (posN8 ws S (k + 1) = if S.contains (ixI ws k) = true then posN8 ws S k ++ [(k : Int)] else posN8 ws S k) := Lib.hid rfl
      have hpl := posN8_len ws S k
      have hbs := hb.size
      generalize posN8 ws S k = T at *
      generalize ixI ws k = x at *
      generalize S.contains x = c at *
      clear ha hcw
      cases c with
      | true =>
        have ho6 := own_keep' ho ((Below.refl wr.heap.size wr).alloc (Nat.le_refl _) (.cells #[.int .i64 (k : Int)] 3))
        have hr6 := reads_lit wr [(k : Int)] 3 (by simp)
        have hb6 := hb.alloc hbs (.cells #[.int .i64 (k : Int)] 3)
        have hb6s := hb6.size
        clear ho hb
        go_wp2_with (refine wpList_appI rfl _ _ rfl Try.underlying24 Try.infoI64 ho6 rfl hr6 rfl (by simp; omega) hb6s ?_; intro v7 w7 hown7 hgr7)
        have hb7 := hb6.grown hgr7 hb6s (ownBlock_ge' ho6)
        clear hb6 ho6 hr6 hgr7
        have hown8 : w7.ownsRow w.heap.size 3 1 v7 (posN8 ws S (k + 1)).length (is (posN8 ws S (k + 1))) := by rw [HK.out, if_pos rfl, List.length_append]; exact hown7
        clear hown7
        go_roundw
        case rel => exact ⟨k + 1, by omega, by go_num, hown8, hb7⟩
        case measure => simp [intOf]; omega
      | false =>
        have ho8 : wr.ownsRow w.heap.size 3 1 u5 (posN8 ws S (k + 1)).length (is (posN8 ws S (k + 1))) := by rw [HK.out, if_neg (by decide)]; exact ho
        clear ho
        go_wp2_with fail
        go_roundw
        case rel => exact ⟨k + 1, by omega, by go_num, ho8, hb⟩
        case measure => simp [intOf]; omega
    · obtain rfl : k = ws.length := by omega
      go_wp2_with fail
      go_ret
      exact ⟨_, rfl, ho, hb⟩
end Go.Proofs.Ytepdcpbgdfjobaa.W8
