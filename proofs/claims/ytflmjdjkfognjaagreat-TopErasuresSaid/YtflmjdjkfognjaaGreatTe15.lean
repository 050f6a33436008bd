/- Parts: XWd XWo XStep XInv -/
import Derived.Maps.OwnOps
import Derived.Maps.OwnSet
import Derived.Maps.Views
import Derived.Test.YtflmjdjkfognjaaGreatTe13
import Derived.Test.YtflmjdjkfognjaaGreatTe14
import Derived.Test.YtflmjdjkfognjaaGreatTe06
import Derived.Deep.RegionHeld3
namespace Go.Proofs.YtflmjdjkfognjaaGreat.W8
open Go.RowKit Go.Maps
set_option linter.unusedVariables false
def MS (w : World) (b n : Nat) (S : List Int) : Prop :=
  ∃ D : DataW Unit, w.ownsMap Tryz.prog 3 (plainElem Tryz.prog 4) b n D ∧ (∀ x : Int, D.atKey (.int .i64 x) (.lit (.bool false)) = .lit (.bool (S.contains x))) ∧ (∀ x : Int, has D (.int .i64 x) = S.contains x) ∧ Maps.size D = S.length ∧ S.Nodup
section
variable {w w' : World} {b n : Nat} {S : List Int}
theorem MS.made (w : World) : MS (w.alloc (.map #[] 0)) w.heap.size 0 [] := ⟨.map [], World.ownsMap_made _ _ _ _, fun x => rfl, fun x => rfl, rfl, List.nodup_nil⟩
theorem MS.lt (h : MS w b n S) : b < w.heap.size := by obtain ⟨D, h, _⟩ := h; exact h.lt
theorem MS.kept (h : MS w b n S) (hk : w'.heap[b]? = w.heap[b]?) : MS w' b n S := by
  obtain ⟨D, ⟨es, clock, hb, F, hs, hD⟩, hf⟩ := h
  exact ⟨D, ⟨es, clock, hk.trans hb, F, hs, hD⟩, hf⟩
theorem MS.below (h : MS w b n S) (hb : Below w.heap.size w w') : MS w' b n S := h.kept (hb.block b h.lt)
theorem MS.nodup (h : MS w b n S) : S.Nodup := by obtain ⟨D, _, _, _, _, h⟩ := h; exact h
theorem MS.run (h : MS w b n S) (x : Int) (h1 : -9223372036854775808 ≤ x) (h2 : x ≤ 9223372036854775807) : (Instr.lookup 52 (.map (some b)) (.int .i64 x) false).run Tryz.prog w = .ok (.bool (S.contains x)) w := by
  obtain ⟨D, hown, hf, _⟩ := h
  obtain ⟨v, ps, hrun, hv⟩ := hown.lookup lawInt Tryz.underlying52 (zeroBool w) (plainElem_bool Tryz.underlying4 false) (keyOf_int_mk Tryz.underlying3 (wfI h1 h2))
  obtain ⟨c, rfl, hc⟩ := plainElem_bool_inv Tryz.underlying4 hv
  simp only [Prod.mk.injEq] at hc
  rw [hf x] at hc
  have : c = S.contains x := by simpa using hc.1.symm
  rw [hrun, this]
theorem MS.len (h : MS w b n S) (ty : TypeId) : (Builtin.len_ #[52] ty #[.map (some b)]).run Tryz.prog w = .ok (.int .i64 S.length) w := by
  obtain ⟨D, hown, _, _, hs, _⟩ := h
  rw [hown.len Tryz.underlying52 ty, hs]
def del (S : List Int) (x : Int) : List Int := S.filter fun y => y != x
theorem del_contains (S : List Int) (x y : Int) : (del S x).contains y = (S.contains y && y != x) := by
  rw [Bool.eq_iff_iff]
  simp [del]
theorem del_nodup (h : S.Nodup) (x : Int) : (del S x).Nodup := h.filter _
theorem del_len (h : S.Nodup) (x : Int) : (del S x).length + (if S.contains x = true then 1 else 0) = S.length := by
  induction S with
  | nil => simp [del]
  | cons y r ih =>
    have hn := List.nodup_cons.1 h
    have ih := ih hn.2
    by_cases e : y = x
    · subst e
      have hc : r.contains y = false := by simpa using hn.1
      rw [hc] at ih
      have e1 : del (y :: r) y = del r y := by simp [del]
      rw [e1, List.length_cons]
      simp at ih
      simp
      omega
    · have e1 : del (y :: r) x = y :: del r x := by simp [del, e]
      have e2 : (y :: r).contains x = r.contains x := by
        rw [List.contains_cons]
        have : (x == y) = false := by simpa using Ne.symm e
        rw [this, Bool.false_or]
      rw [e1, e2, List.length_cons, List.length_cons]
      omega
theorem wpList_ms_set {ops : Array Oper} {rest : List Oper} {o : Oper} {a : Act} {Q : Exit → Act → World → Prop}
    (hg : o.guard = none) (m x v : Operand) (hop : o.op = Op.mapUpdate 52 m x v) (hown : MS w b n S) (hm : a.eval m = .map (some b)) {X : Int} (hx : a.eval x = .int .i64 X) (hv : a.eval v = .bool true)
    (h1 : -9223372036854775808 ≤ X) (h2 : X ≤ 9223372036854775807) (hn : n < 1000000) (hnew : X ∉ S)
    (hK : ∀ w', MS w' b (n + 1) (S ++ [X]) → w.grownBy w' (some b) → wpList Tryz.prog ops Q rest (a.put o.dst undef) w') : wpList Tryz.prog ops Q (o :: rest) a w := by
  obtain ⟨D, hown, hf, hh, hs, hnd⟩ := hown
  have htidy := hown.tidy lawInt
  refine wpList_mapUpdate_own _ hg m x v 52 hop 3 4 lawInt Tryz.underlying52 _ b n D hm hown (by unfold maxLen; omega) _ _ _ hx hv (keyOf_int_mk Tryz.underlying3 (wfI h1 h2)) _ [] (plainElem_bool Tryz.underlying4 true) ?_
  intro w' ho hgr
  have hc : S.contains X = false := by simpa using hnew
  refine hK w' ⟨_, ho, fun y => ?_, fun y => ?_, ?_, ?_⟩ hgr
  · by_cases e : y = X
    · subst e
      rw [atKey_put_same (k := .int .i64 y) hown.isMap trivial]
      simp
    · rw [atKey_put_other (by simpa using e), hf y]
      simp [e]
  · by_cases e : y = X
    · subst e
      rw [has_put_same (k := .int .i64 y) hown.isMap trivial]
      simp
    · rw [has_put_other (by simpa using e), hh y]
      simp [e]
  · rw [size_put htidy, hh X, hc, hs]
    simp
  · rw [List.nodup_append]
    exact ⟨hnd, by simp, fun u hu v hv => by simp at hv; subst hv; exact fun e => hnew (e ▸ hu)⟩
theorem wpList_ms_del {ops : Array Oper} {rest : List Oper} {o : Oper} {a : Act} {Q : Exit → Act → World → Prop}
    (hg : o.guard = none) (m x : Operand) (hop : o.op = Op.call { callee := Callee.builtin Builtin.delete, args := #[m, x], argTypes := #[52, 3] }) (hown : MS w b n S) (hm : a.eval m = .map (some b)) {X : Int} (hx : a.eval x = .int .i64 X)
    (h1 : -9223372036854775808 ≤ X) (h2 : X ≤ 9223372036854775807)
    (hK : ∀ w', MS w' b n (del S X) → w.grownBy w' (some b) → wpList Tryz.prog ops Q rest (a.put o.dst (.tuple #[])) w') : wpList Tryz.prog ops Q (o :: rest) a w := by
  obtain ⟨D, hown, hf, hh, hs, hnd⟩ := hown
  have htidy := hown.tidy lawInt
  refine wpList_delete_own w hg m x 52 3 hop 4 lawInt Tryz.underlying52 _ b n D hm hown _ _ hx (keyOf_int_mk Tryz.underlying3 (wfI h1 h2)) ?_
  intro w' ho hturn
  refine hK w' ⟨_, ho, fun y => ?_, fun y => ?_, ?_, del_nodup hnd X⟩ hturn.grown
  · rw [del_contains]
    by_cases e : y = X
    · subst e
      rw [atKey_del_same]
      simp
    · have hne : (y != X) = true := by simpa using e
      rw [atKey_del_other (by simpa using e), hf y, hne, Bool.and_true]
  · rw [del_contains]
    by_cases e : y = X
    · subst e
      rw [has_del_same]
      simp
    · have hne : (y != X) = true := by simpa using e
      rw [has_del_other (by simpa using e), hh y, hne, Bool.and_true]
  · have h3 := size_del (k := .int .i64 X) htidy
    have h4 := del_len hnd X
    rw [hh X] at h3
    omega
end
def relN (S : List Int) (ws : List Int) : Nat → List Int
  | 0 => S
  | k + 1 => del (relN S ws k) (ixI ws k)
def rel (S ws : List Int) : List Int := relN S ws ws.length
def posN8 (ws S : List Int) : Nat → List Int
  | 0 => []
  | k + 1 => if S.contains (ixI ws k) = true then posN8 ws S k ++ [(k : Int)] else posN8 ws S k
def posS (ws S : List Int) : List Int := posN8 ws S ws.length
theorem posN8_len (ws S : List Int) : ∀ k, (posN8 ws S k).length ≤ k
  | 0 => Nat.le_refl _
  | k + 1 => by have := posN8_len ws S k; unfold posN8; split <;> simp <;> omega
theorem posN8_bd (ws S : List Int) : ∀ k, ∀ x ∈ posN8 ws S k, 0 ≤ x ∧ x < k
  | 0 => fun x hx => by cases hx
  | k + 1 => fun x hx => by
    unfold posN8 at hx
    split at hx
    · rcases List.mem_append.1 hx with h | h
      · have := posN8_bd ws S k x h; omega
      · simp at h; omega
    · have := posN8_bd ws S k x hx; omega
def RelP (b n : Nat) (S : List Int) (w : World) (e : Ending) (w' : World) : Prop := e = .returned (.tuple #[]) ∧ MS w' b n S ∧ w.grownBy w' (some b)
set_option maxRecDepth 100000 in
set_option maxHeartbeats 2000000 in
theorem release_any (wv : Value) (ws : List Int) (b n : Nat) (S : List Int) (w : World) (hw : OffI b w wv ws) (hm : MS w b n S) (hl : ws.length ≤ 1000) :
    Calls Tryz.prog 63 #[wv, .map (some b)] w (RelP b n (rel S ws) w) := by
  obtain ⟨hw0, ⟨wa, wc, wb, wo, rfl, hwc, _⟩, hwr⟩ := hw.rd
  have HOff := Lib.hid hw
  have HWR := Lib.hid hwr
  clear hw hwr
  go_enter Tryz.func63, Tryz.ntmps63
  go_wp2_with fail
  go_loopw [8] (fun vk wr => ∃ k : Nat, k ≤ ws.length ∧ vk = .int .i64 k ∧ MS wr b n (relN S ws k) ∧ w.grownBy wr (some b)) (fun vk _ => ws.length - (intOf vk).toNat)
  case atStart => exact ⟨0, by omega, rfl, hm, World.grownBy.refl _ _⟩
  case round =>
    clear hm
    obtain ⟨k, hk, rfl, hr, hb⟩ := hrel
    by_cases hlt : k < ws.length
    · have hwr : RdI wr (.slice wa ws.length wc) ws := HOff.out wr fun j hj hjg => hb.block j hj (fun e => hjg (Option.some.inj e))
      obtain ⟨_, ⟨a2, c2, b2, o2, hv2, _, hcell⟩, _⟩ := hwr
      injection hv2 with e1 e2 e3
      subst e1 e3
      obtain ⟨ha, hcw⟩ := hcell k hlt
      obtain ⟨hx1, hx2⟩ := HWR.out k hlt
      clear hcell e2
      have HK : Hid (relN S ws (k + 1) = del (relN S ws k) (ixI ws k)) := Lib.hid rfl
      have hix := run_idx (P := Tryz.prog) Tryz.underlying53 Tryz.sizeInt (cap := wc) ha hlt _ rfl wr
      generalize relN S ws k = T at *
      generalize ixI ws k = x at *
      have Ha := Lib.hid ha; clear ha
      go_wp2_with (refine wpList_ms_del rfl _ _ rfl hr rfl rfl hx1 hx2 ?_; intro w2 hr2 hg2)
      have hb2 := hb.trans hg2
      rw [← HK.out] at hr2
      clear hr hb hg2
      go_roundw
      case rel => exact ⟨k + 1, by omega, by go_num, hr2, hb2⟩
      case measure => simp [intOf]; omega
    · obtain rfl : k = ws.length := by omega
      go_wp2_with fail
      go_end0
      exact ⟨rfl, hr, hb⟩
set_option maxRecDepth 100000 in
set_option maxHeartbeats 2000000 in
theorem positions8_any (wv : Value) (ws : List Int) (b n : Nat) (S : List Int) (w : World) (hw : RdI w wv ws) (hm : MS w b n S) (hl : ws.length ≤ 1000) :
    Calls Tryz.prog 62 #[wv, .map (some b)] w fun e w' => ∃ v, e = .returned v ∧ w'.ownsRow w.heap.size 3 1 v (posS ws S).length (is (posS ws S)) ∧ Below w.heap.size w w' := by
  obtain ⟨hw0, ⟨wa, wc, wb, wo, rfl, hwc, hwcell⟩, hwr⟩ := hw
  have HW := Lib.hid hwcell
  have HWR := Lib.hid hwr
  clear hwcell hwr
  go_enter Tryz.func62, Tryz.ntmps62
  go_wp2_with fail
  have ho0 := ownsRow_nil w w.heap.size 3
  have hb0 := Below.refl w.heap.size w
  have HM := Lib.hid hm
  clear hm
  go_loopw [5, 10] (fun vo vk wr => ∃ k : Nat, k ≤ ws.length ∧ vk = .int .i64 k ∧ wr.ownsRow w.heap.size 3 1 vo (posN8 ws S k).length (is (posN8 ws S k)) ∧ Below w.heap.size w wr) (fun _ vk _ => ws.length - (intOf vk).toNat)
  case atStart => exact ⟨0, by omega, rfl, ho0, hb0⟩
  case round =>
    clear ho0 hb0
    obtain ⟨k, hk, rfl, ho, hb⟩ := hrel
    by_cases hlt : k < ws.length
    · obtain ⟨ha, hcw⟩ := HW.out k hlt
      obtain ⟨hx1, hx2⟩ := HWR.out k hlt
      have hcw' : wr.cell? ⟨wb, wo + k, none⟩ = some (.int .i64 (ixI ws k)) := (hb.cell (p := ⟨wb, wo + k, none⟩) (World.block_lt_of_cell? w _ hcw)).trans hcw
      have hix := run_idx (P := Tryz.prog) Tryz.underlying53 Tryz.sizeInt (cap := wc) ha hlt _ rfl wr
      have hlook := (HM.out.below hb).run (ixI ws k) hx1 hx2
      have HK : Hid (posN8 ws S (k + 1) = if S.contains (ixI ws k) = true then posN8 ws S k ++ [(k : Int)] else posN8 ws S k) := Lib.hid rfl
      have hpl := posN8_len ws S k
      have hbs := hb.size
      generalize posN8 ws S k = T at *
      generalize ixI ws k = x at *
      generalize S.contains x = c at *
      clear ha hcw
      cases c with
      | true =>
        have ho6 := own_keep' ho ((Below.refl wr.heap.size wr).alloc (Nat.le_refl _) (.cells #[.int .i64 (k : Int)] 3))
        have hr6 := reads_lit wr [(k : Int)] 3 (by simp)
        have hb6 := hb.alloc hbs (.cells #[.int .i64 (k : Int)] 3)
        have hb6s := hb6.size
        clear ho hb
        go_wp2_with (refine wpList_appI rfl _ _ rfl Tryz.underlying53 Tryz.infoI64 ho6 rfl hr6 rfl (by simp; omega) hb6s ?_; intro v7 w7 hown7 hgr7)
        have hb7 := hb6.grown hgr7 hb6s (ownBlock_ge' ho6)
        clear hb6 ho6 hr6 hgr7
        have hown8 : w7.ownsRow w.heap.size 3 1 v7 (posN8 ws S (k + 1)).length (is (posN8 ws S (k + 1))) := by rw [HK.out, if_pos rfl, List.length_append]; exact hown7
        clear hown7
        go_roundw
        case rel => exact ⟨k + 1, by omega, by go_num, hown8, hb7⟩
        case measure => simp [intOf]; omega
      | false =>
        have ho8 : wr.ownsRow w.heap.size 3 1 u5 (posN8 ws S (k + 1)).length (is (posN8 ws S (k + 1))) := by rw [HK.out, if_neg (by decide)]; exact ho
        clear ho
        go_wp2_with fail
        go_roundw
        case rel => exact ⟨k + 1, by omega, by go_num, ho8, hb⟩
        case measure => simp [intOf]; omega
    · obtain rfl : k = ws.length := by omega
      go_wp2_with fail
      go_ret
      exact ⟨_, rfl, ho, hb⟩
end Go.Proofs.YtflmjdjkfognjaaGreat.W8
namespace Go.Proofs.YtflmjdjkfognjaaGreat.W8
open Go.RowKit Go.Maps
set_option linter.unusedVariables false
def ersB1 (f : Int) (l : List Int) (k : Nat) : Bool := !(decide (ixI l k < f) || decide (2352 ≤ ixI l k) || (decide (0 < k) && decide (ixI l k ≤ ixI l (k - 1))))
def ersN (f : Int) (l : List Int) : Nat → Bool
  | 0 => true
  | k + 1 => ersN f l k && ersB1 f l k
def ersB (f : Int) (l : List Int) : Bool := ersN f l l.length
theorem ersN_mono (f : Int) (l : List Int) : ∀ (m k : Nat), k ≤ m → ersN f l m = true → ersN f l k = true
  | 0, k, h, hp => by obtain rfl : k = 0 := by omega
                      exact hp
  | m + 1, k, h, hp => by
    by_cases e : k = m + 1
    · rw [e]; exact hp
    · unfold ersN at hp
      rw [Bool.and_eq_true] at hp
      exact ersN_mono f l m k (by omega) hp.1
theorem ersN_at {f : Int} {l : List Int} {m k : Nat} (h : k < m) (hp : ersN f l m = true) : f ≤ ixI l k ∧ ixI l k < 2352 ∧ (0 < k → ixI l (k - 1) < ixI l k) := by
  have := ersN_mono f l m (k + 1) (by omega) hp
  unfold ersN ersB1 at this
  simp only [Bool.and_eq_true, Bool.not_eq_true', Bool.or_eq_false_iff, decide_eq_false_iff_not, Bool.and_eq_false_iff] at this
  omega
theorem ersN_lt {f : Int} {l : List Int} {m : Nat} (hp : ersN f l m = true) : ∀ (k j : Nat), j < k → k < m → ixI l j < ixI l k
  | 0, j, hj, _ => by omega
  | k + 1, j, hj, hk => by
    have h1 := (ersN_at hk hp).2.2 (by omega)
    rw [Nat.add_sub_cancel] at h1
    by_cases e : j = k
    · subst e; exact h1
    · have := ersN_lt hp k j (by omega) (by omega); omega
theorem take_snocI (l : List Int) (k : Nat) (h : k < l.length) : l.take (k + 1) = l.take k ++ [ixI l k] := by
  rw [List.take_succ_eq_append_getElem h, ixI_get h]
theorem ers_new {f : Int} {l : List Int} {k : Nat} (hk : k < l.length) (hp : ersN f l (k + 1) = true) : ixI l k ∉ l.take k := by
  intro h
  obtain ⟨j, hj, e⟩ := List.getElem_of_mem h
  have hj2 : j < k := by rw [List.length_take] at hj; omega
  have := ersN_lt hp k j hj2 (by omega)
  rw [List.getElem_take, ← ixI_get (by omega)] at e
  omega
theorem ersN_false {f : Int} {l : List Int} {k : Nat} (h : ersB1 f l k = false) : ∀ n, k < n → ersN f l n = false
  | 0, hk => by omega
  | n + 1, hk => by
    unfold ersN
    by_cases e : k = n
    · subst e; rw [h, Bool.and_false]
    · rw [ersN_false h n (by omega), Bool.false_and]
def SetP (f : Int) (l : List Int) (w : World) (e : Ending) (w' : World) : Prop :=
  (ersB f l = false ∧ e = .returned (.tuple #[.map none, .bool false]) ∧ Below w.heap.size w w') ∨
  (ersB f l = true ∧ e = .returned (.tuple #[.map (some w.heap.size), .bool true]) ∧ MS w' w.heap.size l.length l ∧ Below w.heap.size w w')
set_option maxRecDepth 100000 in
set_option maxHeartbeats 4000000 in
theorem set_any (f : Int) (ev : Value) (l : List Int) (w : World) (hv : RdI w ev l) (hl : l.length ≤ 100000) :
    Calls Tryz.prog 60 #[.int .i64 f, ev] w (SetP f l w) := by
  obtain ⟨hw0, ⟨wa, wc, wb, wo, rfl, hwc, hwcell⟩, hwr⟩ := hv
  have HW := Lib.hid hwcell
  have HWR := Lib.hid hwr
  clear hwcell hwr
  have hmm := @run_makeMap Tryz.prog
  go_enter Tryz.func60, Tryz.ntmps60
  go_wp2_with fail
  have hb0 := (Below.refl w.heap.size w).alloc (Nat.le_refl _) (.map #[] 0)
  have hm0 := MS.made w
  clear hmm
  go_loopw [12] (fun vk wr => ∃ k : Nat, k ≤ l.length ∧ vk = .int .i64 k ∧ Hid (ersN f l k = true) ∧ MS wr w.heap.size k (l.take k) ∧ Below w.heap.size w wr) (fun vk _ => l.length - (intOf vk).toNat)
  case atStart => exact ⟨0, by omega, rfl, Lib.hid rfl, hm0, hb0⟩
  case round =>
    clear hm0 hb0
    obtain ⟨k, hk, rfl, HE, hm, hb⟩ := hrel
    by_cases hlt : k < l.length
    · obtain ⟨ha, hcw⟩ := HW.out k hlt
      obtain ⟨hx1, hx2⟩ := HWR.out k hlt
      have hcw' : wr.cell? ⟨wb, wo + k, none⟩ = some (.int .i64 (ixI l k)) := (hb.cell (p := ⟨wb, wo + k, none⟩) (World.block_lt_of_cell? w _ hcw)).trans hcw
      have hix := run_idx (P := Tryz.prog) Tryz.underlying53 Tryz.sizeInt (cap := wc) ha hlt _ rfl wr
      have hbad : ersB1 f l k = false → Hid (ersB f l = false) := fun h => Lib.hid (ersN_false h _ hlt)
      have hgood : ersB1 f l k = true → Hid (ersN f l (k + 1) = true ∧ ixI l k ∉ l.take k) := fun h => by
        have h2 : ersN f l (k + 1) = true := by unfold ersN; rw [HE.out, h]; rfl
        exact Lib.hid ⟨h2, ers_new hlt h2⟩
      have HT := Lib.hid (take_snocI l k hlt)
      have hB1 : ersB1 f l k = !(decide (ixI l k < f) || decide (2352 ≤ ixI l k) || (decide (0 < k) && decide (ixI l k ≤ ixI l (k - 1)))) := rfl
      by_cases c1 : ixI l k < f
      · have HX := hbad (by rw [hB1]; simp [c1])
        have hd1 : decide (ixI l k < f) = true := by simpa using c1
        generalize ixI l k = x at *
        clear hbad hgood hB1 ha hcw hm HT
        go_wp2_with fail
        go_ret2
        exact .inl ⟨HX.out, rfl, hb⟩
      · have hd1 : decide (ixI l k < f) = false := by simpa using c1
        by_cases c2 : 2352 ≤ ixI l k
        · have HX := hbad (by rw [hB1]; simp [c2])
          have hd2 : decide (2352 ≤ ixI l k) = true := by simpa using c2
          generalize ixI l k = x at *
          clear hbad hgood hB1 ha hcw hm HT c1
          go_wp2_with fail
          go_ret2
          exact .inl ⟨HX.out, rfl, hb⟩
        · have hd2 : decide (2352 ≤ ixI l k) = false := by simpa using c2
          by_cases c3 : k = 0
          · have HG := hgood (by rw [hB1, hd1, hd2, c3]; rfl)
            have hd3 : decide (0 < (k : Int)) = false := by simp; omega
            have hd4 : decide (0 < k) = false := by simp; omega
            have H3 := Lib.hid c3
            generalize hxe : ixI l k = x at *
            have HXE := Lib.hid hxe
            clear hbad hgood hB1 ha hcw c1 c2 c3 hxe
            go_wp2_with (refine wpList_ms_set rfl _ _ _ rfl hm rfl rfl rfl hx1 hx2 (by omega) HG.out.2 ?_; intro w2 hm2 hg2)
            have hb2 := hb.grown hg2 hb.size (fun j e => by cases e; exact Nat.le_refl _)
            have hm3 : MS w2 w.heap.size (k + 1) (l.take (k + 1)) := by rw [HT.out]; exact hm2
            clear hm hb hg2 hm2
            go_roundw
            case rel => exact ⟨k + 1, by omega, by go_num, Lib.hid HG.out.1, hm3, hb2⟩
            case measure => simp [intOf]; omega
          · have hd3 : decide (0 < (k : Int)) = true := by simp; omega
            have hd4 : decide (0 < k) = true := by simp; omega
            obtain ⟨ha3, hcw3⟩ := HW.out (k - 1) (by omega)
            have hcw4 : wr.cell? ⟨wb, wo + (k - 1), none⟩ = some (.int .i64 (ixI l (k - 1))) := (hb.cell (p := ⟨wb, wo + (k - 1), none⟩) (World.block_lt_of_cell? w _ hcw3)).trans hcw3
            have hix3 := run_idx (P := Tryz.prog) Tryz.underlying53 Tryz.sizeInt (cap := wc) ha3 (show k - 1 < l.length by omega) ((k : Int) - 1) (by omega) wr
            by_cases c4 : ixI l k ≤ ixI l (k - 1)
            · have HX := hbad (by rw [hB1, hd4]; simp [c4])
              have hd5 : decide (ixI l k ≤ ixI l (k - 1)) = true := by simpa using c4
              generalize ixI l (k - 1) = y at *
              generalize ixI l k = x at *
              clear hbad hgood hB1 ha hcw hm HT c1 c2 ha3 hcw3
              go_wp2_with fail
              go_ret2
              exact .inl ⟨HX.out, rfl, hb⟩
            · have hd5 : decide (ixI l k ≤ ixI l (k - 1)) = false := by simpa using c4
              have HG := hgood (by rw [hB1, hd1, hd2, hd4, hd5]; rfl)
              generalize ixI l (k - 1) = y at *
              generalize hxe : ixI l k = x at *
              have HXE := Lib.hid hxe
              clear hbad hgood hB1 ha hcw c1 c2 ha3 hcw3 hxe c4
              go_wp2_with (refine wpList_ms_set rfl _ _ _ rfl hm rfl rfl rfl hx1 hx2 (by omega) HG.out.2 ?_; intro w2 hm2 hg2)
              have hb2 := hb.grown hg2 hb.size (fun j e => by cases e; exact Nat.le_refl _)
              have hm3 : MS w2 w.heap.size (k + 1) (l.take (k + 1)) := by rw [HT.out]; exact hm2
              clear hm hb hg2 hm2
              go_roundw
              case rel => exact ⟨k + 1, by omega, by go_num, Lib.hid HG.out.1, hm3, hb2⟩
              case measure => simp [intOf]; omega
    · obtain rfl : k = l.length := by omega
      rw [List.take_length] at hm
      go_wp2_with fail
      go_ret2
      exact .inr ⟨HE.out, rfl, hm, hb⟩
end Go.Proofs.YtflmjdjkfognjaaGreat.W8
namespace Go.Proofs.YtflmjdjkfognjaaGreat
open Go.RowKit
set_option linter.unusedVariables false
section
variable {α : Type} {d : α} {D : α → List Value} {sz : Nat}
end
def KeptR (r : Option Nat) (w W : World) : Prop := w.heap.size ≤ W.heap.size ∧ ∀ k, k < w.heap.size → some k ≠ r → W.heap[k]? = w.heap[k]?
section
variable {r : Option Nat} {w W W' : World}
theorem KeptR.refl (r : Option Nat) (w : World) : KeptR r w w := ⟨Nat.le_refl _, fun _ _ _ => rfl⟩
theorem KeptR.call (h : KeptR r w W) (hb : Below W.heap.size W W') : KeptR r w W' := ⟨Nat.le_trans h.1 hb.size, fun k h1 h2 => (hb.block k (Nat.lt_of_lt_of_le h1 h.1)).trans (h.2 k h1 h2)⟩
end
end Go.Proofs.YtflmjdjkfognjaaGreat
namespace Go.Proofs.YtflmjdjkfognjaaGreat
open Go.RowKit
set_option linter.unusedVariables false
section
variable {P : Program} {Q : Exit → Act → World → Prop}
def freeB (l : List Oper) (t : Tmp) : Bool := l.all fun o => o.dst != some t
def StepI (P : Program) (Q : Exit → Act → World → Prop) (C : World → Prop) (V : Nat → Value → World → Prop) (l : List Oper) (a0 : Act) (i : Nat) (o : Oper) : Prop :=
  ∀ a w, C w → a.tmps.size = a0.tmps.size → (∀ t, freeB l t = true → a.tmps.getD t undef = a0.tmps.getD t undef) →
    (∀ k, (o.after.toList.any fun e => e.on == k && Region.binds .any e) = true → ∀ (ok : Oper) (t : Tmp), l[k]? = some ok → ok.dst = some t → V k (a.tmps.getD t undef) w) →
    o.wp P a w (fun a' w' => ∃ v, a' = a.put o.dst v ∧ Below w.heap.size w w' ∧ V i v w') Q
def StepsI (P : Program) (Q : Exit → Act → World → Prop) (C : World → Prop) (V : Nat → Value → World → Prop) (l : List Oper) (a0 : Act) : Nat → List Oper → Prop
  | _, [] => True
  | i, o :: r => StepI P Q C V l a0 i o ∧ StepsI P Q C V l a0 (i + 1) r
theorem StepsI.at {C : World → Prop} {V : Nat → Value → World → Prop} {l : List Oper} {a0 : Act} : ∀ {i : Nat} {r : List Oper}, StepsI P Q C V l a0 i r → ∀ {j : Nat} {o : Oper}, r[j]? = some o → StepI P Q C V l a0 (i + j) o
  | i, [], _, j, o, h => by simp at h
  | i, x :: r, h, 0, o, ho => by
    have : x = o := by simpa using ho
    subst this; exact h.1
  | i, x :: r, h, j + 1, o, ho => by
    have := StepsI.at h.2 (j := j) (o := o) (by simpa using ho)
    rwa [Nat.add_assoc, Nat.add_comm 1 j] at this
theorem arr_eq (tm : Array Value) (n : Nat) (h : tm.size = n) : tm = ((List.range n).map fun i => tm.getD i undef).toArray := by
  apply Array.ext
  · simp [h]
  · intro i h1 h2
    simp [Array.getD, h1]
structure Okay (l : List Oper) (C : World → Prop) (V : Nat → Value → World → Prop) (a0 : Act) (listed : Array Bool) (a : Act) (w : World) : Prop where
  c : C w
  defers : a.defers = a0.defers
  size : a.tmps.size = a0.tmps.size
  old : ∀ t, freeB l t = true → a.tmps.getD t undef = a0.tmps.getD t undef
  val : ∀ (i : Nat) (o : Oper) (t : Tmp), l[i]? = some o → listed.getD i false = true → o.dst = some t → V i (a.tmps.getD t undef) w
def left (n : Nat) (listed : Array Bool) : Nat := ((List.range n).filter fun i => !listed.getD i true).length
theorem left_set {n i : Nat} {listed : Array Bool} (hn : listed.size = n) (hi : listed.getD i true = false) : left n (listed.setIfInBounds i true) < left n listed := by
  unfold left
  have hil : i < listed.size := by
    rcases Nat.lt_or_ge i listed.size with h | h
    · exact h
    · simp [Array.getD, Nat.not_lt.2 h] at hi
  have e : (List.range n).filter (fun j => !(listed.setIfInBounds i true).getD j true) = ((List.range n).filter fun j => !listed.getD j true).filter (fun j => decide (j ≠ i)) := by
    rw [List.filter_filter]
    refine List.filter_congr fun j hj => ?_
    by_cases hji : i = j
    · subst hji; simp [hil]
    · rw [getD_set_ne true hji]; simp [Ne.symm hji]
  rw [e]
  refine List.length_filter_lt_length_iff_exists.2 ⟨i, List.mem_filter.2 ⟨List.mem_range.2 (by omega), by simp [hi]⟩, by simp⟩
theorem put_getD_same {a : Act} {t : Tmp} {v : Value} (h : t < a.tmps.size) : (a.put (some t) v).tmps.getD t undef = v := by
  simp [Act.put, Array.getD, h]
theorem put_getD_other {a : Act} {d : Option Tmp} {t : Tmp} {v : Value} (h : d ≠ some t) : (a.put d v).tmps.getD t undef = a.tmps.getD t undef := by
  cases d with
  | none => rfl
  | some d =>
    have hne : d ≠ t := fun e => h (by rw [e])
    simp [Act.put, Array.getElem?_setIfInBounds_ne hne]
theorem put_size {a : Act} {d : Option Tmp} {v : Value} : (a.put d v).tmps.size = a.tmps.size := by
  cases d <;> simp [Act.put]
theorem put_defers {a : Act} {d : Option Tmp} {v : Value} : (a.put d v).defers = a.defers := by
  cases d <;> simp [Act.put]
theorem getD_set_cases {listed : Array Bool} {i j : Nat} (h : (listed.setIfInBounds i true).getD j false = true) : j = i ∨ listed.getD j false = true := by
  by_cases e : j = i
  · exact .inl e
  · rw [getD_set_ne false (Ne.symm e)] at h; exact .inr h
end
end Go.Proofs.YtflmjdjkfognjaaGreat
