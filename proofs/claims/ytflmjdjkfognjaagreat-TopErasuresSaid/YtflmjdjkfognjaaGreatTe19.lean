/- Parts: XWdf XJa XOpS -/
import Derived.Lib.SliceRun
import Derived.Lib.LazyBuf
import Derived.Test.YtflmjdjkfognjaaGreatTe15
import Derived.Test.YtflmjdjkfognjaaGreatTe18
import Derived.Test.YtflmjdjkfognjaaGreatTe17
import Derived.Test.YtflmjdjkfognjaaGreatTe12
import Derived.Test.YtflmjdjkfognjaaGreatTe05
import Derived.Lib.SmallJoins
namespace Go.Proofs.YtflmjdjkfognjaaGreat.W8
open Go.RowKit Go.Shelf
set_option linter.unusedVariables false
def RowI (w : World) (e g cap : Nat) (l : List Int) : Prop :=
  ∃ cur : Array Value, w.heap[g]? = some (.cells cur e (0, 0)) ∧ l.length ≤ cap ∧ cur.size = cap ∧ cur.toList.take l.length = is l
section
variable {w : World} {e g cap : Nat} {l : List Int}
theorem RowI.lt (h : RowI w e g cap l) : g < w.heap.size := by
  obtain ⟨cur, hg, _⟩ := h
  exact (Array.getElem?_eq_some_iff.1 hg).1
theorem RowI.le (h : RowI w e g cap l) : l.length ≤ cap := by
  obtain ⟨cur, hg, hl, _⟩ := h
  exact hl
theorem RowI.cell (h : RowI w e g cap l) (j : Nat) (hj : j < l.length) : w.cell? ⟨g, j, none⟩ = some (.int .i64 (ixI l j)) := by
  obtain ⟨cur, hg, hl, hs, ht⟩ := h
  rw [cell_of_row w g j cur e _ hg, ← is_get hj, ← ht, List.getElem?_take, if_pos hj]
  simp
theorem RowI.frozen (h : RowI w e g cap l) (j : Nat) : w.frozen? ⟨g, j, none⟩ = false := by
  obtain ⟨cur, hg, hl, hs, ht⟩ := h
  simp only [World.frozen?, hg, Bool.and_eq_false_iff, decide_eq_false_iff_not]
  right; omega
theorem RowI.store (h : RowI w e g cap l) (j : Nat) (c : Int) (hj : j < l.length) : RowI (w.setCell ⟨g, j, none⟩ (.int .i64 c)) e g cap (l.set j c) := by
  obtain ⟨cur, hg, hl, hs, ht⟩ := h
  refine ⟨cur.setIfInBounds j (.int .i64 c), ?_, by simpa using hl, by simpa using hs, ?_⟩
  · rw [setCell_eq_setRow w g j cur e _ (.int .i64 c) hg]
    exact setRow_heap w g cur _ e _ hg
  · rw [Array.toList_setIfInBounds, List.length_set, List.take_set, ht]
    simp [is, List.map_set]
theorem RowI.keep {w' : World} (h : RowI w e g cap l) (hk : w'.heap[g]? = w.heap[g]?) : RowI w' e g cap l := by
  obtain ⟨cur, hg, r⟩ := h
  exact ⟨cur, hk.trans hg, r⟩
theorem RowI.of_own {base n : Nat} (h : w.ownsRow base e 1 (.slice (some ⟨g, 0, none⟩) n cap) n (is l)) : RowI w e g cap l ∧ n = l.length ∧ base ≤ g := by
  have hl : l.length = n := by have := h.1; simpa [is_length] using this
  rcases h.2 with ⟨h', _⟩ | ⟨g', cap', cur, h', hb, hg, hn, hm, hs, ht⟩
  · simp at h'
  · simp only [Value.slice.injEq, Option.some.injEq, Addr.mk.injEq, and_true, true_and] at h'
    obtain ⟨rfl, rfl⟩ := h'
    exact ⟨⟨cur, hg, by omega, by simpa using hs, by rw [hl]; simpa using ht⟩, hl.symm, hb⟩
end
def keepL (S l : List Int) : List Int := l.filter fun x => S.contains x
theorem keepL_snoc (S l : List Int) (x : Int) : keepL S (l ++ [x]) = if S.contains x = true then keepL S l ++ [x] else keepL S l := by
  unfold keepL
  rw [List.filter_append]
  by_cases h : S.contains x = true
  · rw [if_pos h]; simp only [List.filter_cons, h, if_true, List.filter_nil]
  · rw [if_neg h]; simp only [List.filter_cons, h, List.filter_nil]; simp
theorem keepL_all {S l : List Int} (h : ∀ t, t < l.length → S.contains (ixI l t) = true) : keepL S l = l := by
  unfold keepL
  rw [List.filter_eq_self]
  intro x hx
  obtain ⟨t, ht, rfl⟩ := List.getElem_of_mem hx
  rw [← ixI_get ht]
  exact h t ht
theorem keepL_first {S l : List Int} {k : Nat} (hk : k < l.length) (h : ∀ t, t < k → S.contains (ixI l t) = true) (hx : S.contains (ixI l k) = false) : keepL S (l.take (k + 1)) = l.take k := by
  rw [take_snocI l k hk, keepL_snoc, hx, if_neg (by decide)]
  refine keepL_all fun t ht => ?_
  rw [List.length_take] at ht
  rw [ixI_take (by omega)]
  exact h t (by omega)
def PB (w : World) (b8 mb n : Nat) (S : List Int) : Prop := Bx w b8 52 [.map (some mb)] ∧ MS w mb n S
set_option maxRecDepth 100000 in
theorem peel1_any (b8 mb n : Nat) (S : List Int) (x : Int) (w : World) (h : PB w b8 mb n S) (h1 : -9223372036854775808 ≤ x) (h2 : x ≤ 9223372036854775807) :
    Calls Tryz.prog 64 #[.int .i64 x, .pointer (some ⟨b8, 0, none⟩)] w fun e w' => e = .returned (.bool (!S.contains x)) ∧ w = w' := by
  have hc := h.1.cell (i := 0) rfl
  have hlook := h.2.run x h1 h2
  clear h
  generalize S.contains x = c at hlook
  go_enter Tryz.func64, Tryz.ntmps64
  go_wp2_with fail
  go_ret
  exact ⟨rfl, rfl⟩
def IdxP (S l : List Int) (r : Int) : Prop := (r = -1 ∧ ∀ t, t < l.length → S.contains (ixI l t) = true) ∨ ∃ k : Nat, r = k ∧ k < l.length ∧ (∀ t, t < k → S.contains (ixI l t) = true) ∧ S.contains (ixI l k) = false
set_option maxRecDepth 100000 in
set_option maxHeartbeats 2000000 in
theorem indexf_any (v : Value) (l : List Int) (b8 mb n : Nat) (S : List Int) (w : World) (hv : RdI w v l) (h : PB w b8 mb n S) :
    Calls Tryz.prog 58 #[v, .func (.func 64) #[] #[.pointer (some ⟨b8, 0, none⟩)]] w fun e w' => ∃ r : Int, e = .returned (.int .i64 r) ∧ IdxP S l r ∧ w = w' := by
  obtain ⟨h0, ⟨a, cap, b, off, rfl, hcap, hcell⟩, hrng⟩ := hv
  have HC := Lib.hid hcell; clear hcell
  have HP := Lib.hid (fun k (hk : k < l.length) => peel1_any b8 mb n S (ixI l k) w h (hrng k hk).1 (hrng k hk).2)
  clear hrng h
  go_enter Tryz.func58, Tryz.ntmps58
  go_wp2_with fail
  go_loop [8] (fun vk => ∃ k : Nat, k ≤ l.length ∧ vk = .int .i64 k ∧ Hid (∀ i, i < k → S.contains (ixI l i) = true)) (fun vk => l.length - (intOf vk).toNat)
  case atStart => exact ⟨0, by omega, rfl, Lib.hid (fun i h => by omega)⟩
  case round =>
    obtain ⟨k, hk, rfl, hz⟩ := hrel
    by_cases hlt : k < l.length
    · obtain ⟨ha, hcp⟩ := HC.out k hlt
      have hix := run_idx (P := Tryz.prog) Tryz.underlying53 Tryz.sizeInt (cap := cap) ha hlt _ rfl w
      have Ha := Lib.hid ha; clear ha
      have HQ := Lib.hid (HP.out k hlt)
      obtain ⟨y, hy⟩ : ∃ y, y = ixI l k := ⟨_, rfl⟩
      rw [← hy] at hcp HQ
      have Hy := Lib.hid hy; clear hy
      cases hc : S.contains y with
      | true =>
        rw [hc] at HQ
        have Hc := Lib.hid hc; clear hc
        go_wp2_with fail
        refine HQ.out.mono ?_
        rintro e w' ⟨rfl, rfl⟩
        go_wp2_with fail
        go_round
        case rel =>
          refine ⟨k + 1, by omega, by go_num, Lib.hid fun i hi => ?_⟩
          by_cases e : i = k
          · rw [e, ← Hy.out]; exact Hc.out
          · exact hz.out i (by omega)
        case measure => simp [intOf]; omega
      | false =>
        rw [hc] at HQ
        have Hc := Lib.hid hc; clear hc
        go_wp2_with fail
        refine HQ.out.mono ?_
        rintro e w' ⟨rfl, rfl⟩
        go_wp2_with fail
        go_ret
        exact ⟨_, rfl, .inr ⟨k, rfl, hlt, hz.out, by rw [← Hy.out]; exact Hc.out⟩, rfl⟩
    · obtain rfl : k = l.length := by omega
      go_wp2_with fail
      go_ret
      exact ⟨_, rfl, .inl ⟨rfl, hz.out⟩, rfl⟩
theorem grow_sets {w : World} {g : Nat} : ∀ (vs : List Value) (o : Nat) (W : World), w.grownBy W (some g) → w.grownBy (W.setCells g o vs) (some g)
  | [], _, _, h => h
  | v :: r, o, W, h => grow_sets r (o + 1) _ (grow_set h o v)
def Dk (S l L : List Int) (i j : Nat) : Prop := L.length = l.length ∧ i = (keepL S (l.take j)).length ∧ (∀ t, t < i → ixI L t = ixI (keepL S (l.take j)) t) ∧ ∀ t, j ≤ t → t < l.length → ixI L t = ixI l t
theorem Dk.no {S l L : List Int} {i j : Nat} (h : Dk S l L i j) (hj : j < l.length) (hc : S.contains (ixI l j) = false) : Dk S l L i (j + 1) := by
  obtain ⟨h1, h2, h3, h4⟩ := h
  have e : keepL S (l.take (j + 1)) = keepL S (l.take j) := by rw [take_snocI l j hj, keepL_snoc, hc, if_neg (by decide)]
  exact ⟨h1, by rw [e]; exact h2, by rw [e]; exact h3, fun t ht hl => h4 t (by omega) hl⟩
theorem ixI_set (l : List Int) (k i : Nat) (c : Int) (h : k < l.length) : ixI (l.set k c) i = if i = k then c else ixI l i := by
  unfold ixI
  rw [List.getD_eq_getElem?_getD, List.getD_eq_getElem?_getD, List.getElem?_set]
  by_cases e : i = k
  · subst e; rw [if_pos rfl, if_pos rfl, if_pos h]; rfl
  · rw [if_neg e, if_neg (Ne.symm e)]
theorem Dk.yes {S l L : List Int} {i j : Nat} (h : Dk S l L i j) (hij : i < j) (hj : j < l.length) (hc : S.contains (ixI l j) = true) : Dk S l (L.set i (ixI l j)) (i + 1) (j + 1) := by
  obtain ⟨h1, h2, h3, h4⟩ := h
  have e : keepL S (l.take (j + 1)) = keepL S (l.take j) ++ [ixI l j] := by rw [take_snocI l j hj, keepL_snoc, hc, if_pos rfl]
  refine ⟨by rw [List.length_set]; exact h1, by rw [e, List.length_append, h2]; rfl, fun t ht => ?_, fun t ht hl => ?_⟩
  · rw [ixI_set _ _ _ _ (by omega), e]
    by_cases e2 : t = i
    · subst e2
      rw [if_pos rfl, h2, ixI_last]
    · rw [if_neg e2, ixI_append (by omega), h3 t (by omega)]
  · rw [ixI_set _ _ _ _ (by omega), if_neg (by omega), h4 t (by omega) hl]
set_option maxRecDepth 100000 in
set_option maxHeartbeats 4000000 in
theorem delfunc_any (g cap n b8 mb n0 : Nat) (S l : List Int) (w : World) (hr : RowI w 3 g cap l) (hn : l.length = n) (hl : n ≤ 100000) (hb : ∀ x ∈ l, -9223372036854775808 ≤ x ∧ x ≤ 9223372036854775807) (h : PB w b8 mb n0 S) (hg8 : g ≠ b8) (hgm : g ≠ mb) :
    Calls Tryz.prog 16 #[.slice (some ⟨g, 0, none⟩) n cap, .func (.func 64) #[] #[.pointer (some ⟨b8, 0, none⟩)]] w fun e w' => ∃ v, e = .returned v ∧ RdI w' v (keepL S l) ∧ w.grownBy w' (some g) := by
  have hrd : RdI w (.slice (some ⟨g, 0, none⟩) n cap) l := ⟨by omega, ⟨_, cap, g, 0, by rw [hn], hr.le, fun i hi => ⟨rfl, by rw [Nat.zero_add]; exact hr.cell i hi⟩⟩, fun i hi => hb _ (ixI_mem hi)⟩
  have HI := Lib.hid (indexf_any _ l b8 mb n0 S w hrd h)
  have HP : Hid (∀ W, w.grownBy W (some g) → ∀ j, j < n → Calls Tryz.prog 64 #[.int .i64 (ixI l j), .pointer (some ⟨b8, 0, none⟩)] W fun e w' => e = .returned (.bool (!S.contains (ixI l j))) ∧ W = w') := Lib.hid fun W hW j hj =>
    peel1_any b8 mb n0 S (ixI l j) W ⟨(hW.5 b8 (Bx.lt h.1) (fun e => by have := Option.some.inj e; omega)).trans h.1, h.2.kept (hW.5 mb h.2.lt (fun e => by have := Option.some.inj e; omega))⟩ (hb _ (ixI_mem (by omega))).1 (hb _ (ixI_mem (by omega))).2
  have hncap : n ≤ cap := by rw [← hn]; exact hr.le
  have HRd := Lib.hid hrd; have HR := Lib.hid hr; have HN := Lib.hid hn; have HB := Lib.hid hb
  clear hrd hr hn hb h
  go_enter Tryz.func16, Tryz.ntmps16
  go_wp2_with fail
  refine HI.out.mono ?_
  rintro e w' ⟨r, rfl, (⟨rfl, hall⟩ | ⟨k, rfl, hk, hbefore, hno⟩), rfl⟩
  · have HA : Hid (keepL S l = l) := Lib.hid (keepL_all hall)
    clear hall
    go_wp2_with fail
    go_ret
    exact ⟨_, rfl, by rw [HA.out]; exact HRd.out, World.grownBy.refl _ _⟩
  · have hk2 : k < n := by rw [← HN.out]; exact hk
    have HD0 : Hid (Dk S l l k (k + 1)) := Lib.hid (by
      have e := keepL_first hk hbefore hno
      refine ⟨rfl, by rw [e, List.length_take]; omega, fun t ht => by rw [e, ixI_take ht], fun t _ _ => rfl⟩)
    have hr0 := HR.out
    clear hbefore hno hk
    go_wp2_with fail
    go_loopw [5, 6] (fun vi vj wr => ∃ (i j : Nat) (L : List Int), vi = .int .i64 i ∧ vj = .int .i64 j ∧ i < j ∧ j ≤ n ∧ Hid (Dk S l L i j) ∧ RowI wr 3 g cap L ∧ w.grownBy wr (some g)) (fun _ vj _ => n - (intOf vj).toNat)
    case atStart => exact ⟨k, k + 1, l, rfl, by go_num, by omega, by omega, HD0, hr0, World.grownBy.refl _ _⟩
    case round =>
      clear hr0
      obtain ⟨i, j, L, rfl, rfl, hij, hj, HD, hr, hg⟩ := hrel
      have hLl : L.length = n := HD.out.1.trans HN.out
      by_cases hlt : j < n
      · have hlt' : (j : Int) < n := by omega
        have hc := hr.cell j (by omega)
        rw [HD.out.2.2.2 j (Nat.le_refl _) (by rw [HN.out]; exact hlt)] at hc
        have hix := run_idx (P := Tryz.prog) (a := some ⟨g, 0, none⟩) (off := 0) (b := g) (n := n) (cap := cap) (k := j) Tryz.underlying53 Tryz.sizeInt rfl hlt _ rfl wr
        have hix2 := run_idx (P := Tryz.prog) (a := some ⟨g, 0, none⟩) (off := 0) (b := g) (n := n) (cap := cap) (k := i) Tryz.underlying53 Tryz.sizeInt rfl (by omega) _ rfl wr
        rw [Nat.zero_add] at hix hix2
        have HC := Lib.hid (HP.out wr hg j hlt)
        have hf := hr.frozen i
        have hci := hr.cell i (by omega)
        have hjl : j < l.length := by rw [HN.out]; exact hlt
        cases hcc : S.contains (ixI l j) with
        | false =>
          have HD2 := Lib.hid (HD.out.no hjl hcc)
          rw [hcc] at HC
          clear hcc
          generalize ixI l j = y at *
          go_wp2_with fail
          refine HC.out.mono ?_
          rintro e w' ⟨rfl, rfl⟩
          go_wp2_with fail
          go_roundw
          case rel =>
            refine ⟨_, _, _, _, _, _, _, _, _, _, _, _, _, _, _, _, _, _, _, _, _, _, _, ?_, rfl⟩
            exact ⟨i, j + 1, L, rfl, by go_num, by omega, by omega, HD2, hr, hg⟩
          case measure => simp [intOf]; omega
        | true =>
          have HD2 := Lib.hid (HD.out.yes hij hjl hcc)
          have HSt := Lib.hid (hr.store i (ixI l j) (by omega))
          have HGt := Lib.hid (grow_set hg i (.int .i64 (ixI l j)))
          rw [hcc] at HC
          clear hcc
          generalize ixI l j = y at *
          go_wp2_with fail
          refine HC.out.mono ?_
          rintro e w' ⟨rfl, rfl⟩
          clear hr hg
          go_wp2_with fail
          go_roundw
          case rel =>
            refine ⟨_, _, _, _, _, _, _, _, _, _, _, _, _, _, _, _, _, _, _, _, _, _, _, ?_, rfl⟩
            exact ⟨i + 1, j + 1, _, by go_num, by go_num, by omega, by omega, HD2, HSt.out, HGt.out⟩
          case measure => simp [intOf]; omega
      · obtain rfl : j = n := by omega
        have hin : i < j := hij
        have hif : Hid (i = (keepL S l).length ∧ ∀ t, t < i → ixI L t = ixI (keepL S l) t) := Lib.hid (by
          have e : l.take j = l := List.take_of_length_le (by rw [HN.out]; exact Nat.le_refl _)
          have h2 := HD.out.2.1; have h3 := HD.out.2.2.1
          rw [e] at h2 h3
          exact ⟨h2, h3⟩)
        have hcl : ∀ ty, (Builtin.clear_ #[53] ty #[.slice (some ⟨g, i, none⟩) (j - i) (cap - i)]).run Tryz.prog wr = .ok (.tuple #[]) (wr.setCells g i (List.replicate (j - i) (.int .i64 0))) := fun ty =>
          Lib.run_clear_slice wr _ _ ty _ Tryz.underlying53 (fun _ => by kernel_rfl) rfl rfl g i _ _ (by omega) (fun t ht => by rw [hr.cell (i + t) (by omega)]; rfl) (fun t ht => hr.frozen _)
        have HEnd : Hid (RdI (wr.setCells g i (List.replicate (j - i) (.int .i64 0))) (.slice (some ⟨g, 0, none⟩) i cap) (keepL S l) ∧ w.grownBy (wr.setCells g i (List.replicate (j - i) (.int .i64 0))) (some g)) := Lib.hid (by
          have hki := hif.out.1
          refine ⟨⟨by omega, ⟨_, cap, g, 0, by rw [hif.out.1], by omega, fun t ht => ⟨rfl, ?_⟩⟩, fun t ht => ?_⟩, grow_sets _ _ _ hg⟩
          · rw [Nat.zero_add, World.cell?_setCells_out _ _ _ _ _ (fun _ _ => .inl (by show t < i; omega)), hr.cell t (by omega), hif.out.2 t (by omega)]
          · exact HB.out _ (List.mem_filter.1 (ixI_mem ht)).1)
        clear hr hg
        go_wp2_with fail
        go_ret
        exact ⟨_, rfl, HEnd.out.1, HEnd.out.2⟩
end Go.Proofs.YtflmjdjkfognjaaGreat.W8
namespace Go.Proofs.YtflmjdjkfognjaaGreat.T7
open Go Go.RowKit Go.Shelf C9
open W8 (is RowI Dk ixI_mem ixI_get take_snocI ixI_set ixI_last ixI_append ixI_take grow_sets grow_set)
set_option linter.unusedVariables false
def anyS (p : List UInt8 → Bool) (l : List (List UInt8)) : Bool := l.any p
theorem anyS_at {p : List UInt8 → Bool} {l : List (List UInt8)} {i : Nat} (hi : i < l.length) (h : p (atD [] l i) = true) : anyS p l = true := by
  unfold anyS; rw [List.any_eq_true]; exact ⟨_, atD_mem hi, h⟩
theorem anyS_no {p : List UInt8 → Bool} {l : List (List UInt8)} (h : ∀ i, i < l.length → p (atD [] l i) = false) : anyS p l = false := by
  unfold anyS; rw [List.any_eq_false]
  intro x hx
  obtain ⟨i, hi, rfl⟩ := List.getElem_of_mem hx
  have := h i hi
  simp only [atD, List.getElem?_eq_getElem hi, Option.getD_some] at this
  rw [this]; decide
set_option maxRecDepth 100000 in
set_option maxHeartbeats 2000000 in
theorem idxf7 (fi : Nat) (hfi : ∀ args W, (callFunc fi args).run Tryz.prog W = .ok (.enter fi args) W) (p : List UInt8 → Bool) (v : Value) (l : List (List UInt8)) (w : World) (hr : RdStr w v l) (hl : l.length ≤ 1000000000000)
    (HP : ∀ x W, x ∈ l → Calls Tryz.prog fi #[.string (str x)] W fun e w' => e = .returned (.bool (p x)) ∧ W = w') :
    Calls Tryz.prog 120 #[v, .func (.func fi) #[] #[]] w fun e w' => ∃ r : Int, e = .returned (.int .i64 r) ∧ decide (0 ≤ r) = anyS p l ∧ w = w' := by
  obtain ⟨a, c, rfl, _⟩ := RdD.form hr
  obtain ⟨b, o, k⟩ := RdD.at hr
  have HK := Lib.hid k
  have HP := Lib.hid HP
  clear hr k
  go_enter Tryz.func120, Tryz.ntmps120
  go_wp2_with fail
  go_loop [8] (fun vi => ∃ i : Nat, i ≤ l.length ∧ vi = .int .i64 i ∧ Hid (∀ m, m < i → p (atD [] l m) = false)) (fun vi => l.length - (intOf vi).toNat)
  case atStart => exact ⟨0, by omega, rfl, Lib.hid fun m hm => by omega⟩
  case round =>
    obtain ⟨i, hi, rfl, HO⟩ := hrel
    by_cases hlt : i < l.length
    · obtain ⟨ha, hrange⟩ := HK.out i hlt
      have hix := run_idxS Tryz.underlying47 (by kernel_rfl : (Tryz.prog.info? 9).map (·.size) = some 1) (cap := c) ha hlt (i : Int) rfl w
      have hcl : w.cell? ⟨b, o + i * 1, none⟩ = some (.string (str (atD [] l i))) := hrange 0 _ rfl
      simp only [Nat.mul_one] at hix hcl
      have HC := Lib.hid (HP.out (atD [] l i) w (atD_mem hlt))
      obtain ⟨q, hq⟩ : ∃ q, q = p (atD [] l i) := ⟨_, rfl⟩
      rw [← hq] at HC
      have HQ := Lib.hid hq
      generalize str (atD [] l i) = s at hcl HC
      clear ha hrange hq
      cases q
      · go_wp2_with fail
        refine HC.out.mono ?_
        rintro e w' ⟨rfl, rfl⟩
        go_wp2_with fail
        go_round
        case rel =>
          refine ⟨i + 1, by omega, by go_num, Lib.hid fun m hm => ?_⟩
          by_cases e9 : m < i
          · exact HO.out m e9
          · have e8 : m = i := by omega
            rw [e8]; exact HQ.out.symm
        case measure => simp [intOf]; omega
      · go_wp2_with fail
        refine HC.out.mono ?_
        rintro e w' ⟨rfl, rfl⟩
        go_wp2_with fail
        go_ret
        refine ⟨i, rfl, ?_, rfl⟩
        rw [anyS_at hlt HQ.out.symm]; simp
    · obtain rfl : i = l.length := by omega
      go_wp2_with fail
      go_ret
      refine ⟨-1, rfl, ?_, rfl⟩
      rw [anyS_no HO.out]; rfl
set_option maxRecDepth 100000 in
set_option maxHeartbeats 2000000 in
theorem contf7 (fi : Nat) (hfi : ∀ args W, (callFunc fi args).run Tryz.prog W = .ok (.enter fi args) W) (p : List UInt8 → Bool) (v : Value) (l : List (List UInt8)) (w : World) (hr : RdStr w v l) (hl : l.length ≤ 1000000000000)
    (HP : ∀ x W, x ∈ l → Calls Tryz.prog fi #[.string (str x)] W fun e w' => e = .returned (.bool (p x)) ∧ W = w') :
    Calls Tryz.prog 54 #[v, .func (.func fi) #[] #[]] w fun e w' => e = .returned (.bool (anyS p l)) ∧ w = w' := by
  have HI := Lib.hid (idxf7 fi hfi p v l w hr hl HP)
  obtain ⟨a, c, rfl, _⟩ := RdD.form hr
  clear HP hr
  go_enter Tryz.func54, Tryz.ntmps54
  go_wp2_with fail
  refine HI.out.mono ?_
  rintro e w1 ⟨r, rfl, hr1, rfl⟩
  have HR1 := Lib.hid hr1; clear hr1
  go_wp2_with fail
  go_ret
  exact ⟨retB HR1.out, rfl⟩
def keepF (q : Int → Bool) (l : List Int) : List Int := l.filter q
theorem keepF_snoc (q : Int → Bool) (l : List Int) (x : Int) : keepF q (l ++ [x]) = if q x = true then keepF q l ++ [x] else keepF q l := by
  unfold keepF
  rw [List.filter_append]
  by_cases h : q x = true
  · rw [if_pos h]; simp only [List.filter_cons, h, if_true, List.filter_nil]
  · rw [if_neg h]; simp only [List.filter_cons, h, List.filter_nil]; simp
theorem keepF_all {q : Int → Bool} {l : List Int} (h : ∀ t, t < l.length → q (ixI l t) = true) : keepF q l = l := by
  unfold keepF
  rw [List.filter_eq_self]
  intro x hx
  obtain ⟨t, ht, rfl⟩ := List.getElem_of_mem hx
  rw [← ixI_get ht]
  exact h t ht
theorem keepF_first {q : Int → Bool} {l : List Int} {k : Nat} (hk : k < l.length) (h : ∀ t, t < k → q (ixI l t) = true) (hx : q (ixI l k) = false) : keepF q (l.take (k + 1)) = l.take k := by
  rw [take_snocI l k hk, keepF_snoc, hx, if_neg (by decide)]
  refine keepF_all fun t ht => ?_
  rw [List.length_take] at ht
  rw [ixI_take (by omega)]
  exact h t (by omega)
def IdxF (q : Int → Bool) (l : List Int) (r : Int) : Prop := (r = -1 ∧ ∀ t, t < l.length → q (ixI l t) = true) ∨ ∃ k : Nat, r = k ∧ k < l.length ∧ (∀ t, t < k → q (ixI l t) = true) ∧ q (ixI l k) = false
set_option maxRecDepth 100000 in
set_option maxHeartbeats 2000000 in
theorem idxi7 (fi : Nat) (hfi : ∀ args W, (callFunc fi args).run Tryz.prog W = .ok (.enter fi args) W) (q : Int → Bool) (v : Value) (l : List Int) (w : World) (hv : RdI w v l) (h : ∀ x W, Calls Tryz.prog fi #[.int .i64 x] W fun e w' => e = .returned (.bool (!q x)) ∧ W = w') :
    Calls Tryz.prog 58 #[v, .func (.func fi) #[] #[]] w fun e w' => ∃ r : Int, e = .returned (.int .i64 r) ∧ IdxF q l r ∧ w = w' := by
  obtain ⟨h0, ⟨a, cap, b, off, rfl, hcap, hcell⟩, hrng⟩ := hv
  have HC := Lib.hid hcell; clear hcell
  have HP := Lib.hid (fun k (hk : k < l.length) => h (ixI l k) w)
  clear hrng h
  go_enter Tryz.func58, Tryz.ntmps58
  go_wp2_with fail
  go_loop [8] (fun vk => ∃ k : Nat, k ≤ l.length ∧ vk = .int .i64 k ∧ Hid (∀ i, i < k → q (ixI l i) = true)) (fun vk => l.length - (intOf vk).toNat)
  case atStart => exact ⟨0, by omega, rfl, Lib.hid (fun i h => by omega)⟩
  case round =>
    obtain ⟨k, hk, rfl, hz⟩ := hrel
    by_cases hlt : k < l.length
    · obtain ⟨ha, hcp⟩ := HC.out k hlt
      have hix := run_idx (P := Tryz.prog) Tryz.underlying53 Tryz.sizeInt (cap := cap) ha hlt _ rfl w
      have Ha := Lib.hid ha; clear ha
      have HQ := Lib.hid (HP.out k hlt)
      obtain ⟨y, hy⟩ : ∃ y, y = ixI l k := ⟨_, rfl⟩
      rw [← hy] at hcp HQ
      have Hy := Lib.hid hy; clear hy
      cases hc : q y with
      | true =>
        rw [hc] at HQ
        have Hc := Lib.hid hc; clear hc
        go_wp2_with fail
        refine HQ.out.mono ?_
        rintro e w' ⟨rfl, rfl⟩
        go_wp2_with fail
        go_round
        case rel =>
          refine ⟨k + 1, by omega, by go_num, Lib.hid fun i hi => ?_⟩
          by_cases e : i = k
          · rw [e, ← Hy.out]; exact Hc.out
          · exact hz.out i (by omega)
        case measure => simp [intOf]; omega
      | false =>
        rw [hc] at HQ
        have Hc := Lib.hid hc; clear hc
        go_wp2_with fail
        refine HQ.out.mono ?_
        rintro e w' ⟨rfl, rfl⟩
        go_wp2_with fail
        go_ret
        exact ⟨_, rfl, .inr ⟨k, rfl, hlt, hz.out, by rw [← Hy.out]; exact Hc.out⟩, rfl⟩
    · obtain rfl : k = l.length := by omega
      go_wp2_with fail
      go_ret
      exact ⟨_, rfl, .inl ⟨rfl, hz.out⟩, rfl⟩
def DkF (q : Int → Bool) (l L : List Int) (i j : Nat) : Prop := L.length = l.length ∧ i = (keepF q (l.take j)).length ∧ (∀ t, t < i → ixI L t = ixI (keepF q (l.take j)) t) ∧ ∀ t, j ≤ t → t < l.length → ixI L t = ixI l t
theorem DkF.no {q : Int → Bool} {l L : List Int} {i j : Nat} (h : DkF q l L i j) (hj : j < l.length) (hc : q (ixI l j) = false) : DkF q l L i (j + 1) := by
  obtain ⟨h1, h2, h3, h4⟩ := h
  have e : keepF q (l.take (j + 1)) = keepF q (l.take j) := by rw [take_snocI l j hj, keepF_snoc, hc, if_neg (by decide)]
  exact ⟨h1, by rw [e]; exact h2, by rw [e]; exact h3, fun t ht hl => h4 t (by omega) hl⟩
theorem DkF.yes {q : Int → Bool} {l L : List Int} {i j : Nat} (h : DkF q l L i j) (hij : i < j) (hj : j < l.length) (hc : q (ixI l j) = true) : DkF q l (L.set i (ixI l j)) (i + 1) (j + 1) := by
  obtain ⟨h1, h2, h3, h4⟩ := h
  have e : keepF q (l.take (j + 1)) = keepF q (l.take j) ++ [ixI l j] := by rw [take_snocI l j hj, keepF_snoc, hc, if_pos rfl]
  refine ⟨by rw [List.length_set]; exact h1, by rw [e, List.length_append, h2]; rfl, fun t ht => ?_, fun t ht hl => ?_⟩
  · rw [ixI_set _ _ _ _ (by omega), e]
    by_cases e2 : t = i
    · subst e2
      rw [if_pos rfl, h2, ixI_last]
    · rw [if_neg e2, ixI_append (by omega), h3 t (by omega)]
  · rw [ixI_set _ _ _ _ (by omega), if_neg (by omega), h4 t (by omega) hl]
set_option maxRecDepth 100000 in
set_option maxHeartbeats 4000000 in
theorem delf7 (fi : Nat) (hfi : ∀ args W, (callFunc fi args).run Tryz.prog W = .ok (.enter fi args) W) (q : Int → Bool) (g cap n : Nat) (l : List Int) (w : World) (hr : RowI w 3 g cap l) (hn : l.length = n) (hl : n ≤ 100000) (hb : ∀ x ∈ l, -9223372036854775808 ≤ x ∧ x ≤ 9223372036854775807) (h : ∀ x W, Calls Tryz.prog fi #[.int .i64 x] W fun e w' => e = .returned (.bool (!q x)) ∧ W = w') :
    Calls Tryz.prog 16 #[.slice (some ⟨g, 0, none⟩) n cap, .func (.func fi) #[] #[]] w fun e w' => ∃ v, e = .returned v ∧ RdI w' v (keepF q l) ∧ w.grownBy w' (some g) := by
  have hrd : RdI w (.slice (some ⟨g, 0, none⟩) n cap) l := ⟨by omega, ⟨_, cap, g, 0, by rw [hn], hr.le, fun i hi => ⟨rfl, by rw [Nat.zero_add]; exact hr.cell i hi⟩⟩, fun i hi => hb _ (ixI_mem hi)⟩
  have HI := Lib.hid (idxi7 fi hfi q _ l w hrd h)
  have HP : Hid (∀ W : World, ∀ j, j < n → Calls Tryz.prog fi #[.int .i64 (ixI l j)] W fun e w' => e = .returned (.bool (!q (ixI l j))) ∧ W = w') := Lib.hid fun W j _ => h (ixI l j) W
  have hncap : n ≤ cap := by rw [← hn]; exact hr.le
  have HRd := Lib.hid hrd; have HR := Lib.hid hr; have HN := Lib.hid hn; have HB := Lib.hid hb
  clear hrd hr hn hb h
  go_enter Tryz.func16, Tryz.ntmps16
  go_wp2_with fail
  refine HI.out.mono ?_
  rintro e w' ⟨r, rfl, (⟨rfl, hall⟩ | ⟨k, rfl, hk, hbefore, hno⟩), rfl⟩
  · have HA : Hid (keepF q l = l) := Lib.hid (keepF_all hall)
    clear hall
    go_wp2_with fail
    go_ret
    exact ⟨_, rfl, by rw [HA.out]; exact HRd.out, World.grownBy.refl _ _⟩
  · have hk2 : k < n := by rw [← HN.out]; exact hk
    have HD0 : Hid (DkF q l l k (k + 1)) := Lib.hid (by
      have e := keepF_first hk hbefore hno
      refine ⟨rfl, by rw [e, List.length_take]; omega, fun t ht => by rw [e, ixI_take ht], fun t _ _ => rfl⟩)
    have hr0 := HR.out
    clear hbefore hno hk
    go_wp2_with fail
    go_loopw [5, 6] (fun vi vj wr => ∃ (i j : Nat) (L : List Int), vi = .int .i64 i ∧ vj = .int .i64 j ∧ i < j ∧ j ≤ n ∧ Hid (DkF q l L i j) ∧ RowI wr 3 g cap L ∧ w.grownBy wr (some g)) (fun _ vj _ => n - (intOf vj).toNat)
    case atStart => exact ⟨k, k + 1, l, rfl, by go_num, by omega, by omega, HD0, hr0, World.grownBy.refl _ _⟩
    case round =>
      clear hr0
      obtain ⟨i, j, L, rfl, rfl, hij, hj, HD, hr, hg⟩ := hrel
      have hLl : L.length = n := HD.out.1.trans HN.out
      by_cases hlt : j < n
      · have hlt' : (j : Int) < n := by omega
        have hc := hr.cell j (by omega)
        rw [HD.out.2.2.2 j (Nat.le_refl _) (by rw [HN.out]; exact hlt)] at hc
        have hix := run_idx (P := Tryz.prog) (a := some ⟨g, 0, none⟩) (off := 0) (b := g) (n := n) (cap := cap) (k := j) Tryz.underlying53 Tryz.sizeInt rfl hlt _ rfl wr
        have hix2 := run_idx (P := Tryz.prog) (a := some ⟨g, 0, none⟩) (off := 0) (b := g) (n := n) (cap := cap) (k := i) Tryz.underlying53 Tryz.sizeInt rfl (by omega) _ rfl wr
        rw [Nat.zero_add] at hix hix2
        have HC := Lib.hid (HP.out wr j hlt)
        have hf := hr.frozen i
        have hci := hr.cell i (by omega)
        have hjl : j < l.length := by rw [HN.out]; exact hlt
        cases hcc : q (ixI l j) with
        | false =>
          have HD2 := Lib.hid (HD.out.no hjl hcc)
          rw [hcc] at HC
          clear hcc
          generalize ixI l j = y at *
          go_wp2_with fail
          refine HC.out.mono ?_
          rintro e w' ⟨rfl, rfl⟩
          go_wp2_with fail
          go_roundw
          case rel =>
            refine ⟨_, _, _, _, _, _, _, _, _, _, _, _, _, _, _, _, _, _, _, _, _, _, _, ?_, rfl⟩
            exact ⟨i, j + 1, L, rfl, by go_num, by omega, by omega, HD2, hr, hg⟩
          case measure => simp [intOf]; omega
        | true =>
          have HD2 := Lib.hid (HD.out.yes hij hjl hcc)
          have HSt := Lib.hid (hr.store i (ixI l j) (by omega))
          have HGt := Lib.hid (grow_set hg i (.int .i64 (ixI l j)))
          rw [hcc] at HC
          clear hcc
          generalize ixI l j = y at *
          go_wp2_with fail
          refine HC.out.mono ?_
          rintro e w' ⟨rfl, rfl⟩
          clear hr hg
          go_wp2_with fail
          go_roundw
          case rel =>
            refine ⟨_, _, _, _, _, _, _, _, _, _, _, _, _, _, _, _, _, _, _, _, _, _, _, ?_, rfl⟩
            exact ⟨i + 1, j + 1, _, by go_num, by go_num, by omega, by omega, HD2, HSt.out, HGt.out⟩
          case measure => simp [intOf]; omega
      · obtain rfl : j = n := by omega
        have hin : i < j := hij
        have hif : Hid (i = (keepF q l).length ∧ ∀ t, t < i → ixI L t = ixI (keepF q l) t) := Lib.hid (by
          have e : l.take j = l := List.take_of_length_le (by rw [HN.out]; exact Nat.le_refl _)
          have h2 := HD.out.2.1; have h3 := HD.out.2.2.1
          rw [e] at h2 h3
          exact ⟨h2, h3⟩)
        have hcl : ∀ ty, (Builtin.clear_ #[53] ty #[.slice (some ⟨g, i, none⟩) (j - i) (cap - i)]).run Tryz.prog wr = .ok (.tuple #[]) (wr.setCells g i (List.replicate (j - i) (.int .i64 0))) := fun ty =>
          Lib.run_clear_slice wr _ _ ty _ Tryz.underlying53 (fun _ => by kernel_rfl) rfl rfl g i _ _ (by omega) (fun t ht => by rw [hr.cell (i + t) (by omega)]; rfl) (fun t ht => hr.frozen _)
        have HEnd : Hid (RdI (wr.setCells g i (List.replicate (j - i) (.int .i64 0))) (.slice (some ⟨g, 0, none⟩) i cap) (keepF q l) ∧ w.grownBy (wr.setCells g i (List.replicate (j - i) (.int .i64 0))) (some g)) := Lib.hid (by
          have hki := hif.out.1
          refine ⟨⟨by omega, ⟨_, cap, g, 0, by rw [hif.out.1], by omega, fun t ht => ⟨rfl, ?_⟩⟩, fun t ht => ?_⟩, grow_sets _ _ _ hg⟩
          · rw [Nat.zero_add, World.cell?_setCells_out _ _ _ _ _ (fun _ _ => .inl (by show t < i; omega)), hr.cell t (by omega), hif.out.2 t (by omega)]
          · exact HB.out _ (List.mem_filter.1 (ixI_mem ht)).1)
        clear hr hg
        go_wp2_with fail
        go_ret
        exact ⟨_, rfl, HEnd.out.1, HEnd.out.2⟩
end Go.Proofs.YtflmjdjkfognjaaGreat.T7
namespace Go.Proofs.YtflmjdjkfognjaaGreat
open Go.ChangeShapes Go.WideShapes Go.RowKit Go.Deep
set_option linter.unusedVariables false
def In64 (a : Int) : Prop := -9223372036854775808 ≤ a ∧ a ≤ 9223372036854775807
theorem in64_wf {a : Int} (h : (Lit.int .i64 a).wf = true) : In64 a := by
  simpa [Lit.wf, IntKind.min, IntKind.max, IntKind.signed, IntKind.bits, In64] using h
section
variable {H : Type} {enc : TypeId × Value → H} {P : Program} {w : World} {base b0 : Nat} {sp : Nat → Bool} {held : Bool}
theorem leaf_int {t : TypeId} {n : Nat} {cs : List Value} {y : Option (DataW H × List MemPlace)} (ht : P.underlying t = some (.int .i64)) (h : DataW.trod enc P w base sp held n t cs = y) (hy : y ≠ none) : ∃ a, cs = [.int .i64 a] ∧ In64 a := by
  cases y with
  | none => exact (hy rfl).elim
  | some y =>
    obtain ⟨a, h1, _, h2⟩ := DataW.trod_int ht h
    exact ⟨a, h1, in64_wf h2⟩
theorem some_at {α : Type} {xs : List α} {n i : Nat} (h : xs.length = n) (hi : i < n) : xs[i]? ≠ none := by
  rw [List.getElem?_eq_getElem (by omega)]; simp
theorem open_rdS {α : Type} (d : α) (D : α → List Value) (Q : α → Prop) {t e : TypeId} {sz : Nat} (ht : P.underlying t = some (.slice e)) (hC : P.cellsOf e = sz) (hs : 0 < sz)
    (hE : ∀ n cs x, DataW.trod enc P w base sp held n e cs = some x → ∃ a : α, cs = D a ∧ Q a) {n : Nat} {v : Value} {x : DataW H × List MemPlace} (hd : DataW.trod enc P w base sp held n t [v] = some x) :
    ∃ l : List α, RdS w sz v l.length (fun i => D ((l[i]?).getD d)) ∧ l.length ≤ 9223372036854775807 ∧ ∀ i, i < l.length → Q ((l[i]?).getD d) := by
  rcases open_slice ht hd with ⟨hcs, _⟩ | ⟨a, len, cap, m, n', Dd, Pl, hcs, hb, hl, hm, hmm, hx, hi⟩
  · simp only [List.cons.injEq, and_true] at hcs
    subst hcs
    exact ⟨[], RdS.nil _ _ _, by simp, fun i hi => by simp at hi⟩
  · simp only [List.cons.injEq, and_true] at hcs
    subst hcs
    rw [hC] at hi
    by_cases h0 : len = 0
    · subst h0
      exact ⟨[], RdS.empty _ _ _ _ _, by simp, fun i hi => by simp at hi⟩
    obtain ⟨ab, ao, asp⟩ := a
    have hle : len ≤ m := by rw [hmm]; split <;> omega
    obtain rfl : asp = none := by
      obtain ⟨cs', h1, h2⟩ := hi 0 (by omega)
      obtain ⟨_, hL, hc⟩ := World.cells?_some h1
      have e := hc 0 hs
      rw [List.getElem?_eq_getElem (by omega), Nat.zero_mul] at e
      cases asp with
      | none => rfl
      | some s => unfold World.cell? at e; split at e <;> simp [Addr.add] at e
    have key : ∀ i, ∃ z : α, i < len → Q z ∧ w.rangeAt ab (ao + i * sz) (D z) := fun i => by
      by_cases h : i < len
      · obtain ⟨cs', h1, h2⟩ := hi i (by omega)
        obtain ⟨z, rfl, hq⟩ := hE _ _ _ h2
        obtain ⟨_, hL, hc⟩ := World.cells?_some h1
        refine ⟨z, fun _ => ⟨hq, fun j u hu => ?_⟩⟩
        have hj : j < sz := by have := (List.getElem?_eq_some_iff.1 hu).1; omega
        have e := hc j hj
        rw [hu, Addr.add_lit, Addr.add_lit] at e
        exact e
      · exact ⟨d, fun h' => absurd h' h⟩
    obtain ⟨f, hf⟩ : ∃ f : Nat → α, ∀ i, i < len → Q (f i) ∧ w.rangeAt ab (ao + i * sz) (D (f i)) := ⟨fun i => Classical.choose (key i), fun i => Classical.choose_spec (key i)⟩
    have hL : ((List.range len).map f).length = len := by simp
    have hG : ∀ i, i < len → (((List.range len).map f)[i]?).getD d = f i := fun i h => by simp [h]
    refine ⟨(List.range len).map f, ⟨some ⟨ab, ao, none⟩, cap, ab, ao, by rw [hL], by rw [hL]; exact hl, fun i h => ?_⟩, by rw [hL]; unfold maxLen at hm; omega, fun i h => ?_⟩
    · rw [hL] at h
      simp only [hG i h]
      exact ⟨trivial, (hf i h).2⟩
    · rw [hL] at h
      rw [hG i h]
      exact (hf i h).1
end
end Go.Proofs.YtflmjdjkfognjaaGreat
