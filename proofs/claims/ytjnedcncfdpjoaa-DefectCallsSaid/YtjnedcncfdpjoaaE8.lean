/- Chapter 13: Bad walked. -/
import Derived.Test.YtjnedcncfdpjoaaE6
import Derived.Test.YtjnedcncfdpjoaaE7
import Derived.Sort.OwnSortedInts
namespace Go.Proofs.Ytjnedcncfdpjoaa.D13
open Go.RowKit Go.Maps
set_option linter.unusedVariables false

theorem Try.infoInt13 : (Try.prog.info? 3).map (fun i => (i.zero, i.size, i.bytes)) = some (some (.int .i64 0), 1, 8) := by kernel_rfl
theorem iter13 {w : World} {b e sz n gm r m cnt : Nat} {v : Value} {xs : List Value} {D : DataW Unit} {left : Lit → Bool} (h : w.ownsRow b e sz v n xs) (hr : w.ranges Try.prog 3 (plainElem Try.prog 3) gm r m D left cnt) : v.ownBlock ≠ some r := by
  intro hk
  rcases h.2 with ⟨rfl, _⟩ | ⟨g', cap, cur, rfl, _, hg, _⟩
  · simp [Value.ownBlock] at hk
  have e1 : g' = r := by simpa [Value.ownBlock] using hk
  subst e1
  obtain ⟨es, clock, since, seen, c0, hb, F, hs, hD, hi, _⟩ := hr
  rw [hg] at hi
  cases hi
/-- what the first loop of Bad has collected -/
def Coll (T : Tab) (left : Lit → Bool) (L : List Int) : Prop := L.Nodup ∧ ∀ z, z ∈ L ↔ ∃ b s, T.mv b = some s ∧ left (.int .i64 b) = false ∧ z = hmK T.prim b
theorem Coll.step {T : Tab} {left : Lit → Bool} {L : List Int} (h : Coll T left L) (hok : T.Ok) {k : Int} {s : Nat} (hk : T.mv k = some s) (hl : left (.int .i64 k) = true) : Coll T (fun z => left z && !z.sameKey (.int .i64 k)) (L ++ [hmK T.prim k]) := by
  have hne : ∀ b : Int, b ≠ k → (Lit.int .i64 b).sameKey (.int .i64 k) = false := fun b hb => sameKey_ne fun e => by
    injection e with _ e
    exact hb e
  refine ⟨?_, fun z => ?_⟩
  · rw [List.nodup_append]
    refine ⟨h.1, by simp, fun a ha b hb => ?_⟩
    simp only [List.mem_singleton] at hb
    subst hb
    obtain ⟨c, t, hc, hlc, rfl⟩ := (h.2 a).1 ha
    intro e
    have h1 := (hmK_spec hok.ps c).2
    have h2 := (hmK_spec hok.ps k).2
    rw [e] at h1
    have : c = k := by omega
    subst this
    rw [hl] at hlc; cases hlc
  · rw [List.mem_append, h.2 z, List.mem_singleton]
    constructor
    · rintro (⟨b, t, h1, h2, h3⟩ | h1)
      · exact ⟨b, t, h1, by show (left (.int .i64 b) && _) = false; rw [h2]; rfl, h3⟩
      · exact ⟨k, s, hk, by show (left (.int .i64 k) && !(Lit.int .i64 k).sameKey (.int .i64 k)) = false; rw [WideAt.sameKey_self (by trivial), Bool.not_true, Bool.and_false], h1⟩
    · rintro ⟨b, t, h1, h2, h3⟩
      by_cases e : b = k
      · subst e; exact .inr h3
      · change (left (.int .i64 b) && !(Lit.int .i64 b).sameKey (.int .i64 k)) = false at h2
        rw [hne b e, Bool.not_false, Bool.and_true] at h2
        exact .inl ⟨b, t, h1, h2, h3⟩
theorem sort13 (v : Value) (M : List Int) (w : World) (b n : Nat) (ho : w.ownsRow b 3 1 v n (is M)) (hn : M.length = n) (hl : n ≤ 1000000) :
    Calls Try.prog 33 #[v] w fun e w' => e = .returned (.tuple #[]) ∧ w'.ownsRow b 3 1 v n (is (M.mergeSort fun x y => decide (x ≤ y))) ∧ w.grownBy w' v.ownBlock := by
  subst hn
  rcases ho.2 with ⟨rfl, h0⟩ | ⟨g, cap, cur, rfl, hg, hb, h1, h2, h3, h4⟩
  · have e : M = [] := List.length_eq_zero_iff.1 h0
    subst e
    refine (Try.slices_Sort_int_none none 0 w).mono ?_
    rintro e w' ⟨rfl, rfl⟩
    exact ⟨rfl, by simpa using ho, rfl, rfl, rfl, Nat.le_refl _, fun _ _ _ => rfl⟩
  · have ht : cur.toList.take M.length = M.map (Value.int .i64) := by rw [Nat.mul_one] at h4; exact h4
    refine (Try.slices_Sort_int g 0 cap M w (holds_of_blockI hb ht) (Array.getElem?_eq_some_iff.1 hb).1 (by omega)).mono ?_
    rintro e w' ⟨rfl, k, os, rfl⟩
    exact ⟨rfl, ownsRow_sortedI (ss := M) (List.length_mergeSort M) hg hb h1 h2 h3, grownBy_sortedI _⟩
/-- the spare sectors that are used no more, of the first 'i' -/
def spK (T : Tab) (i : Nat) : List Int := ((List.range i).filter fun j : Nat => (T.blk ((T.first : Int) + j)).isNone).map fun j : Nat => (T.first : Int) + j
theorem spK_zero (T : Tab) : spK T 0 = [] := rfl
theorem spK_succ (T : Tab) (i : Nat) : spK T (i + 1) = if (T.blk ((T.first : Int) + i)).isNone = true then spK T i ++ [(T.first : Int) + i] else spK T i := by
  unfold spK
  rw [List.range_succ, List.filter_append, List.map_append]
  by_cases h : (T.blk ((T.first : Int) + i)).isNone = true
  · simp [h]
  · simp [h]
theorem spK_length (T : Tab) (i : Nat) : (spK T i).length ≤ i := by
  unfold spK
  rw [List.length_map]
  have := List.length_filter_le (fun j : Nat => (T.blk ((T.first : Int) + j)).isNone) (List.range i)
  rwa [List.length_range] at this
theorem mem_spK (T : Tab) (i : Nat) (z : Int) : z ∈ spK T i ↔ ∃ j : Nat, j < i ∧ z = (T.first : Int) + j ∧ T.blk z = none := by
  unfold spK
  simp only [List.mem_map, List.mem_filter, List.mem_range, Option.isNone_iff_eq_none]
  constructor
  · rintro ⟨j, ⟨h1, h2⟩, rfl⟩; exact ⟨j, h1, rfl, h2⟩
  · rintro ⟨j, h1, rfl, h2⟩; exact ⟨j, ⟨h1, h2⟩, rfl⟩
theorem spK_nodup (T : Tab) (i : Nat) : (spK T i).Nodup := by
  unfold spK
  unfold List.Nodup
  rw [List.pairwise_map]
  refine (List.Pairwise.filter _ List.pairwise_lt_range).imp ?_
  intro a b h e
  omega
theorem Coll.sorted {T : Tab} {left : Lit → Bool} {L : List Int} (h : Coll T left L) (hok : T.Ok) (hl : ∀ kl, left kl = false) : (T.prim ++ L ++ spK T T.used).mergeSort (fun x y => decide (x ≤ y)) = T.bad := by
  have hmem : ∀ z, z ∈ L ↔ ∃ b s, T.mv b = some s ∧ z = hmK T.prim b := fun z => (h.2 z).trans ⟨fun ⟨b, s, h1, _, h3⟩ => ⟨b, s, h1, h3⟩, fun ⟨b, s, h1, h3⟩ => ⟨b, s, h1, hl _, h3⟩⟩
  refine sort_same ?_ Tab.bad_sorted fun z => ?_
  · have hp : T.prim.Nodup := hok.ps.imp fun h e => by omega
    rw [List.nodup_append]
    refine ⟨List.nodup_append.2 ⟨hp, h.1, fun a ha b hb e => ?_⟩, spK_nodup T _, fun a ha b hb e => ?_⟩
    · subst e
      obtain ⟨c, s, hc, rfl⟩ := (hmem a).1 hb
      have h1 := hok.mr c s hc
      exact (hok.home h1.1 h1.2.1).2.2 ha
    · subst e
      obtain ⟨j, hj, rfl, _⟩ := (mem_spK T _ a).1 hb
      rcases List.mem_append.1 ha with ha | ha
      · have := hok.pr _ ha; omega
      · obtain ⟨c, s, hc, e⟩ := (hmem _).1 ha
        have h1 := hok.mr c s hc
        have := hok.home h1.1 h1.2.1
        omega
  · rw [hok.bad_iff, List.mem_append, List.mem_append, hmem, mem_spK, or_assoc]
set_option maxRecDepth 100000 in
set_option maxHeartbeats 4000000 in
theorem bad_any {w : World} {g gm : Nat} {vp : Value} {T : Tab} (h : TabW w g gm vp T) :
    Calls Try.prog 15 #[.pointer (some ⟨g, 0, none⟩)] w fun e w' => ∃ v', e = .returned v' ∧ w'.ownsRow w.heap.size 3 1 v' T.bad.length (is T.bad) ∧ Below w.heap.size w w' := by
  have HP := Lib.hid (primary_any h)
  have HT := Lib.hid h
  have HHW := Lib.hid (fun W (hb : Below w.heap.size w W) b h1 h2 => home_any (h.below hb) b h1 h2)
  have HBW := Lib.hid (fun W (hb : Below w.heap.size w W) b h1 h2 => block_any (h.below hb) b h1 h2)
  have HFW := Lib.hid (fun W (hb : Below w.heap.size w W) => first_any (h.below hb))
  have hus := h.ok.us
  have hsp := h.ok.sp
  have hpl := h.ok.pl
  have hfi : T.first ≤ 5000 := by have := h.ok.pl; have := h.ok.b2; unfold Tab.first; omega
  clear h
  go_enter Try.func15, Try.ntmps15
  go_wp2_with fail
  refine HP.out.mono ?_
  rintro e w1 ⟨v1, rfl, ho1, hb1⟩
  have hT1 := HT.out.below hb1
  obtain ⟨d0, d1, d2, d3, d4⟩ := hT1.cells
  obtain ⟨D, hown1, hf⟩ := hT1.map
  have HD := Lib.hid hf
  have HT1 := Lib.hid hT1
  have HO1 := Lib.hid ho1
  have HB1 := Lib.hid hb1
  clear hT1 hf ho1 hb1 HP
  go_wp2_with (first
    | (at_range; refine wpList_range_own _ rfl _ 36 rfl 3 3 lawI Try.underlying36 _ gm T.used _ rfl hown1 ?_; intro w0 hrg0 hg0 hs0)
    | fail)
  go_frame
  have HSZ := Lib.hid hown1.size_le
  have hb0 : Below w1.heap.size w1 w0 := (Below.refl _ _).grown hg0 (Nat.le_refl _) (fun k hk => by cases hk)
  have HO0 := Lib.hid (ownD_keep HO1.out hb0)
  have HB0 := Lib.hid (HB1.out.trans (hb0.mono HB1.out.size))
  have HRG := Lib.hid hrg0
  have HS0 : Hid (Coll T (Maps.has D) []) := Lib.hid ⟨List.nodup_nil, fun z => ⟨fun h => by simp at h, fun ⟨b, s, hs, hl, _⟩ => by
    have h1 := HT1.out.ok.mr b s hs
    have h2 := HT1.out.ok.b2
    rw [(HD.out b (by unfold In64; omega)).1] at hl
    change ((T.mv b).map Int.ofNat).isSome = false at hl
    rw [hs] at hl; cases hl⟩⟩
  clear hb0 hown1 hg0 hrg0 hs0 d0 d1 d2 d3 d4
  obtain ⟨r, hr⟩ : ∃ r, r = w1.heap.size := ⟨_, rfl⟩
  have HRE := Lib.hid hr
  rw [← hr] at HRG ⊢
  clear hr
  go_loopw [3] (fun v3 wr => ∃ (left : Lit → Bool) (cnt : Nat) (L : List Int), wr.ranges Try.prog 3 (plainElem Try.prog 3) gm r T.used D left cnt ∧ L.length + cnt ≤ T.used ∧ Coll T left L ∧ wr.ownsRow w.heap.size 3 1 v3 (T.prim.length + L.length) (is (T.prim ++ L)) ∧ Below w.heap.size w wr)
    (fun _ wr => wr.rangeLeft gm r)
  case atStart => exact ⟨_, _, [], HRG.out, by have := HSZ.out; simpa using this, HS0.out, by rw [List.append_nil]; exact HO0.out, HB0.out⟩
  case round =>
    obtain ⟨left, cnt, L, hrg, hLn, hco, ho, hb⟩ := hrel
    have HCO := Lib.hid hco
    have HO := Lib.hid ho
    have HB := Lib.hid hb
    clear hco ho hb HRG HS0 HO0 HB0
    go_wp2_with (first
      | (at_next; refine wpList_next_ranges_ii _ rfl _ rfl 3 3 .i64 .i64 lawI Try.underlying3 Try.underlying3 gm r T.used _ _ _ rfl hrg ?_ ?_)
      | fail)
    · intro _ hl0
      obtain ⟨e0, e1, e2, e3, e4⟩ := (HT.out.below HB.out).cells
      have HSO := Lib.hid (HCO.out.sorted HT.out.ok hl0)
      have hLL : L.length ≤ 64 := by omega
      have HLN := Lib.hid hLL
      clear hl0 hrg
      go_wp2_with fail
      go_loopw [29, 3] (fun vi v3 wq => ∃ i : Nat, i ≤ T.used ∧ vi = .int .i64 i ∧ wq.ownsRow w.heap.size 3 1 v3 (T.prim.length + L.length + (spK T i).length) (is (T.prim ++ L ++ spK T i)) ∧ Below w.heap.size w wq) (fun vi _ _ => T.used - (intOf vi).toNat)
      case atStart => exact ⟨0, by omega, rfl, by rw [spK_zero, List.append_nil]; exact HO.out, HB.out⟩
      case round =>
        obtain ⟨i, hi, rfl, ho, hb⟩ := hrel
        have hbs := hb.size
        by_cases hlt : i < T.used
        · have HF := Lib.hid (HFW.out wr hb)
          have HBK := Lib.hid (fun W hW => HBW.out W hW ((T.first : Int) + i) (by omega) (by omega))
          have HO2 := Lib.hid ho
          have HB2 := Lib.hid hb
          have HSK := Lib.hid (spK_succ T i)
          have hsl := spK_length T i
          obtain ⟨wo, rfl⟩ : ∃ wo : World, wo = wr := ⟨_, rfl⟩
          clear ho hb e0 e1 e2 e3 e4
          cases hbl : T.blk ((T.first : Int) + i) with
          | some b =>
            have hbr : blkR T ((T.first : Int) + i) = ((b : Int), true) := by unfold blkR; rw [hbl]
            simp only [hbr] at HBK
            rw [hbl, if_neg (by simp)] at HSK
            clear hbl hbr
            go_wp2_with fail
            refine HF.out.mono ?_
            rintro e w4 ⟨rfl, q4, rfl⟩
            have HB4 := Lib.hid (Below.drewN HB2.out q4)
            have HO4 := Lib.hid (ownD_keep HO2.out (Below.drewN (Below.refl _ _) q4))
            generalize wo.drewN q4 = w4 at *
            go_wp2_with fail
            refine (HBK.out _ HB4.out).mono ?_
            rintro e w5 ⟨rfl, hb5⟩
            have HB5 := Lib.hid (HB4.out.trans (hb5.mono HB4.out.size))
            have HO5 := Lib.hid (ownD_keep HO4.out hb5)
            clear hb5
            go_wp2_with fail
            go_roundw
            case rel => exact ⟨i + 1, by omega, by go_num, by rw [HSK.out]; exact HO5.out, HB5.out⟩
            case measure => simp [intOf]; omega
          | none =>
            have hbr : blkR T ((T.first : Int) + i) = (0, false) := by unfold blkR; rw [hbl]
            simp only [hbr] at HBK
            rw [hbl, if_pos (show (none : Option Nat).isNone = true from rfl)] at HSK
            clear hbl hbr
            go_wp2_with fail
            refine HF.out.mono ?_
            rintro e w4 ⟨rfl, q4, rfl⟩
            have HB4 := Lib.hid (Below.drewN HB2.out q4)
            have HO4 := Lib.hid (ownD_keep HO2.out (Below.drewN (Below.refl _ _) q4))
            generalize wo.drewN q4 = w4 at *
            go_wp2_with fail
            refine (HBK.out _ HB4.out).mono ?_
            rintro e w5 ⟨rfl, hb5⟩
            have HB5 := Lib.hid (HB4.out.trans (hb5.mono HB4.out.size))
            have HO5 := Lib.hid (ownD_keep HO4.out hb5)
            have HF5 := Lib.hid (HFW.out w5 HB5.out)
            clear hb5
            go_wp2_with fail
            refine HF5.out.mono ?_
            rintro e w6 ⟨rfl, q6, rfl⟩
            have HB6 := Lib.hid (Below.drewN HB5.out q6)
            have HO6 := Lib.hid (ownD_keep HO5.out (Below.drewN (Below.refl _ _) q6))
            generalize w5.drewN q6 = w6 at *
            have hoA := ownD_keep HO6.out ((Below.refl w6.heap.size w6).alloc (Nat.le_refl _) (.cells #[.int .i64 ((T.first : Int) + i)] 3))
            have hbA := HB6.out.alloc HB6.out.size (.cells #[.int .i64 ((T.first : Int) + i)] 3)
            have HBA := Lib.hid hbA
            have hbas := hbA.size
            have hrd := reads_lit w6 [(T.first : Int) + i] 3 (by simp)
            clear hbA
            go_wp2_with (at_builtin; refine wpList_appI rfl _ _ rfl Try.underlying22 Try.infoInt13 hoA rfl hrd rfl (by simp only [List.length_singleton]; omega) hbas ?_; intro v8 w8 hown8 hgr8)
            have hb8 := HBA.out.grown hgr8 HBA.out.size (fun j hj => ownD_block hoA j hj)
            go_roundw
            case rel => exact ⟨i + 1, by omega, by go_num, by rw [HSK.out, List.length_append, ← List.append_assoc, ← Nat.add_assoc]; exact hown8, hb8⟩
            case measure => simp [intOf]; omega
        · obtain rfl : i = T.used := by omega
          obtain ⟨n, hn⟩ : ∃ n, n = T.prim.length + L.length + (spK T T.used).length := ⟨_, rfl⟩
          have hml : (T.prim ++ L ++ spK T T.used).length = n := by rw [List.length_append, List.length_append, hn]
          rw [← hn] at ho
          have hlen : T.bad.length = n := by rw [← HSO.out, List.length_mergeSort, hml]
          have hnb : n ≤ 1000 := by have := spK_length T T.used; omega
          have HST := Lib.hid (sort13 u3 _ wr w.heap.size n ho hml (by omega))
          rw [HSO.out] at HST
          have HO2 := Lib.hid ho
          have HB2 := Lib.hid hb
          have HLE := Lib.hid hlen
          clear ho hb hn hml hlen e0 e1 e2 e3 e4
          go_wp2_with fail
          refine HST.out.mono ?_
          rintro e w4 ⟨rfl, ho4, hg4⟩
          have hb4 := HB2.out.grown hg4 HB2.out.size (fun j hj => ownD_block HO2.out j hj)
          go_wp2_with fail
          go_ret
          exact ⟨_, rfl, by rw [HLE.out]; exact ho4, hb4⟩
    · intro k c w3 cnt1 hwk hwc hlk hat hrg1 hlt hg1 hs1 hen
      have hB1s := HB1.out.size
      have hb3 : Below w.heap.size w w3 := HB.out.grown hg1 HB.out.size (fun j hj => by cases hj; have := HRE.out; omega)
      have hkk : ∃ s, T.mv k = some s := by
        have h1 := (HD.out k (in64_of hwk)).1
        rw [has_true_of_atKey hat] at h1
        cases e : T.mv k with
        | none => simp [e] at h1
        | some s => exact ⟨s, rfl⟩
      obtain ⟨s, hs⟩ := hkk
      have hkr := HT.out.ok.mr k s hs
      have HCO2 := Lib.hid (HCO.out.step HT.out.ok hs hlk)
      have ho3 : w3.ownsRow w.heap.size 3 1 u3 (T.prim.length + L.length) (is (T.prim ++ L)) := HO.out.kept hg1 (by
        cases e : u3.ownBlock with
        | none => exact .inl rfl
        | some q => exact .inr fun h2 => iter13 HO.out hrg (by rw [e]; exact h2))
      have hhm := HT.out.ok.home hkr.1 hkr.2.1
      have hHM := HHW.out w3 hb3 k (by omega) (by have := HT.out.ok.b2; omega)
      obtain ⟨hm, hhe⟩ : ∃ hm, hm = hmK T.prim k := ⟨_, rfl⟩
      rw [← hhe] at hHM HCO2 hhm
      have hoA := ownD_keep ho3 ((Below.refl w3.heap.size w3).alloc (Nat.le_refl _) (.cells #[.int .i64 hm] 3))
      have HRA := Lib.hid (hrg1.alloc (.cells #[.int .i64 hm] 3))
      have HMA := Lib.hid ((HT.out.below (hb3.alloc hb3.size (.cells #[.int .i64 hm] 3))).map)
      have hbA := hb3.alloc hb3.size (.cells #[.int .i64 hm] 3)
      have HBA := Lib.hid hbA
      have hbas := hbA.size
      have hrd := reads_lit w3 [hm] 3 (by simp)
      have HHM := Lib.hid hHM
      have HLT := Lib.hid hlt
      have HRG0 := Lib.hid hrg
      clear hat hrg1 hlt hg1 hs1 hs ho3 hb3 hhe hHM hlk hkr hhm hbA hrg hwk hwc
      go_wp2_with fail
      refine HHM.out.mono ?_
      rintro e w4 ⟨rfl, rfl⟩
      go_wp2_with (at_builtin; refine wpList_appI rfl _ _ rfl Try.underlying22 Try.infoInt13 hoA rfl hrd rfl (by simp only [List.length_singleton]; omega) hbas ?_; intro v6 w6 hown6 hgr6)
      have hR6 := HRA.out.kept hgr6 (Ne.symm (map13 hoA HMA.out)) (Ne.symm (iter13 hoA HRA.out))
      have hb6 := HBA.out.grown hgr6 HBA.out.size (fun j hj => ownD_block hoA j hj)
      refine ⟨⟨_, cnt1, L ++ [hm], hR6, by have := HLT.out; rw [List.length_append, List.length_singleton]; omega, HCO2.out, by rw [← List.append_assoc, List.length_append, ← Nat.add_assoc]; exact hown6, hb6⟩, ?_⟩
      rw [hR6.left_eq, HRG0.out.left_eq]
      exact HLT.out
end Go.Proofs.Ytjnedcncfdpjoaa.D13
