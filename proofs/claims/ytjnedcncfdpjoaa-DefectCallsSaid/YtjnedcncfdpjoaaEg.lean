/- Chapter 13: the sorted keys of a map, Replaced walked. -/
import Derived.Test.YtjnedcncfdpjoaaEf
import Derived.Test.YtjnedcncfdpjoaaShelf2
namespace Go.Proofs.Ytjnedcncfdpjoaa.D13
open Go.RowKit Go.Maps Go.Sort Go.Shelf
set_option linter.unusedVariables false

theorem MapO.run0 {w : World} {b n : Nat} {f : Int → Option Int} (h : MapO w b n f) (x : Int) (hx : In64 x) :
    (Instr.lookup 36 (.map (some b)) (.int .i64 x) false).run Try.prog w = .ok (.int .i64 ((f x).getD 0)) w := by
  obtain ⟨D, hown, hf⟩ := h
  obtain ⟨v, ps, hrun, hv⟩ := hown.lookup lawI Try.underlying36 (zeroI w) (plainElem_int Try.underlying3 (a := 0) (by decide)) (keyOf_int_mk Try.underlying3 (wfI hx))
  obtain ⟨c, rfl, hc, _⟩ := plainElem_int_inv Try.underlying3 hv
  simp only [Prod.mk.injEq] at hc
  rw [(hf x hx).2] at hc
  have : c = (f x).getD 0 := by simpa using hc.1.symm
  rw [hrun, this]
theorem has_wf13 {w : World} {b n : Nat} {D : DataW Unit} (hown : w.ownsMap Try.prog 3 (plainElem Try.prog 3) b n D) {x : Int} (h : Maps.has D (.int .i64 x) = true) : In64 x := by
  obtain ⟨es, rfl, hko⟩ := hown.keysOf
  rw [has_eq, List.any_eq_true] at h
  obtain ⟨p, hp, hs⟩ := h
  obtain ⟨v, hv⟩ := hko p hp
  obtain ⟨y, _, hy, hl⟩ := Maps.keyOf_i64 Try.underlying3 hv
  rw [hy] at hs
  have e : y = x := by simpa [Lit.sameKey] using hs
  subst e
  exact in64_of hl
theorem perm_keys13 {w : World} {b n : Nat} {D : DataW Unit} (hown : w.ownsMap Try.prog 3 (plainElem Try.prog 3) b n D) {K : List Int} (hK : K.Nodup) (hm : ∀ x, x ∈ K ↔ Maps.has D (.int .i64 x) = true) : K.Perm (intKeys D) := by
  obtain ⟨es, hD, hpw, _⟩ := hown.entries lawI
  obtain ⟨es', hD', hko⟩ := hown.keysOf
  obtain rfl : es = es' := by rw [hD] at hD'; simpa using hD'
  subst hD
  exact perm_intKeys hpw (fun p hp => by obtain ⟨v, hv⟩ := hko p hp; obtain ⟨x, _, hx, _⟩ := Maps.keyOf_i64 Try.underlying3 hv; exact ⟨x, hx⟩) hK hm
theorem Try.keys13 (mb : Option Nat) (W : World) : Calls Try.prog 36 #[.map mb] W fun e w' => e = .returned (.func (.func 53) #[] #[.pointer (some ⟨W.heap.size, 0, none⟩)]) ∧ w' = W.alloc (.cells #[.map mb] 36) :=
  (callsIn_wide (n := 5)).1 (AnyZI.keys_in Try.keysA Fence.wide 5 trivial rfl mb W)
theorem Try.sorts13 (m : Nat) : AnyZI.SortsIn Try.prog Try.sortedA_ren Fence.wide m :=
  ⟨fun blk off cap ss W hH hblk hsz => callsIn_wide.2 (Try.slices_Sort_int blk off cap ss W hH hblk hsz),
   fun p cap W => callsIn_wide.2 (Try.slices_Sort_int_none p cap W)⟩
/-- 'slices.Sorted' of the keys of a map of ints -/
theorem sorted13 {w : World} {gm n : Nat} {f : Int → Option Int} (h : MapO w gm n f) (hn : n ≤ 100000) (K : List Int) (hK : K.Pairwise (· < ·)) (hk : ∀ x, x ∈ K ↔ In64 x ∧ (f x).isSome = true) :
    K.length ≤ n ∧ Calls Try.prog 35 #[.func (.func 53) #[] #[.pointer (some ⟨w.heap.size, 0, none⟩)]] (w.alloc (.cells #[.map (some gm)] 36)) fun e w' => ∃ v, e = .returned v ∧
      w'.ownsRow (w.heap.size + 1) 3 1 v K.length (is K) ∧ Below (w.heap.size + 1) (w.alloc (.cells #[.map (some gm)] 36)) w' := by
  obtain ⟨D, hown, hf⟩ := h
  have hnd : K.Nodup := hK.imp fun h e => by omega
  have hp := perm_keys13 hown hnd (fun x => (hk x).trans ⟨fun h => by rw [(hf x h.1).1]; exact h.2, fun h => ⟨has_wf13 hown h, by rw [← (hf x (has_wf13 hown h)).1]; exact h⟩⟩)
  have hsz := hown.size_le
  have hlen : K.length ≤ n := by
    rw [hp.length_eq]
    obtain ⟨es, hD, _, _⟩ := hown.entries lawI
    subst hD
    have e : (intKeys (DataW.map es)).length = Maps.size (DataW.map es) := by simp [intKeys, Maps.size]
    omega
  refine ⟨hlen, ?_⟩
  have hbl := hown.lt
  have hmax : Maps.size D ≤ maxLen := by unfold maxLen; omega
  have hbytes : Maps.size D * 8 ≤ 140737488355328 := by omega
  have hseq : SeqGives Fence.wide 2 Try.prog 53 #[.pointer (some ⟨w.heap.size, 0, none⟩)] encZ (fun ss => ss.Perm (intKeys D)) (Maps.size D) (w.alloc (.cells #[.map (some gm)] 36)) :=
    AnyZI.keys_gives (ρ := Try.keysA_ren) { Try.keysA with } Fence.wide _ trivial rfl (by omega) w.heap.size gm n D _ (by simp) (by simp) (by
      obtain ⟨es, clock, hb, Ft, hs, hD⟩ := hown
      exact ⟨es, clock, (Below.heap_alloc _ _ gm hbl).trans hb, Ft, hs, hD⟩)
  have cS := AnyZI.sorted_in Try.sortedA Fence.wide 5 trivial trivial trivial trivial rfl (by omega) (Try.sorts13 _) (enters_of Try.func33 (by kernel_rfl) rfl) 53 #[.pointer (some ⟨w.heap.size, 0, none⟩)] trivial (enters_of Try.func53 (by kernel_rfl) rfl) _ _ hmax hbytes _ hseq
  change CallsIn _ _ Try.prog 35 _ _ _ at cS
  refine ((callsIn_wide (n := 5)).1 cS).mono ?_
  rintro e w' ⟨v, ss, rfl, hS, hrow, hnil, hb⟩
  have e1 : (w.alloc (.cells #[.map (some gm)] 36)).heap.size = w.heap.size + 1 := by simp
  have e2 : ss.mergeSort (fun x y => decide (x ≤ y)) = K := by
    rw [mergeSort_of_perm_i (hS.trans hp.symm)]
    exact sort_same hnd hK fun z => Iff.rfl
  rw [e1] at hrow hb
  rw [e2] at hrow
  rw [show ss.length = K.length from by rw [hS.length_eq, hp.length_eq]] at hrow
  exact ⟨v, rfl, hrow, hb⟩
/-- the blocks that are replaced, in order -/
def Tab.keys (T : Tab) : List Int := ((List.range T.blocks).filter fun b : Nat => (T.mv b).isSome).map Int.ofNat
theorem Tab.keys_sorted (T : Tab) : T.keys.Pairwise (· < ·) := by
  unfold Tab.keys
  rw [List.pairwise_map]
  refine (List.Pairwise.filter _ List.pairwise_lt_range).imp ?_
  intro a b h
  show (a : Int) < b
  omega
theorem Tab.Ok.mem_keys {T : Tab} (h : T.Ok) (x : Int) : x ∈ T.keys ↔ In64 x ∧ ((T.mv x).map Int.ofNat).isSome = true := by
  unfold Tab.keys
  simp only [List.mem_map, List.mem_filter, List.mem_range, Option.isSome_map]
  constructor
  · rintro ⟨b, ⟨h1, h2⟩, rfl⟩
    have := h.b2
    exact ⟨by show In64 (b : Int); unfold In64; omega, h2⟩
  · rintro ⟨_, h2⟩
    cases e : T.mv x with
    | none => rw [e] at h2; cases h2
    | some s =>
      have := h.mr x s e
      refine ⟨x.toNat, ⟨by omega, ?_⟩, by show ((x.toNat : Nat) : Int) = x; omega⟩
      rw [show ((x.toNat : Nat) : Int) = x by omega, e]; rfl
/-- a replacement's cells -/
def dRep (p : Int × Int) : List Value := [.int .i64 p.1, .int .i64 p.2]
theorem dRep_len : ∀ x, (dRep x).length = 2 := fun _ => rfl
theorem dRep_one : ∀ x, ∀ u ∈ dRep x, u.oneCell' = true := by
  intro x u hu
  simp only [dRep, List.mem_cons, List.not_mem_nil, or_false] at hu
  rcases hu with rfl | rfl <;> rfl
def Tab.pair (T : Tab) (x : Int) : Int × Int := (x, ((T.mv x).map Int.ofNat).getD 0)
def Tab.reps (T : Tab) : List (Int × Int) := T.keys.map T.pair
theorem Tab.reps_length (T : Tab) : T.reps.length = T.keys.length := by simp [Tab.reps]
theorem Try.infoRep13 : (Try.prog.info? 53).map (fun i => (i.zero, i.size, i.bytes)) = some (some (.agg #[.int .i64 0, .int .i64 0]), 2, 16) := by kernel_rfl
theorem ixI_append_take (l : List Int) (k : Nat) (h : k < l.length) : l.take (k + 1) = l.take k ++ [ixI l k] := by rw [List.take_succ_eq_append_getElem h, ixI_get h]
set_option maxRecDepth 100000 in
set_option maxHeartbeats 4000000 in
theorem replaced_any {w : World} {g gm : Nat} {vp : Value} {T : Tab} (h : TabW w g gm vp T) :
    T.keys.length ≤ T.used ∧ Calls Try.prog 18 #[.pointer (some ⟨g, 0, none⟩)] w fun e w' => ∃ v', e = .returned v' ∧ w'.ownsRow w.heap.size 53 2 v' T.keys.length (flD dRep T.reps) ∧ Below w.heap.size w w' := by
  have hsr := sorted13 h.map (by have := h.ok.us; have := h.ok.sp; omega) T.keys T.keys_sorted h.ok.mem_keys
  refine ⟨hsr.1, ?_⟩
  obtain ⟨c0, c1, c2, c3, c4⟩ := h.cells
  have HSO := Lib.hid hsr.2
  have HT := Lib.hid h
  have hkn : T.keys.length ≤ 64 := by have := hsr.1; have := h.ok.us; have := h.ok.sp; omega
  have HKE := Lib.hid (Try.keys13 (some gm) w)
  have HKR : Hid (∀ x ∈ T.keys, In64 x) := Lib.hid (fun x hx => ((h.ok.mem_keys x).1 hx).1)
  clear h hsr
  go_enter Try.func18, Try.ntmps18
  go_wp2_with fail
  refine HKE.out.mono ?_
  rintro e w1 ⟨rfl, rfl⟩
  go_wp2_with fail
  refine HSO.out.mono ?_
  rintro e w2 ⟨v2, rfl, ho2, hb2⟩
  have hA := (Below.refl w.heap.size w).alloc (Nat.le_refl _) (.cells #[.map (some gm)] 36)
  have HB2 := Lib.hid (hA.trans (hb2.mono (Nat.le_succ _)))
  obtain ⟨a2, c2', rfl⟩ := ownD_form ho2
  have HO2 := Lib.hid ho2
  obtain ⟨B2, hB2⟩ : ∃ B2, B2 = w2.heap.size := ⟨_, rfl⟩
  have HBB := Lib.hid hB2
  clear ho2 hb2 hA c0 c1 c2 c3 c4 hB2
  go_wp2_with fail
  go_loopw [13, 3] (fun vk vr wq => ∃ k : Nat, k ≤ T.keys.length ∧ vk = .int .i64 k ∧ wq.ownsRow w2.heap.size 53 2 vr k (flD dRep (T.reps.take k)) ∧ Below w2.heap.size w2 wq) (fun vk _ _ => T.keys.length - (RowKit.intOf vk).toNat)
  case atStart => exact ⟨0, by omega, rfl, ⟨rfl, .inl ⟨rfl, rfl⟩⟩, Below.refl _ _⟩
  case round =>
    obtain ⟨k, hk, rfl, hO, hB⟩ := hrel
    have HO := Lib.hid hO
    have HB := Lib.hid hB
    by_cases hlt : k < T.keys.length
    · obtain ⟨bl, off, hcell⟩ := RdI.at (rdI_own (ownD_keep HO2.out hB) rfl (by omega) (fun x hx => HKR.out x hx))
      obtain ⟨ha, hcl⟩ := hcell k hlt
      have hix := fun w' => run_idxS Try.underlying22 Try.sizeInt13 (cap := c2') ha hlt (k : Int) rfl w'
      simp only [Nat.mul_one] at hix
      have hBw := HB2.out.trans (hB.mono HB2.out.size)
      have hTw := HT.out.below hBw
      obtain ⟨d0, d1, d2, d3, d4⟩ := hTw.cells
      have hm := hTw.map.run0 (ixI T.keys k) (HKR.out _ (ixI_mem hlt))
      have HAP : Hid (T.reps.take (k + 1) = T.reps.take k ++ [T.pair (ixI T.keys k)]) := Lib.hid (by
        have e : k < T.reps.length := by rw [Tab.reps_length]; exact hlt
        rw [List.take_succ_eq_append_getElem e]
        congr 2
        simp [Tab.reps, ixI, hlt])
      have hxr := HKR.out _ (ixI_mem hlt)
      have hvr : In64 (((T.mv (ixI T.keys k)).map Int.ofNat).getD 0) := by
        cases e : T.mv (ixI T.keys k) with
        | none => simp [In64]
        | some s => have := HT.out.ok.mr _ s e; have := HT.out.ok.us; have := HT.out.ok.sp; show In64 (s : Int); unfold In64; omega
      have HPR : Hid (T.pair (ixI T.keys k) = (ixI T.keys k, ((T.mv (ixI T.keys k)).map Int.ofNat).getD 0)) := Lib.hid rfl
      generalize T.pair (ixI T.keys k) = pr at *
      generalize ((T.mv (ixI T.keys k)).map Int.ofNat).getD 0 = y at *
      generalize ixI T.keys k = x at *
      obtain rfl := HPR.out
      have HA := Lib.hid ha
      have hoA := ownD_keep HO.out ((Below.refl wr.heap.size wr).alloc (Nat.le_refl _) (.cells #[.int .i64 x, .int .i64 y] 53))
      have hbA := HB.out.alloc HB.out.size (.cells #[.int .i64 x, .int .i64 y] 53)
      have HBA := Lib.hid hbA
      have hbas := hbA.size
      have hrd := RdD.one (d := (0, 0)) (by decide) dRep_len wr 53 (x, y)
      obtain ⟨ar, cr, rfl⟩ := ownD_form hO
      clear ha hO hB hcell hTw hBw hxr hvr hbA
      go_wp2_with (at_builtin; refine wpList_appD rfl _ _ rfl Try.underlying39 Try.infoRep13 rfl (by decide) dRep_len dRep_one hoA rfl hrd rfl (by unfold maxLen; simp only [List.length_singleton]; omega) (by simp only [List.length_singleton]; omega) hbas ?_; intro v8 w8 hown8 hgr8)
      have hb8 := HBA.out.grown hgr8 HBA.out.size (fun j hj => ownD_block hoA j hj)
      go_roundw
      case rel => exact ⟨k + 1, by omega, by go_num, by rw [HAP.out]; exact hown8, hb8⟩
      case measure => simp [RowKit.intOf]; omega
    · obtain rfl : k = T.keys.length := by omega
      go_wp2_with fail
      go_ret
      refine ⟨_, rfl, ?_, HB2.out.trans (HB.out.mono HB2.out.size)⟩
      have e : T.reps.take T.keys.length = T.reps := by rw [← Tab.reps_length, List.take_length]
      rw [e] at hO
      exact own_mono hO HB2.out.size
end Go.Proofs.Ytjnedcncfdpjoaa.D13
