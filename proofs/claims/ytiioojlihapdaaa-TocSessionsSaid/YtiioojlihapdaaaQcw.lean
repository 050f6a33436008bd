/- Chapter 10: Collect of the package walked. -/
import Derived.Test.YtiioojlihapdaaaQco
import Derived.Test.YtiioojlihapdaaaQen
import Derived.Test.YtiioojlihapdaaaInr
namespace Go.Proofs.Ytiioojlihapdaaa.W10
open Go.RowKit
set_option linter.unusedVariables false

/-- the cells of a list of ints -/
def ic (n : Int) : List Value := [.int .i64 n]
theorem ic_length (n : Int) : (ic n).length = 1 := rfl
theorem ic_one (n : Int) : ∀ u ∈ ic n, u.oneCell' = true := by
  intro u hu
  simp only [ic, List.mem_cons, List.not_mem_nil, or_false] at hu
  subst hu; rfl
/-- a slice of ints that is only read -/
def RdN (w : World) (v : Value) (l : List Int) : Prop := RdD 0 ic 1 w v l
theorem Try.infoInt : (Try.prog.info? 3).map (fun i => (i.zero, i.size, i.bytes)) = some (some (.int .i64 0), 1, 8) := by kernel_rfl
theorem Try.infoTrk : (Try.prog.info? 40).map (fun i => (i.zero, i.size, i.bytes)) = some (some (.agg #[.int .i64 0, .int .i64 0, .int .i64 0, .int .i64 0, .int .i64 0, .int .i64 0, .int .i64 0]), 7, 56) := by kernel_rfl
theorem Try.sizeInt : (Try.prog.info? 3).map (·.size) = some 1 := by kernel_rfl
/-- rows of different types lie in different blocks -/
theorem own_apart {w : World} {b b' e e' sz sz' n n' : Nat} {v v' : Value} {xs xs' : List Value} (h : w.ownsRow b e sz v n xs) (h' : w.ownsRow b' e' sz' v' n' xs') (hne : e ≠ e') : ∀ k, v.ownBlock = some k → some k ≠ v'.ownBlock := by
  intro k hk hk'
  rcases h.2 with ⟨rfl, _⟩ | ⟨g, cap, cur, rfl, _, hg, _⟩
  · simp [Value.ownBlock] at hk
  rcases h'.2 with ⟨rfl, _⟩ | ⟨g', cap', cur', rfl, _, hg', _⟩
  · simp [Value.ownBlock] at hk'
  have e1 : g = k := by simpa [Value.ownBlock] using hk
  have e2 : k = g' := by simpa [Value.ownBlock] using hk'
  subst e1 e2
  rw [hg] at hg'
  simp only [Option.some.injEq, Obj.cells.injEq] at hg'
  exact hne hg'.2.1
theorem ownD_other {w w' : World} {b e sz n : Nat} {v : Value} {xs : List Value} {r : Option Nat} (h : w.ownsRow b e sz v n xs) (hg : w.grownBy w' r) (hr : ∀ k, v.ownBlock = some k → some k ≠ r) : w'.ownsRow b e sz v n xs := by
  refine ⟨h.1, ?_⟩
  rcases h.2 with h | ⟨g, cap, cur, rfl, hb, hh, rest⟩
  · exact .inl h
  · exact .inr ⟨g, cap, cur, rfl, hb, (hg.block g (Array.getElem?_eq_some_iff.1 hh).1 (hr g rfl)).trans hh, rest⟩
theorem own_free {w : World} {b e sz n g c : Nat} {xs : List Value} (h : w.ownsRow b e sz (.slice (some ⟨g, 0, none⟩) n c) n xs) (i : Nat) : w.frozen? ⟨g, i, none⟩ = false := by
  rcases h.2 with ⟨h', _⟩ | ⟨g', cap, cur, hv, _, hh, _⟩
  · simp at h'
  · simp only [Value.slice.injEq, Option.some.injEq, Addr.mk.injEq] at hv
    obtain ⟨⟨rfl, _⟩, _⟩ := hv
    exact frozen_of_row w g i _ _ hh
theorem ownD_setO {w : World} {b e sz n : Nat} {v : Value} {xs : List Value} (h : w.ownsRow b e sz v n xs) {p : Addr} (hp : ∀ k, v.ownBlock = some k → k ≠ p.block) (u : Value) : (w.setCell p u).ownsRow b e sz v n xs := by
  refine ⟨h.1, ?_⟩
  rcases h.2 with h | ⟨g, cap, cur, rfl, hb, hh, rest⟩
  · exact .inl h
  · exact .inr ⟨g, cap, cur, rfl, hb, (Below.heap_setCell w p u g (hp g rfl)).trans hh, rest⟩
theorem Bx.grownO {w w' : World} {g t b e sz n : Nat} {cs : List Value} {v : Value} {xs : List Value} (h : Bx w g t cs) (ho : w.ownsRow b e sz v n xs) (hne : t ≠ e) (hg : w.grownBy w' v.ownBlock) : Bx w' g t cs := by
  refine (hg.block g h.lt fun hk => ?_).trans h
  rcases ho.2 with ⟨rfl, _⟩ | ⟨g', cap', cur', rfl, _, hg', _⟩
  · simp [Value.ownBlock] at hk
  · have e2 : g = g' := by simpa [Value.ownBlock] using hk
    subst e2
    have h2 : w.heap[g]? = some (.cells cs.toArray t (0, 0)) := h
    rw [h2] at hg'
    simp only [Option.some.injEq, Obj.cells.injEq] at hg'
    exact hne hg'.2.1
/-- '(v[3:])[i]' -/
theorem run_cutL {P : Program} {t e : TypeId} (ht : P.underlying t = some (.slice e)) {sz : Nat} (hs : (P.info? e).map (·.size) = some sz) {α : Type} {d : α} {D : α → List Value} {v : Value} {w : World} {l : List α} (h : RdD d D sz w v l) (lo : Nat) (h2 : lo ≤ l.length) :
    ∃ v', RdD d D sz w v' (l.drop lo) ∧ ∀ (x : Int) (w' : World), x = lo → (Instr.slice t v (some (.int .i64 x)) none none).run P w' = .ok v' w' := by
  obtain ⟨a, c, b, off, rfl, hc, hcell⟩ := h
  cases hq : P.info? e with
  | none => simp [hq] at hs
  | some i =>
    have hs1 : i.size = sz := by simpa [hq] using hs
    refine ⟨.slice (if c = lo then a else a.map (·.add (lo * sz))) (l.length - lo) (c - lo), ⟨_, _, b, off + lo * sz, by rw [List.length_drop], by rw [List.length_drop]; omega, fun j hj => ?_⟩, ?_⟩
    · rw [List.length_drop] at hj
      obtain ⟨e1, e2⟩ := hcell (lo + j) (by omega)
      refine ⟨by rw [if_neg (by omega), e1]; simp [Addr.add], ?_⟩
      have e3 : atD d (l.drop lo) j = atD d l (lo + j) := by simp [atD, List.getElem?_drop]
      show w.rangeAt b (off + lo * sz + j * sz) (D (atD d (l.drop lo) j))
      rw [e3]
      rw [Nat.add_mul, ← Nat.add_assoc] at e2
      exact e2
    · rintro x w' rfl
      simp [Instr.slice, run_underlying ht, Instr.sliceBounds, run_sliceBound, sizeOf, typeInfo, hq, hs1, h2]
/-- the result of Collect -/
def ColP (r : List Int × Int × Int) (w : World) (e : Ending) (w' : World) : Prop := ∃ v, e = .returned (.tuple #[v, .int .i64 r.2.1, .int .i64 r.2.2]) ∧ RdN w' v r.1 ∧ Below w.heap.size w w'
theorem ColP.none (w w' : World) (hb : Below w.heap.size w w') {l : List Q.Fr} (h : ¬ colB l) : ColP (colR l) w (.returned (.tuple #[.slice none 0 0, .int .i64 0, .int .i64 10])) w' := by
  rw [colR_no h]; exact ⟨_, rfl, RdD.nil _, hb⟩
set_option maxRecDepth 100000 in
set_option maxHeartbeats 2000000 in
theorem col_short (v : Value) (l : List Q.Fr) (w : World) (hr : RdF w v l) (hn : l.length < 4) : Calls Try.prog 20 #[v] w (ColP (colR l) w) := by
  have hno := ColP.none w w (Below.refl _ _) (l := l) (fun h => by have := h.1; omega)
  have HNO := Lib.hid hno
  clear hno
  obtain ⟨a, c, rfl, hac⟩ := RdD.form hr
  have hd : decide ((l.length : Int) < 4) = true := decide_eq_true (by omega)
  clear hr
  go_enter Try.func20, Try.ntmps20
  go_wp2_with fail
  go_ret3
  exact HNO.out
abbrev FBq (W : World) (g : Nat) (q : Q.Fr) : Prop := Bx W g 80 (fcs q)
theorem lb_any (q : Q.Fr) (w : World) : Calls Try.prog 41 #[msfv q.am q.as q.af] w (R2B (.int .i64 (lbV q)) (.int .i64 (lbE q)) w) := by
  unfold lbV lbE
  cases h : lbB q with
  | true => exact lba_any _ _ _ w h
  | false => exact lba_no _ _ _ w h
theorem lnL_bd (l : List Q.Fr) (k i : Nat) : -1000000 ≤ lnL l k i ∧ lnL l k i ≤ 1000000 := by
  have h1 : -150 ≤ stL l i ∧ stL l i ≤ 449849 := lbV_bd _
  have h2 : -150 ≤ stL l (i + 1) ∧ stL l (i + 1) ≤ 449849 := lbV_bd _
  have h3 : -150 ≤ outL l ∧ outL l ≤ 449849 := lbV_bd _
  unfold lnL
  split <;> omega
theorem tk_wf {l : List Q.Fr} {m : Nat} (h : ∀ i, i < l.length → WfF (fr l i)) (hm : m + 3 ≤ l.length) : WfL (tkL l m) := by
  intro i hi
  rw [tkL_length] at hi
  rw [tr_tk l m i hi]
  have h1 := (h (i + 3) (by omega)).2.2.1
  have h2 : -150 ≤ stL l i ∧ stL l i ≤ 449849 := lbV_bd _
  have h3 := lnL_bd l m i
  unfold WfT tkE In64 at *
  simp only
  omega
theorem fr_drop (l : List Q.Fr) (k i : Nat) : fr (l.drop k) i = fr l (i + k) := by simp [fr, atD, List.getElem?_drop, Nat.add_comm]
set_option maxRecDepth 100000 in
set_option maxHeartbeats 4000000 in
theorem col_main (v : Value) (l : List Q.Fr) (w : World) (hr : RdF w v l) (h4 : 4 ≤ l.length) (hn : l.length ≤ 120) (hwf : ∀ i, i < l.length → WfF (fr l i)) : Calls Try.prog 20 #[v] w (ColP (colR l) w) := by
  have HR := Lib.hid hr
  have HNO := Lib.hid (fun w' hb h => ColP.none w w' hb (l := l) h)
  have HWF := Lib.hid hwf
  clear hwf
  obtain ⟨a, c, rfl, hac⟩ := RdD.form hr
  obtain ⟨b, off, hcell⟩ := RdF.cells hr
  obtain ⟨ha, hrg2⟩ := hcell 2 (by omega)
  have hrg0 := (hcell 0 (by omega)).2
  have HC : Hid (∀ i, i < l.length → w.rangeAt b (off + i * 9) (fcs (fr l i))) := Lib.hid fun i hi => (hcell i hi).2
  subst ha
  have hd : decide ((l.length : Int) < 4) = false := decide_eq_false (by omega)
  have hix2 := fun w' => run_idxS Try.underlying47 Try.sizeFr (cap := c) (b := b) (off := off) rfl (by omega : 2 < l.length) 2 rfl w'
  have hix0 := fun w' => run_idxS Try.underlying47 Try.sizeFr (cap := c) (b := b) (off := off) rfl (by omega : 0 < l.length) 0 rfl w'
  obtain ⟨_, _, _, _, _, _, x6, x7, x8⟩ := rd9 hrg2
  have hctl := (rd9 hrg0).1
  simp only [Nat.zero_mul, Nat.add_zero] at hix0 hctl
  have hbl : b < w.heap.size := World.block_lt_of_cell? w _ hctl
  have HCTL := Lib.hid hctl
  clear hrg2 hrg0 hcell hr hctl
  obtain ⟨m, hm⟩ : ∃ m, m = l.length - 3 := ⟨_, rfl⟩
  have HM := Lib.hid hm
  have hm1 : 1 ≤ m ∧ m ≤ 117 := by omega
  clear hm
  go_enter Try.func20, Try.ntmps20
  go_wp2_with fail
  refine (lb_any (fr l 2) _).mono ?_
  rintro e w1 ⟨rfl, hb1⟩
  have HO : Hid (outL l = lbV (fr l 2)) := Lib.hid rfl
  rw [← HO.out]
  have hle1 := hb1
  obtain ⟨B, hB⟩ : ∃ B, B = w.heap.size := ⟨_, rfl⟩
  rw [← hB] at hle1
  have HB := Lib.hid hB
  have hBw : w.heap.size ≤ B := by omega
  have hO1 : -150 ≤ outL l ∧ outL l ≤ 449849 := lbV_bd _
  clear hb1 x6 x7 x8 hix2 HO hB
  go_wp2_with fail
  go_loopw [29, 7, 8] (fun vk v7 v8 wr => ∃ (k : Nat), k ≤ m ∧ vk = .int .i64 k ∧ wr.ownsRow B 3 1 v7 k (flD ic (startsL l k)) ∧ wr.ownsRow B 40 7 v8 k (flD tcs (tkL l k)) ∧ Hid (∀ i, i < k → lbB (fr l (i + 3)) = true) ∧ Below B w wr) (fun vk _ _ _ => m - (intOf vk).toNat)
  case atStart =>
    exact ⟨0, by omega, rfl, ⟨rfl, .inl ⟨rfl, rfl⟩⟩, ⟨rfl, .inl ⟨rfl, rfl⟩⟩, Lib.hid fun i hi => by omega, hle1⟩
  case round =>
    clear hle1
    obtain ⟨k, hk, rfl, hown7, hown8, HOK, hle⟩ := hrel
    obtain ⟨a7, c7, rfl⟩ := ownD_form hown7
    obtain ⟨a8, c8, rfl⟩ := ownD_form hown8
    have hwr : w.heap.size ≤ wr.heap.size := hle.size
    by_cases hlt : k < m
    · have hrg27 : wr.rangeAt b (off + 27 + k * 9) (fcs (fr l (k + 3))) := by
        have := range_call (HC.out (k + 3) (by have := HM.out; omega)) (by rw [HB.out] at hle; exact hle)
        rwa [show off + (k + 3) * 9 = off + 27 + k * 9 by omega] at this
      have hltm : k < l.length - 3 := by have := HM.out; omega
      have HSt : Hid (stL l k = lbV (fr l (k + 3))) := Lib.hid rfl
      have hst : -150 ≤ stL l k ∧ stL l k ≤ 449849 := lbV_bd _
      have HOK2 : Hid (lbB (fr l (k + 3)) = true → ∀ i, i < k + 1 → lbB (fr l (i + 3)) = true) := Lib.hid fun h i hi => by
        by_cases e : i < k
        · exact HOK.out i e
        · obtain rfl : i = k := by omega
          exact h
      have HBad : Hid (lbB (fr l (k + 3)) = false → ¬ colB l) := Lib.hid fun h e => by
        have := e.2.1 k (by have := HM.out; omega)
        rw [h] at this; cases this
      have HQ : Hid (fr l (k + 3) = fr l (k + 3)) := Lib.hid rfl
      have Hown7 := Lib.hid hown7; have Hown8 := Lib.hid hown8
      clear hown7 hown8
      have HLB := Lib.hid (fun W => lb_any (fr l (k + 3)) W)
      rw [← HSt.out] at HLB
      have HTk1 : Hid (k = 0 → flD tcs (tkL l k ++ [(⟨(fr l (k + 3)).pt, 0, stL l k, outL l - stL l k, 0, 0, 0⟩ : T.Trk)]) = flD tcs (tkL l (k + 1))) := Lib.hid fun h => by subst h; rfl
      have HTk2 : Hid (∀ j, k = j + 1 → (tkL l k ++ [(⟨(fr l (k + 3)).pt, 0, stL l k, outL l - stL l k, 0, 0, 0⟩ : T.Trk)]).set j (⟨(fr l (j + 3)).pt, 0, stL l j, stL l k - stL l j, 0, 0, 0⟩ : T.Trk) = tkL l (k + 1)) := Lib.hid fun j h => by subst h; exact (tkL_succ l j).symm
      have HLE : Hid (lbE (fr l (k + 3)) = if lbB (fr l (k + 3)) = true then 0 else 1) := Lib.hid rfl
      obtain ⟨y0, y1, y2, y3, y4, y5, y6, y7, y8⟩ := rd9 hrg27
      clear hrg27
      generalize fr l (k + 3) = q at *
      clear HQ
      go_upto_region 9 with (fail)
      change Code.wp _ _ _ _ (wr.alloc (fobj q))
      obtain ⟨gq, hgq⟩ : ∃ g, g = wr.heap.size := ⟨_, rfl⟩
      have hq : FBq (wr.alloc (fobj q)) gq q := by rw [hgq]; exact Bx.new _ _ _
      have hal := (Below.refl wr.heap.size wr).alloc (Nat.le_refl _) (fobj q)
      have hle2 := hle.trans (hal.mono (by have := HB.out; omega))
      have HA7 := Lib.hid (ownD_keep Hown7.out hal)
      have HA8 := Lib.hid (ownD_keep Hown8.out hal)
      simp only [← hgq]
      clear hgq hal hle Hown7 Hown8 y0 y1 y2 y3 y4 y5 y6 y7 y8
      generalize wr.alloc (fobj q) = W at hq hle2 HA7 HA8 ⊢
      obtain ⟨p0, p1, p2, p3, p4, p5, p6, p7, p8⟩ := fcs_cells hq
      have HQ := Lib.hid hq
      clear hq
      go_wp2_with fail
      refine (HLB.out _).mono ?_
      rintro e w2 ⟨rfl, hb2⟩
      have hq2 := HQ.out.call hb2
      have hWB : B ≤ W.heap.size := by have := hle2.size; have := HB.out; omega
      have hle3 := hle2.trans (hb2.mono hWB)
      have HB7 := Lib.hid (ownD_keep HA7.out hb2)
      have HB8 := Lib.hid (ownD_keep HA8.out hb2)
      have hw2B : B ≤ w2.heap.size := Nat.le_trans hWB hb2.size
      clear hb2 hle2 HA7 HA8 HQ HLB p0 p1 p2 p3 p4 p5 p6 p7 p8
      cases hlb : lbB q with
      | false =>
        have hE : lbE q = 1 := by rw [HLE.out, hlb]; rfl
        have HX := Lib.hid (HBad.out hlb)
        rw [hE]
        clear hE hlb
        rw [HB.out] at hle3
        have HL3 := Lib.hid hle3
        go_wp2_with fail
        go_ret3
        exact HNO.out _ HL3.out HX.out
      | true =>
        have hE : lbE q = 0 := by rw [HLE.out, hlb]; rfl
        have HOK3 := Lib.hid (HOK2.out hlb)
        rw [hE]
        clear hE hlb HOK HOK2 HBad HLE
        have hsub : IntKind.i64.wrap (outL l - stL l k) = outL l - stL l k := IntWalk.i64_in _ (by omega)
        have HS7 := Lib.hid (startsL_succ l k)
        generalize stL l k = st at *
        have hal7 := (Below.refl w2.heap.size w2).alloc (Nat.le_refl _) (.cells (ic st).toArray 3)
        have HC7 := Lib.hid (ownD_keep HB7.out hal7)
        have HC8 := Lib.hid (ownD_keep HB8.out hal7)
        have hq3 := hq2.alloc (.cells (ic st).toArray 3)
        have hle4 := hle3.trans (hal7.mono hw2B)
        have HQ3 := Lib.hid hq3; have HLE4 := Lib.hid hle4
        clear hal7 hq2 hq3 hle3 hle4 HB7 HB8
        go_upto_region 13 with (at_builtin; refine wpList_appD (d := 0) (D := ic) (l := startsL l k) (m := [st]) rfl _ _ rfl Try.underlying50 Try.infoInt rfl (by omega) ic_length ic_one HC7.out rfl (RdD.one (by omega) ic_length w2 3 st) rfl (by unfold maxLen; simp only [List.length_singleton]; omega) (by simp only [List.length_singleton]; omega) (by simp only [World.size_alloc]; omega) ?_; intro v7 w3 hown7 hg7)
        rw [← HS7.out] at hown7
        have hown8 := ownD_other HC8.out hg7 (own_apart HC8.out HC7.out (by decide))
        have hq4 := Bx.grownO HQ3.out HC7.out (by decide) hg7
        have hle5 := HLE4.out.grown hg7 (by simp only [World.size_alloc]; have := HB.out; omega) (fun j hj => by have := ownD_block HC7.out j hj; have := HB.out; omega)
        have hw3B : B ≤ w3.heap.size := by have := hg7.size; simp only [World.size_alloc] at this; omega
        obtain ⟨g7, c7', rfl, _, _⟩ := ownD_addr hown7 (by simp)
        simp only [List.length_singleton] at hown7
        have HD7 := Lib.hid hown7
        clear hg7 hown7 HC7 HC8 HQ3 HLE4
        obtain ⟨p0, p1, p2, p3, p4, p5, p6, p7, p8⟩ := fcs_cells hq4
        have hal8 := (Below.refl w3.heap.size w3).alloc (Nat.le_refl _) (.cells (tcs ⟨q.pt, 0, st, outL l - st, 0, 0, 0⟩).toArray 40)
        have HD8 := Lib.hid (ownD_keep hown8 hal8)
        have HE7 := Lib.hid (ownD_keep HD7.out hal8)
        have HLE6 := Lib.hid (hle5.trans (hal8.mono hw3B))
        clear hal8 hown8 hle5 HD7
        go_upto_region 14 with (at_builtin; refine wpList_appD (d := T.z) (D := tcs) (l := tkL l k) (m := [(⟨q.pt, 0, st, outL l - st, 0, 0, 0⟩ : T.Trk)]) rfl _ _ rfl Try.underlying22 Try.infoTrk rfl (by omega) tcs_length tcs_one HD8.out rfl (RdD.one (by omega) tcs_length w3 40 _) rfl (by unfold maxLen; simp only [List.length_singleton]; omega) (by simp only [List.length_singleton]; omega) (by simp only [World.size_alloc]; omega) ?_; intro v8 w4 hown8 hg8)
        have hown7 := ownD_other HE7.out hg8 (own_apart HE7.out HD8.out (by decide))
        have hle7 := HLE6.out.grown hg8 (by simp only [World.size_alloc]; have := HB.out; omega) (fun j hj => by have := ownD_block HD8.out j hj; have := HB.out; omega)
        obtain ⟨g8, c8', rfl, hg8B, hg8l⟩ := ownD_addr hown8 (by simp)
        simp only [List.length_singleton] at hown8
        clear hg8 HD8 HE7 HLE6 hq4 p0 p1 p2 p3 p4 p5 p6 p7 p8
        have HF7 := Lib.hid hown7; have HF8 := Lib.hid hown8
        clear hown7 hown8
        cases k with
        | zero =>
          have H8 := Lib.hid (show w4.ownsRow B 40 7 (.slice (some ⟨g8, 0, none⟩) (0 + 1) c8') (0 + 1) (flD tcs (tkL l (0 + 1))) from by rw [← HTk1.out rfl]; exact HF8.out)
          clear HTk1 HTk2 HF8
          go_wp2_with fail
          refine ⟨⟨1, by omega, by go_num, HF7.out, H8.out, Lib.hid HOK3.out, hle7⟩, by simp [intOf]; omega⟩
        | succ j =>
          have hj0 : (decide (0 < ((j + 1 : Nat) : Int))) = true := decide_eq_true (by omega)
          have hc7 := ownD_cells (d := 0) ic_length HF7.out j (by rw [startsL_length]; omega) 0 _ rfl
          have ha7 : atD 0 (startsL l (j + 1 + 1)) j = stL l j := by unfold atD startsL; rw [List.getElem?_map, List.getElem?_range (by omega)]; rfl
          have hs1 : -150 ≤ stL l j ∧ stL l j ≤ 449849 := lbV_bd _
          have ha8 : atD T.z (tkL l (j + 1) ++ [(⟨q.pt, 0, st, outL l - st, 0, 0, 0⟩ : T.Trk)]) j = tkE l (j + 1) j := by
            rw [atD_append_lt _ _ _ (by rw [tkL_length]; omega)]; exact tr_tk l (j + 1) j (by omega)
          have hset := ownD_fld (d := T.z) tcs_length HF8.out j 3 (by simp [tkL_length]; omega) (by omega) (.int .i64 (st - stL l j)) (⟨(fr l (j + 3)).pt, 0, stL l j, st - stL l j, 0, 0, 0⟩ : T.Trk) (by rw [ha8]; rfl)
          rw [HTk2.out j rfl] at hset
          have hold := ownD_cells (d := T.z) tcs_length HF8.out j (by simp [tkL_length]; omega) 3 _ rfl
          rw [ha8] at hold
          rw [ha7] at hc7
          simp only [Nat.mul_one, Nat.add_zero] at hc7
          have HSet := Lib.hid hset
          have HS7' := Lib.hid (show (w4.setCell ⟨g8, j * 7 + 3, none⟩ (.int .i64 (st - stL l j))).ownsRow B 3 1 (.slice (some ⟨g7, 0, none⟩) (j + 1 + 1) c7') (j + 1 + 1) (flD ic (startsL l (j + 1 + 1))) from ownD_setO HF7.out (fun k hk hk' => own_apart HF7.out HF8.out (by decide) k hk (by rw [hk']; rfl)) _)
          have hf8 : w4.frozen? ⟨g8, j * 7 + 3, none⟩ = false := own_free HF8.out _
          have hle8 := hle7.setCell (p := ⟨g8, j * 7 + 3, none⟩) (by have := HB.out; simp only; omega) (.int .i64 (st - stL l j))
          have hsub2 : IntKind.i64.wrap (st - stL l j) = st - stL l j := IntWalk.i64_in _ (by omega)
          have hsub3 : IntKind.i64.wrap (((j + 1 : Nat) : Int) - 1) = (j : Int) := by rw [show ((j + 1 : Nat) : Int) - 1 = j by omega]; exact IntWalk.i64_in _ (by omega)
          have hj2 : j < j + 1 + 1 := by omega
          clear hset HTk1 HTk2 HF7 HF8 ha7 ha8 hle7
          go_wp2_with fail
          refine ⟨⟨j + 1 + 1, by omega, by go_num, HS7'.out, HSet.out, Lib.hid HOK3.out, hle8⟩, by simp [intOf]; omega⟩
    · obtain rfl : k = m := by omega
      have hltm : ¬ k < l.length - 3 := by have := HM.out; omega
      have hctl : wr.cell? ⟨b, off, none⟩ = some (.int .i64 (fr l 0).ctl) := (hle.cell (p := ⟨b, off, none⟩) (by rw [HB.out] at *; exact hbl)).trans HCTL.out
      have hr8 : RdK wr (.slice a8 k c8) (tkL l k) := by have := RdD.ofOwn (d := T.z) (l := tkL l k) tcs_length (by rw [tkL_length]; exact hown8); exact this
      have HT := Lib.hid (entries_any (.slice a8 k c8) (tkL l k) (fr l 0).ctl wr hr8 (by rw [tkL_length]; omega) (tk_wf HWF.out (by have := HM.out; omega)))
      have HR' : Hid (RdF wr (.slice (some ⟨b, off, none⟩) l.length c) l) := Lib.hid (RdD.keep HR.out (by rw [HB.out] at hle; exact hle))
      have hr7 : RdN wr (.slice a7 k c7) (startsL l k) := by have := RdD.ofOwn (d := 0) (l := startsL l k) ic_length (by rw [startsL_length]; exact hown7); exact this
      have HR7 := Lib.hid hr7
      have HC2 : Hid (∀ w', Below w.heap.size w w' → RdN w' (.slice a7 k c7) (startsL l k) → colB l → ColP (colR l) w (.returned (.tuple #[.slice a7 k c7, .int .i64 (outL l), .int .i64 0])) w') := Lib.hid fun w' hb h hc => by
        rw [colR_yes hc, ← HM.out]; exact ⟨_, rfl, h, hb⟩
      have HIff : Hid (colB l ↔ Q.entR (tkL l k) (fr l 0).ctl = (l, 0)) := Lib.hid ⟨fun h => by have := h.2.2; rwa [← HM.out] at this, fun h => ⟨h4, fun i hi => HOK.out i (by rw [HM.out]; exact hi), by rw [← HM.out]; exact h⟩⟩
      have HLen : Hid ((Q.entR (tkL l k) (fr l 0).ctl).2 = 0 → (Q.entR (tkL l k) (fr l 0).ctl).1.length = l.length) := Lib.hid fun h => by rw [entR_len h, tkL_length]; have := HM.out; omega
      have HE1 : Hid ((Q.entR (tkL l k) (fr l 0).ctl).2 = 0 ∨ (Q.entR (tkL l k) (fr l 0).ctl).2 = 1) := Lib.hid (by unfold Q.entR; split <;> simp)
      have hle' : Below w.heap.size w wr := by rw [HB.out] at hle; exact hle
      clear hown7 hown8 hr8 hr7 hle HOK HM
      generalize (fr l 0).ctl = ctl at *
      generalize Q.entR (tkL l k) ctl = R at HT HIff HLen HE1
      obtain ⟨L, e⟩ := R
      replace HLen : Hid (e = 0 → L.length = l.length) := HLen
      replace HE1 : Hid (e = 0 ∨ e = 1) := HE1
      go_wp2_with fail
      refine HT.out.mono ?_
      rintro e5 w5 ⟨v5, rfl, hr5, hb5⟩
      have hle5 := hle'.trans (hb5.mono hle'.size)
      have HR5 := Lib.hid (RdD.keep HR'.out hb5)
      have HR75 := Lib.hid (RdD.keep HR7.out hb5)
      obtain ⟨a5, c5, rfl, _⟩ := RdD.form hr5
      have Hr5 := Lib.hid hr5
      clear hb5 hle' HR' HR7 hr5 hctl HT
      rcases HE1.out with he | he
      · have hl5 := HLen.out he
        subst he
        have HQ := Lib.hid (sequal_any _ _ L l w5 Hr5.out HR5.out (by rw [hl5]; omega) hl5)
        cases hdec : decide (L = l) with
        | true =>
          have hcol : colB l := HIff.out.2 (by rw [of_decide_eq_true hdec])
          have HCol := Lib.hid hcol
          rw [hdec] at HQ
          clear hcol hdec hl5
          go_wp2_with fail
          refine HQ.out.mono ?_
          rintro e6 w6 ⟨rfl, hb6⟩
          have HLE6 := Lib.hid (hle5.trans (hb6.mono hle5.size))
          have HR76 := Lib.hid (RdD.keep HR75.out hb6)
          clear hb6 hle5
          go_wp2_with fail
          go_ret3
          exact HC2.out _ HLE6.out HR76.out HCol.out
        | false =>
          have hcol : ¬ colB l := fun h => by
            have := HIff.out.1 h
            simp only [Prod.mk.injEq, and_true] at this
            exact of_decide_eq_false hdec this
          have HCol := Lib.hid hcol
          rw [hdec] at HQ
          clear hcol hdec hl5
          go_wp2_with fail
          refine HQ.out.mono ?_
          rintro e6 w6 ⟨rfl, hb6⟩
          have HLE6 := Lib.hid (hle5.trans (hb6.mono hle5.size))
          clear hb6 hle5
          go_wp2_with fail
          go_ret3
          exact HNO.out _ HLE6.out HCol.out
      · have hcol : ¬ colB l := fun h => by
          have := HIff.out.1 h
          rw [he] at this
          simp at this
        subst he
        have HCol := Lib.hid hcol
        have HLE5 := Lib.hid hle5
        clear hcol hle5
        go_wp2_with fail
        go_ret3
        exact HNO.out _ HLE5.out HCol.out
theorem col_any (v : Value) (l : List Q.Fr) (w : World) (hr : RdF w v l) (hn : l.length ≤ 120) (hwf : ∀ i, i < l.length → WfF (fr l i)) : Calls Try.prog 20 #[v] w (ColP (colR l) w) := by
  by_cases h : l.length < 4
  · exact col_short v l w hr h
  · exact col_main v l w hr (by omega) hn hwf
end Go.Proofs.Ytiioojlihapdaaa.W10
