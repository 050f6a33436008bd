/- Walk of 'at' of the package reedsolomon: a range over slices.Backward. -/
import Derived.RangeFuncBox
import Derived.RangeFuncLeaves
import Derived.RangeFuncWrites
import Derived.RangeFuncCalls
import Derived.Shelf.Abstract
import Derived.WalkKit
import Derived.OwnWalkIn
import Derived.TacticsInMore
import Derived.LoopNIn
import Derived.LoopIn
import Derived.Test.YtkebnmmcogkldaaDiv
namespace Go.Proofs.Ytkebnmmcogkldaa
open Go.RowKit Go.Shelf
set_option linter.unusedVariables false

attribute [local go_sem] Oper.semAt_some

theorem Rd.belowK {n₀ : Nat} {w w' : World} {v : Value} {l : List UInt8} (h : Rd w v l) (hn : w.heap.size ≤ n₀) (hb : Below n₀ w w') : Rd w' v l := h.keepW (fun k hk => hb.block k (by omega))

/-- what a round keeps: what lies below 'n', and block 'b' -/
def KB (n b : Nat) (W W' : World) : Prop := Below n W W' ∧ W'.heap[b]? = W.heap[b]?
theorem KB.refl (n b : Nat) (W : World) : KB n b W W := ⟨Below.refl _ _, rfl⟩
theorem KB.trans {n b : Nat} {A B C : World} (h : KB n b A B) (h' : KB n b B C) : KB n b A C := ⟨h.1.trans h'.1, h'.2.trans h.2⟩
theorem KB.cell {n b : Nat} {W W' : World} (h : KB n b W W') : W'.cell? ⟨b, 0, none⟩ = W.cell? ⟨b, 0, none⟩ := by
  simp [World.cell?, h.2]

/-- the indices that have come when 'k' rounds are over -/
def back (n k : Nat) : List Nat := (List.range k).map fun j => n - 1 - j
theorem back_length (n k : Nat) : (back n k).length = k := by simp [back]
theorem back_succ (n m k : Nat) (h : m + 1 + k = n) : back n (k + 1) = back n k ++ [m] := by
  simp [back, List.range_succ, show n - 1 - k = m by omega]
theorem back_take (n k : Nat) (h : k ≤ n) : back n k <+: back n n := by
  unfold back
  refine ⟨(List.range' k (n - k)).map fun j => n - 1 - j, ?_⟩
  rw [← List.map_append]
  congr 1
  have e := List.range'_append_1 (s := 0) (m := k) (n := n - k)
  rw [Nat.zero_add] at e
  rw [List.range_eq_range', List.range_eq_range', e, show k + (n - k) = n by omega]
theorem back_map (p : List UInt8) : (back p.length p.length).map (G.ix p) = p.reverse := by
  apply List.ext_getElem
  · simp [back]
  · intro i h1 h2
    have hi : i < p.length := by simpa using h2
    simp [back, G.ix, (by omega : p.length - 1 - i < p.length)]

set_option maxRecDepth 100000 in
set_option maxHeartbeats 2000000 in
/-- slices.Backward's closure, at a slice whose cells lie below 'n₀' -/
theorem back1_in (F : Fence) (n : Nat) (h7 : F.fn 112) (hro : F.round = none) (hn : 1 ≤ n) (l Bs n₀ : Nat) (v : Value) (p : List UInt8) (w0 : World) (hv : Rd w0 v p) (h0n : w0.heap.size ≤ n₀) (J Jx : List Nat → World → Prop)
    (hY : ∀ (pre : List Nat) (x : Nat) W, J pre W → pre.length < p.length → YieldAt F (n - 1) Try.prog l #[.int .i64 (x : Int), B (G.ix p x)] W fun e W' =>
      (e = .returned (.bool true) ∧ J (pre ++ [x]) W' ∧ KB n₀ Bs W W') ∨ (e = .returned (.bool false) ∧ Jx (pre ++ [x]) W'))
    (W : World) (hW : ∀ k, k < w0.heap.size → W.heap[k]? = w0.heap[k]?) (hBs : W.cell? ⟨Bs, 0, none⟩ = some v) (h0 : J [] W) :
    CallsIn F n Try.prog 112 #[.func (.yield l) #[] #[], .pointer (some ⟨Bs, 0, none⟩)] W fun e W' => (∃ v, e = .returned v) ∧
      ((∃ ys, ys = back p.length p.length ∧ J ys W') ∨ (∃ pre, pre <+: back p.length p.length ∧ Jx pre W')) := by
  obtain ⟨hl, a, cap, b, off, rfl, hcap, hcell⟩ := hv
  have HC := Lib.hid hcell; clear hcell
  refine callsIn_of_wp Try.func112 rfl h7 ?_ hro
  simp only [Try.ntmps112, List.size_toArray, List.length_cons, List.length_nil, Nat.reduceAdd, Nat.reduceSub, Array.replicate_succ, Array.replicate_zero, List.push_toArray, List.append_toArray, List.nil_append, List.cons_append]
  gi_wp2
  gi_loopw [3] (fun i wr => ∃ m k : Nat, m + k = p.length ∧ i = .int .i64 ((m : Int) - 1) ∧ J (back p.length k) wr ∧ KB n₀ Bs W wr)
    (fun i _ => (intOf i + 1).toNat)
  case atStart => exact ⟨p.length, 0, by omega, rfl, h0, KB.refl _ _ _⟩
  case round =>
    obtain ⟨m, k, hk, rfl, hJs, hnx⟩ := hrel
    have hBs' : wr.cell? ⟨Bs, 0, none⟩ = some (.slice a p.length cap) := hnx.cell.trans hBs
    by_cases hm : m = 0
    · subst hm
      gi_wp2
      go_end0
      obtain rfl : k = p.length := by omega
      exact ⟨⟨_, rfl⟩, .inl ⟨_, rfl, hJs⟩⟩
    · obtain ⟨t, rfl⟩ : ∃ t, m = t + 1 := ⟨m - 1, by omega⟩
      have hk1 : ((t + 1 : Nat) : Int) - 1 = t := by omega
      simp only [hk1]
      obtain ⟨ha, hcp⟩ := HC.out t (by omega)
      have hcw : wr.cell? ⟨b, off + t, none⟩ = some (B (G.ix p t)) := by
        rw [hnx.1.cell (p := ⟨b, off + t, none⟩) (by have := World.block_lt_of_cell? w0 _ hcp; simp at this ⊢; omega)]
        have e : W.heap[b]? = w0.heap[b]? := hW b (by have := World.block_lt_of_cell? w0 _ hcp; simpa using this)
        rw [← hcp]
        simp [World.cell?, e]
      have htl : t < p.length := by omega
      have hix := run_idx (P := Try.prog) Try.underlying98 Try.sizeU8 (cap := cap) ha htl _ rfl wr
      have Ha := Lib.hid ha; clear ha hcp
      obtain ⟨fn, tmps, assign, body, hy, hR⟩ := hY _ t wr hJs (by rw [back_length]; omega)
      have HE := Lib.hid (back_succ p.length t k hk)
      gi_wp2
      refine hR.mono ?_
      rintro e W3 (⟨rfl, hJ3, hk3⟩ | ⟨rfl, hJx3⟩)
      · gi_wp2
        go_roundw
        case rel => exact ⟨t, k + 1, by omega, by simp, by rw [HE.out]; exact hJ3, hnx.trans hk3⟩
        case measure => simp [intOf]
      · gi_wp2
        refine bodyPost_ret (results_none rfl _ _ _) rfl ?_
        exact ⟨⟨_, rfl⟩, .inr ⟨_, by rw [← HE.out]; exact back_take _ _ (by omega), hJx3⟩⟩

set_option maxHeartbeats 1000000 in
theorem back_in (F : Fence) (n : Nat) (h5 : F.fn 107) (hro : F.round = none) (v : Value) (w : World) (hv : ∃ a l c, v = .slice a l c) :
    CallsIn F n Try.prog 107 #[v] w fun e w' => e = .returned (.func (.func 112) #[] #[.pointer (some ⟨w.heap.size, 0, none⟩)]) ∧ w' = w.alloc (.cells #[v] 98) := by
  obtain ⟨a, l, c, rfl⟩ := hv
  refine callsIn_of_wp Try.func107 rfl h5 ?_ hro
  simp only [Try.ntmps107, List.size_toArray, List.length_cons, List.length_nil, Nat.reduceAdd, Nat.reduceSub, Array.replicate_succ, Array.replicate_zero, List.push_toArray, List.append_toArray, List.nil_append, List.cons_append]
  gi_wp2
  go_ret
  exact ⟨rfl, rfl⟩

theorem back_stops (F : Fence) (n : Nat) (h7 : F.fn 112) (hro : F.round = none) (hn : 1 ≤ n) (Bs n₀ : Nat) (v : Value) (p : List UInt8) (w0 w : World) (hv : Rd w0 v p) (h0n : w0.heap.size ≤ n₀) (hw : ∀ k, k < w0.heap.size → w.heap[k]? = w0.heap[k]?) (hBs : Bs < w.heap.size) (hn₀ : n₀ ≤ w.heap.size)
    (hc : w.cell? ⟨Bs, 0, none⟩ = some v) :
    SeqStopsK F n Try.prog 112 #[.pointer (some ⟨Bs, 0, none⟩)] (fun x : Nat => #[Value.int .i64 (x : Int), B (G.ix p x)]) (KB n₀ Bs) (fun ys => ys = back p.length p.length) (fun pre => pre <+: back p.length p.length) p.length w := fun l J Jx W hW _ _ hY h0 => by
  have hc' := (hW.cell (p := ⟨Bs, 0, none⟩) hBs).trans hc
  exact back1_in F n h7 hro hn l Bs n₀ v p w0 hv h0n J Jx hY W (fun k hk => (hW.block k (by omega)).trans (hw k hk)) hc' h0

set_option maxRecDepth 100000 in
set_option maxHeartbeats 2000000 in
theorem at_any (vp : Value) (x : Int) (p : List UInt8) (c : UInt8) (w : World) (hx : x = c.toNat) (hp : Rd w vp p) :
    Calls Try.prog 94 #[vp, .int .u8 x] w fun e w' => e = .returned (B (G.val p c)) ∧ Below w.heap.size w w' := by
  subst hx
  obtain ⟨a, cap, rfl⟩ := hp.form
  refine (callsIn_wide (n := 3)).1 ?_
  refine callsIn_of_wp_marks Try.func94 rfl trivial ?_ rfl
  simp only [Try.ntmps94, List.size_toArray, List.length_cons, List.length_nil, Nat.reduceAdd, Nat.reduceSub, Array.replicate_succ, Array.replicate_zero, List.push_toArray, List.append_toArray, List.nil_append, List.cons_append]
  gi_wp2_with (refine ⟨trivial, ?_⟩; gi_at_call 107; refine (back_in Fence.wide 2 trivial rfl _ _ ⟨_, _, _, rfl⟩).mono ?_; rintro e w' ⟨rfl, rfl⟩)
  have bX := Boxed.new w 5 (B c)
  have bS := Boxed.new (w.alloc (.cells #[B c] 5)) 5 (.int .u8 0)
  have bN := Boxed.new ((w.alloc (.cells #[B c] 5)).alloc (.cells #[.int .u8 0] 5)) 98 (.slice a p.length cap)
  simp only [World.size_alloc] at bS bN
  have hB0 : Below w.heap.size w (((w.alloc (.cells #[B c] 5)).alloc (.cells #[.int .u8 0] 5)).alloc (.cells #[.slice a p.length cap] 98)) := (((Below.refl _ w).alloc (Nat.le_refl _) _).alloc (by simp) _).alloc (by simp; omega) _
  have bX' := (bX.alloc (.cells #[.int .u8 0] 5)).alloc (.cells #[.slice a p.length cap] 98)
  have bS' := bS.alloc (.cells #[.slice a p.length cap] 98)
  have hpl := hp.1
  refine wpIn_rangeFunc_ownG rfl (by omega) (gf := 112) (lb := #[.pointer (some ⟨w.heap.size + 1 + 1, 0, none⟩)]) rfl trivial (enters_of Try.func112 (by kernel_rfl) rfl)
    (back_stops Fence.wide 2 trivial rfl (by omega) (w.heap.size + 1 + 1) w.heap.size _ p w _ hp (Nat.le_refl _) (fun k hk => hB0.block k hk) (by simp) (by simp; omega) bN.cell) KB.trans (fun W l o o' hl ho hoc how => ⟨belowK_b (by simp; omega) W l o o' hl ho hoc how, World.putObj_heap_other (by simp at hl; omega)⟩) (Below.refl _ _) (fun _ => rfl)
    (fun pre W => (W.cell? ⟨w.heap.size, 0, none⟩ = some (B c) ∧ W.cell? ⟨w.heap.size + 1, 0, none⟩ = some (B (G.evalA c 0 (pre.map (G.ix p)))) ∧ W.frozen? ⟨w.heap.size + 1, 0, none⟩ = false) ∧ Below w.heap.size w W)
    (fun _ _ _ => False)
    (OwnFrom.and (Own.from (fun s A B row hs hg hr => ⟨cell_kept hs.1 hg hr, cell_kept hs.2.1 hg hr, (frozen_kept hs.2.1 hg hr).trans hs.2.2⟩) _) (ownFrom_below (Nat.le_refl _) (by simp; omega)))
    (fun _ _ _ _ _ hs _ _ => hs)
    ⟨⟨bX'.cell, bS'.cell, bS'.frozen⟩, hB0⟩
    (fun x => { tmps := #[.slice a p.length cap, B c, undef, .pointer (some ⟨w.heap.size, 0, none⟩), .int .u8 0, .pointer (some ⟨w.heap.size + 1, 0, none⟩), undef, B (G.ix p x), .slice a p.length cap, .func (.func 112) #[] #[.pointer (some ⟨w.heap.size + 1 + 1, 0, none⟩)], .int .i64 x, B (G.ix p x), undef, undef, undef, undef, undef, undef], defers := [] }) ?assign ?body ?done ?stop
  case assign =>
    intro l x W K hK
    gi_wp2
    exact hK
  case body =>
    rintro l pre x W ⟨⟨hc, hcs, hf⟩, hB⟩ _
    obtain ⟨s, hs⟩ : ∃ s, s = G.evalA c 0 (pre.map (G.ix p)) := ⟨_, rfl⟩
    rw [← hs] at hcs
    have Hs := Lib.hid hs; clear hs
    gi_wp2_with (refine ⟨trivial, ?_⟩; gi_at_call 72; refine (CallsIn.inRound l (callsIn_wide.2 (gmul_at _ _ s c _ rfl rfl))).mono ?_; rintro e w' ⟨rfl, rfl⟩)
    rw [xorB]
    exact ⟨(KeepsOthers.setCell _ _ _).from _, ⟨(Below.refl w.heap.size W).setCell (p := ⟨w.heap.size + 1, 0, none⟩) (by simp) _, Below.heap_setCell _ _ _ _ (by simp)⟩,
      ⟨⟨(World.cell?_setCell_other W ⟨w.heap.size + 1, 0, none⟩ ⟨w.heap.size, 0, none⟩ _ (by simp)).trans hc, by rw [List.map_append, List.map_singleton, evalA_snoc, ← Hs.out]; exact World.cell?_setCell_same' _ _ _ (by rw [hcs]; rfl), by rw [World.frozen?_setCell]; exact hf⟩, hB.setCell (p := ⟨w.heap.size + 1, 0, none⟩) (by simp) _⟩⟩
  case done =>
    rintro D ys W hD rfl ⟨⟨_, hc, _⟩, hB⟩ hK
    gi_wp2
    refine ⟨by simp, .inl ⟨_, _, rfl, run_takeDeferred hK, ?_⟩⟩
    rw [back_map]
    exact ⟨_, results_tmp rfl _ _ _, rfl, hB.trans (belowK_b (w := w) (Nat.le_refl _) W D _ _ (by simp at hD; omega) hK rfl rfl)⟩
  case stop =>
    rintro D c pre W _ _ h _
    exact h.elim
end Go.Proofs.Ytkebnmmcogkldaa
