/- Parts: XAt XEras -/
import Derived.RangeFuncBox
import Derived.RangeFuncLeaves
import Derived.RangeFuncWrites
import Derived.RangeFuncCalls
import Derived.Shelf.Abstract
import Derived.WalkKit
import Derived.OwnWalkIn
import Derived.TacticsInMore
import Derived.LoopNIn
import Derived.LoopIn
import Derived.Test.YtflmjdjkfognjaaGreatTe09
import Derived.Deep.RegionWith
namespace Go.Proofs.YtflmjdjkfognjaaGreat
open Go.RowKit Go.Shelf
set_option linter.unusedVariables false
attribute [local go_sem] Oper.semAt_some
def KB (n b : Nat) (W W' : World) : Prop := Below n W W' ∧ W'.heap[b]? = W.heap[b]?
theorem KB.refl (n b : Nat) (W : World) : KB n b W W := ⟨Below.refl _ _, rfl⟩
theorem KB.trans {n b : Nat} {A B C : World} (h : KB n b A B) (h' : KB n b B C) : KB n b A C := ⟨h.1.trans h'.1, h'.2.trans h.2⟩
theorem KB.cell {n b : Nat} {W W' : World} (h : KB n b W W') : W'.cell? ⟨b, 0, none⟩ = W.cell? ⟨b, 0, none⟩ := by
  simp [World.cell?, h.2]
def back (n k : Nat) : List Nat := (List.range k).map fun j => n - 1 - j
theorem back_length (n k : Nat) : (back n k).length = k := by simp [back]
theorem back_succ (n m k : Nat) (h : m + 1 + k = n) : back n (k + 1) = back n k ++ [m] := by
  simp [back, List.range_succ, show n - 1 - k = m by omega]
theorem back_take (n k : Nat) (h : k ≤ n) : back n k <+: back n n := by
  unfold back
  refine ⟨(List.range' k (n - k)).map fun j => n - 1 - j, ?_⟩
  rw [← List.map_append]
  congr 1
  have e := List.range'_append_1 (s := 0) (m := k) (n := n - k)
  rw [Nat.zero_add] at e
  rw [List.range_eq_range', List.range_eq_range', e, show k + (n - k) = n by omega]
theorem back_map (p : List UInt8) : (back p.length p.length).map (G.ix p) = p.reverse := by
  apply List.ext_getElem
  · simp [back]
  · intro i h1 h2
    have hi : i < p.length := by simpa using h2
    simp [back, G.ix, (by omega : p.length - 1 - i < p.length)]
set_option maxRecDepth 100000 in
set_option maxHeartbeats 2000000 in
theorem back1_in (F : Fence) (n : Nat) (h7 : F.fn 254) (hro : F.round = none) (hn : 1 ≤ n) (l Bs n₀ : Nat) (v : Value) (p : List UInt8) (w0 : World) (hv : Rd w0 v p) (h0n : w0.heap.size ≤ n₀) (J Jx : List Nat → World → Prop)
    (hY : ∀ (pre : List Nat) (x : Nat) W, J pre W → pre.length < p.length → YieldAt F (n - 1) Tryz.prog l #[.int .i64 (x : Int), B (G.ix p x)] W fun e W' =>
      (e = .returned (.bool true) ∧ J (pre ++ [x]) W' ∧ KB n₀ Bs W W') ∨ (e = .returned (.bool false) ∧ Jx (pre ++ [x]) W'))
    (W : World) (hW : ∀ k, k < w0.heap.size → W.heap[k]? = w0.heap[k]?) (hBs : W.cell? ⟨Bs, 0, none⟩ = some v) (h0 : J [] W) :
    CallsIn F n Tryz.prog 254 #[.func (.yield l) #[] #[], .pointer (some ⟨Bs, 0, none⟩)] W fun e W' => (∃ v, e = .returned v) ∧
      ((∃ ys, ys = back p.length p.length ∧ J ys W') ∨ (∃ pre, pre <+: back p.length p.length ∧ Jx pre W')) := by
  obtain ⟨hl, a, cap, b, off, rfl, hcap, hcell⟩ := hv
  have HC := Lib.hid hcell; clear hcell
  refine callsIn_of_wp Tryz.func254 rfl h7 ?_ hro
  simp only [Tryz.ntmps254, List.size_toArray, List.length_cons, List.length_nil, Nat.reduceAdd, Nat.reduceSub, Array.replicate_succ, Array.replicate_zero, List.push_toArray, List.append_toArray, List.nil_append, List.cons_append]
  gi_wp2
  gi_loopw [3] (fun i wr => ∃ m k : Nat, m + k = p.length ∧ i = .int .i64 ((m : Int) - 1) ∧ J (back p.length k) wr ∧ KB n₀ Bs W wr)
    (fun i _ => (intOf i + 1).toNat)
  case atStart => exact ⟨p.length, 0, by omega, rfl, h0, KB.refl _ _ _⟩
  case round =>
    obtain ⟨m, k, hk, rfl, hJs, hnx⟩ := hrel
    have hBs' : wr.cell? ⟨Bs, 0, none⟩ = some (.slice a p.length cap) := hnx.cell.trans hBs
    by_cases hm : m = 0
    · subst hm
      gi_wp2
      go_end0
      obtain rfl : k = p.length := by omega
      exact ⟨⟨_, rfl⟩, .inl ⟨_, rfl, hJs⟩⟩
    · obtain ⟨t, rfl⟩ : ∃ t, m = t + 1 := ⟨m - 1, by omega⟩
      have hk1 : ((t + 1 : Nat) : Int) - 1 = t := by omega
      simp only [hk1]
      obtain ⟨ha, hcp⟩ := HC.out t (by omega)
      have hcw : wr.cell? ⟨b, off + t, none⟩ = some (B (G.ix p t)) := by
        rw [hnx.1.cell (p := ⟨b, off + t, none⟩) (by have := World.block_lt_of_cell? w0 _ hcp; simp at this ⊢; omega)]
        have e : W.heap[b]? = w0.heap[b]? := hW b (by have := World.block_lt_of_cell? w0 _ hcp; simpa using this)
        rw [← hcp]
        simp [World.cell?, e]
      have htl : t < p.length := by omega
      have hix := run_idx (P := Tryz.prog) Tryz.underlying245 Tryz.sizeU8 (cap := cap) ha htl _ rfl wr
      have Ha := Lib.hid ha; clear ha hcp
      obtain ⟨fn, tmps, assign, body, hy, hR⟩ := hY _ t wr hJs (by rw [back_length]; omega)
      have HE := Lib.hid (back_succ p.length t k hk)
      gi_wp2
      refine hR.mono ?_
      rintro e W3 (⟨rfl, hJ3, hk3⟩ | ⟨rfl, hJx3⟩)
      · gi_wp2
        go_roundw
        case rel => exact ⟨t, k + 1, by omega, by simp, by rw [HE.out]; exact hJ3, hnx.trans hk3⟩
        case measure => simp [intOf]
      · gi_wp2
        refine bodyPost_ret (results_none rfl _ _ _) rfl ?_
        exact ⟨⟨_, rfl⟩, .inr ⟨_, by rw [← HE.out]; exact back_take _ _ (by omega), hJx3⟩⟩
set_option maxHeartbeats 1000000 in
theorem back_in (F : Fence) (n : Nat) (h5 : F.fn 236) (hro : F.round = none) (v : Value) (w : World) (hv : ∃ a l c, v = .slice a l c) :
    CallsIn F n Tryz.prog 236 #[v] w fun e w' => e = .returned (.func (.func 254) #[] #[.pointer (some ⟨w.heap.size, 0, none⟩)]) ∧ w' = w.alloc (.cells #[v] 245) := by
  obtain ⟨a, l, c, rfl⟩ := hv
  refine callsIn_of_wp Tryz.func236 rfl h5 ?_ hro
  simp only [Tryz.ntmps236, List.size_toArray, List.length_cons, List.length_nil, Nat.reduceAdd, Nat.reduceSub, Array.replicate_succ, Array.replicate_zero, List.push_toArray, List.append_toArray, List.nil_append, List.cons_append]
  gi_wp2
  go_ret
  exact ⟨rfl, rfl⟩
theorem back_stops (F : Fence) (n : Nat) (h7 : F.fn 254) (hro : F.round = none) (hn : 1 ≤ n) (Bs n₀ : Nat) (v : Value) (p : List UInt8) (w0 w : World) (hv : Rd w0 v p) (h0n : w0.heap.size ≤ n₀) (hw : ∀ k, k < w0.heap.size → w.heap[k]? = w0.heap[k]?) (hBs : Bs < w.heap.size) (hn₀ : n₀ ≤ w.heap.size)
    (hc : w.cell? ⟨Bs, 0, none⟩ = some v) :
    SeqStopsK F n Tryz.prog 254 #[.pointer (some ⟨Bs, 0, none⟩)] (fun x : Nat => #[Value.int .i64 (x : Int), B (G.ix p x)]) (KB n₀ Bs) (fun ys => ys = back p.length p.length) (fun pre => pre <+: back p.length p.length) p.length w := fun l J Jx W hW _ _ hY h0 => by
  have hc' := (hW.cell (p := ⟨Bs, 0, none⟩) hBs).trans hc
  exact back1_in F n h7 hro hn l Bs n₀ v p w0 hv h0n J Jx hY W (fun k hk => (hW.block k (by omega)).trans (hw k hk)) hc' h0
set_option maxRecDepth 100000 in
set_option maxHeartbeats 2000000 in
theorem at_any (vp : Value) (x : Int) (p : List UInt8) (c : UInt8) (w : World) (hx : x = c.toNat) (hp : Rd w vp p) :
    Calls Tryz.prog 208 #[vp, .int .u8 x] w fun e w' => e = .returned (B (G.val p c)) ∧ Below w.heap.size w w' := by
  subst hx
  obtain ⟨a, cap, rfl⟩ := hp.form
  refine (callsIn_wide (n := 3)).1 ?_
  refine callsIn_of_wp_marks Tryz.func208 rfl trivial ?_ rfl
  simp only [Tryz.ntmps208, List.size_toArray, List.length_cons, List.length_nil, Nat.reduceAdd, Nat.reduceSub, Array.replicate_succ, Array.replicate_zero, List.push_toArray, List.append_toArray, List.nil_append, List.cons_append]
  gi_wp2_with (refine ⟨trivial, ?_⟩; gi_at_call 236; refine (back_in Fence.wide 2 trivial rfl _ _ ⟨_, _, _, rfl⟩).mono ?_; rintro e w' ⟨rfl, rfl⟩)
  have bX := Boxed.new w 5 (B c)
  have bS := Boxed.new (w.alloc (.cells #[B c] 5)) 5 (.int .u8 0)
  have bN := Boxed.new ((w.alloc (.cells #[B c] 5)).alloc (.cells #[.int .u8 0] 5)) 245 (.slice a p.length cap)
  simp only [World.size_alloc] at bS bN
  have hB0 : Below w.heap.size w (((w.alloc (.cells #[B c] 5)).alloc (.cells #[.int .u8 0] 5)).alloc (.cells #[.slice a p.length cap] 245)) := (((Below.refl _ w).alloc (Nat.le_refl _) _).alloc (by simp) _).alloc (by simp; omega) _
  have bX' := (bX.alloc (.cells #[.int .u8 0] 5)).alloc (.cells #[.slice a p.length cap] 245)
  have bS' := bS.alloc (.cells #[.slice a p.length cap] 245)
  have hpl := hp.1
  refine wpIn_rangeFunc_ownG rfl (by omega) (gf := 254) (lb := #[.pointer (some ⟨w.heap.size + 1 + 1, 0, none⟩)]) rfl trivial (enters_of Tryz.func254 (by kernel_rfl) rfl)
    (back_stops Fence.wide 2 trivial rfl (by omega) (w.heap.size + 1 + 1) w.heap.size _ p w _ hp (Nat.le_refl _) (fun k hk => hB0.block k hk) (by simp) (by simp; omega) bN.cell) KB.trans (fun W l o o' hl ho hoc how => ⟨belowK_b (by simp; omega) W l o o' hl ho hoc how, World.putObj_heap_other (by simp at hl; omega)⟩) (Below.refl _ _) (fun _ => rfl)
    (fun pre W => (W.cell? ⟨w.heap.size, 0, none⟩ = some (B c) ∧ W.cell? ⟨w.heap.size + 1, 0, none⟩ = some (B (G.evalA c 0 (pre.map (G.ix p)))) ∧ W.frozen? ⟨w.heap.size + 1, 0, none⟩ = false) ∧ Below w.heap.size w W)
    (fun _ _ _ => False)
    (OwnFrom.and (Own.from (fun s A B row hs hg hr => ⟨cell_kept hs.1 hg hr, cell_kept hs.2.1 hg hr, (frozen_kept hs.2.1 hg hr).trans hs.2.2⟩) _) (ownFrom_below (Nat.le_refl _) (by simp; omega)))
    (fun _ _ _ _ _ hs _ _ => hs)
    ⟨⟨bX'.cell, bS'.cell, bS'.frozen⟩, hB0⟩
    (fun x => { tmps := #[.slice a p.length cap, B c, undef, .pointer (some ⟨w.heap.size, 0, none⟩), .int .u8 0, .pointer (some ⟨w.heap.size + 1, 0, none⟩), undef, B (G.ix p x), .slice a p.length cap, .func (.func 254) #[] #[.pointer (some ⟨w.heap.size + 1 + 1, 0, none⟩)], .int .i64 x, B (G.ix p x), undef, undef, undef, undef, undef, undef], defers := [] }) ?assign ?body ?done ?stop
  case assign =>
    intro l x W K hK
    gi_wp2
    exact hK
  case body =>
    rintro l pre x W ⟨⟨hc, hcs, hf⟩, hB⟩ _
    obtain ⟨s, hs⟩ : ∃ s, s = G.evalA c 0 (pre.map (G.ix p)) := ⟨_, rfl⟩
    rw [← hs] at hcs
    have Hs := Lib.hid hs; clear hs
    gi_wp2_with (refine ⟨trivial, ?_⟩; gi_at_call 201; refine (CallsIn.inRound l (callsIn_wide.2 (gmul_at _ _ s c _ rfl rfl))).mono ?_; rintro e w' ⟨rfl, rfl⟩)
    rw [xorB]
    exact ⟨(KeepsOthers.setCell _ _ _).from _, ⟨(Below.refl w.heap.size W).setCell (p := ⟨w.heap.size + 1, 0, none⟩) (by simp) _, Below.heap_setCell _ _ _ _ (by simp)⟩,
      ⟨⟨(World.cell?_setCell_other W ⟨w.heap.size + 1, 0, none⟩ ⟨w.heap.size, 0, none⟩ _ (by simp)).trans hc, by rw [List.map_append, List.map_singleton, evalA_snoc, ← Hs.out]; exact World.cell?_setCell_same' _ _ _ (by rw [hcs]; rfl), by rw [World.frozen?_setCell]; exact hf⟩, hB.setCell (p := ⟨w.heap.size + 1, 0, none⟩) (by simp) _⟩⟩
  case done =>
    rintro D ys W hD rfl ⟨⟨_, hc, _⟩, hB⟩ hK
    gi_wp2
    refine ⟨by simp, .inl ⟨_, _, rfl, run_takeDeferred hK, ?_⟩⟩
    rw [back_map]
    exact ⟨_, results_tmp rfl _ _ _, rfl, hB.trans (belowK_b (w := w) (Nat.le_refl _) W D _ _ (by simp at hD; omega) hK rfl rfl)⟩
  case stop =>
    rintro D c pre W _ _ h _
    exact h.elim
end Go.Proofs.YtflmjdjkfognjaaGreat
namespace Go.Proofs.YtflmjdjkfognjaaGreat
open Go.RowKit
set_option linter.unusedVariables false
theorem Tryz.sizeInt : (Tryz.prog.info? 3).map (·.size) = some 1 := by kernel_rfl
def RdI (w : World) (v : Value) (l : List Int) : Prop :=
  l.length ≤ 17592186044416 ∧ (∃ a cap b off, v = .slice a l.length cap ∧ l.length ≤ cap ∧ ∀ i, i < l.length → a = some ⟨b, off, none⟩ ∧ w.cell? ⟨b, off + i, none⟩ = some (.int .i64 (ixI l i))) ∧ ∀ i, i < l.length → -9223372036854775808 ≤ ixI l i ∧ ixI l i ≤ 9223372036854775807
theorem RdI.keepW {w w' : World} {v : Value} {l : List Int} (h : RdI w v l) (hb : ∀ k, k < w.heap.size → w'.heap[k]? = w.heap[k]?) : RdI w' v l := by
  obtain ⟨h0, ⟨a, cap, b, off, e, hc, hcell⟩, hr⟩ := h
  refine ⟨h0, ⟨a, cap, b, off, e, hc, fun i hi => ⟨(hcell i hi).1, ?_⟩⟩, hr⟩
  have h2 := (hcell i hi).2
  have h3 := World.block_lt_of_cell? w _ h2
  rw [← h2]
  simp [World.cell?, hb b (by simpa using h3)]
theorem RdI.keep {w w' : World} {v : Value} {l : List Int} (h : RdI w v l) (hb : Below w.heap.size w w') : RdI w' v l := h.keepW hb.block
theorem locator_any (s : ByteArray) (n : Nat) (x : Int) (i : Nat) (w : World) (hx : x = i) (hs : s.size = n) (hi : i < n) (hn : n ≤ 255) :
    Calls Tryz.prog 234 #[.string s, .int .i64 x] w fun e w' => e = .returned (B (G.exp (n - 1 - i))) ∧ w = w' := by
  subst hx
  obtain ⟨m, hm⟩ : ∃ m : Nat, m = n - 1 - i := ⟨_, rfl⟩
  have hm' : (n : Int) - 1 - i = m := by omega
  rw [← hm]
  have hm2 : m < 255 := by omega
  clear hm
  go_enter Tryz.func234, Tryz.ntmps234
  go_wp2_with fail
  refine (exp_at _ (m : Int) _ (by omega) (by omega) (by omega)).mono ?_
  rintro e w1 ⟨rfl, rfl⟩
  have hE : (Gf.exp (ex (m : Int)) : Nat) = (G.exp m).toNat := by rw [G.toNat_exp]; congr 1; unfold ex; omega
  rw [hE]
  go_wp2_with fail
  go_ret
  exact ⟨rfl, rfl⟩
set_option maxRecDepth 100000 in
set_option maxHeartbeats 2000000 in
theorem erasures_any (s : ByteArray) (n : Nat) (ve : Value) (l : List Int) (w : World) (hs : s.size = n) (hn : n ≤ 255) (hv : RdI w ve l) (hl : l.length ≤ 1073741824) :
    Calls Tryz.prog 203 #[.string s, ve] w fun e w' => (G.posB n l = false ∧ e = .returned (.tuple #[.slice none 0 0, .bool false]) ∧ Below w.heap.size w w') ∨
      (G.posB n l = true ∧ ∃ v, e = .returned (.tuple #[v, .bool true]) ∧ Rd w' v (G.erasI n l l.length) ∧ Below w.heap.size w w') := by
  obtain ⟨h0, ⟨a, cap, b, off, rfl, hcap, hcell⟩, hrng⟩ := hv
  have HC := Lib.hid hcell; clear hcell
  have HR := Lib.hid hrng; clear hrng
  go_enter Tryz.func203, Tryz.ntmps203
  go_wp2_with fail
  have h1 : (w.alloc (.cells #[B 1] 5)).ownsRow w.heap.size 5 1 (.slice (some ⟨w.heap.size, 0, none⟩) 1 1) 1 (bs [1]) := World.ownsRow_lit w #[B 1] 1 (Nat.le_refl _) (by simp [maxLen]) (by simp)
  have hr1 : Rd (w.alloc (.cells #[B 1] 5)) (.slice (some ⟨w.heap.size, 0, none⟩) 1 1) (G.erasI n l 0) := Rd.ofOwn' h1 (by simp)
  have hb1 : Below w.heap.size w (w.alloc (.cells #[B 1] 5)) := (Below.refl _ _).alloc (Nat.le_refl _) _
  clear h1
  go_loopw [6, 12] (fun vg vk wr => ∃ k : Nat, k ≤ l.length ∧ vk = .int .i64 k ∧ Rd wr vg (G.erasI n l k) ∧ Hid (G.posN n l k = true) ∧ Below w.heap.size w wr) (fun _ vk _ => l.length - (intOf vk).toNat)
  case atStart => exact ⟨0, by omega, rfl, hr1, Lib.hid rfl, hb1⟩
  case round =>
    clear hr1 hb1
    obtain ⟨k, hk, rfl, hr, HP, hb⟩ := hrel
    by_cases hlt : k < l.length
    · obtain ⟨ha, hcp⟩ := HC.out k hlt
      have hcw : wr.cell? ⟨b, off + k, none⟩ = some (.int .i64 (ixI l k)) := (hb.cell (p := ⟨b, off + k, none⟩) (World.block_lt_of_cell? w _ hcp)).trans hcp
      have hix := run_idx (P := Tryz.prog) Tryz.underlying53 Tryz.sizeInt (cap := cap) ha hlt _ rfl wr
      have Ha := Lib.hid ha; clear ha hcp
      obtain ⟨x, hx⟩ : ∃ x, x = ixI l k := ⟨_, rfl⟩
      rw [← hx] at hcw
      have Hx := Lib.hid hx; clear hx
      have hxr := HR.out k hlt
      rw [← Hx.out] at hxr
      have hPk := HP.out
      by_cases c1 : x < 0
      · have hd1 : decide (x < 0) = true := decide_eq_true c1
        have HF : Hid (G.posB n l = false) := Lib.hid (by
          rw [Bool.eq_false_iff]; intro h
          have := (G.posN_at n l hlt h).1
          rw [← Hx.out] at this; omega)
        clear c1
        go_wp2_with fail
        go_ret2
        exact .inl ⟨HF.out, rfl, hb⟩
      by_cases c2 : (n : Int) ≤ x
      · have hd1 : decide (x < 0) = false := decide_eq_false c1
        have hd2 : decide ((n : Int) ≤ x) = true := decide_eq_true c2
        have HF : Hid (G.posB n l = false) := Lib.hid (by
          rw [Bool.eq_false_iff]; intro h
          have := (G.posN_at n l hlt h).2.1
          rw [← Hx.out] at this; omega)
        clear c1 c2
        go_wp2_with fail
        go_ret2
        exact .inl ⟨HF.out, rfl, hb⟩
      by_cases c0 : k = 0
      · subst c0
        have hd1 : decide (x < 0) = false := decide_eq_false c1
        have hd2 : decide ((n : Int) ≤ x) = false := decide_eq_false c2
        have hcw0 : wr.cell? ⟨b, off, none⟩ = some (.int .i64 x) := by simpa using hcw
        clear hcw
        have hix0 := run_idx (P := Tryz.prog) Tryz.underlying53 Tryz.sizeInt (cap := cap) Ha.out hlt 0 rfl wr
        have HT : Hid (G.posN n l (0 + 1) = true) := Lib.hid (by
          rw [G.posN, HP.out, ← Hx.out, hd1, hd2]; rfl)
        obtain ⟨t, ht⟩ : ∃ t : Nat, x = (t : Int) := ⟨x.toNat, by omega⟩
        have hxn : t < n := by omega
        have Ht := Lib.hid ht; clear ht
        have hbs := hb.size
        go_wp2_with fail
        refine (locator_any s n _ t _ Ht.out hs hxn hn).mono ?_
        rintro e w1 ⟨rfl, rfl⟩
        go_wp2_with fail
        have ho2 : (wr.alloc (.cells #[B 1, B (G.exp (n - 1 - t))] 5)).ownsRow w.heap.size 5 1 (.slice (some ⟨wr.heap.size, 0, none⟩) 2 2) [1, G.exp (n - 1 - t)].length (bs [1, G.exp (n - 1 - t)]) := World.ownsRow_lit wr #[B 1, B (G.exp (n - 1 - t))] 2 hbs (by simp [maxLen]) (by simp)
        have hb2 : Below w.heap.size w (wr.alloc (.cells #[B 1, B (G.exp (n - 1 - t))] 5)) := hb.alloc hbs _
        refine (times_any _ _ (G.erasI n l 0) [1, G.exp (n - 1 - t)] _ (hr.keep ((Below.refl _ _).alloc (Nat.le_refl _) _)) (Rd.ofOwn ho2 (by simp))).mono ?_
        rintro e w2 ⟨v, rfl, ho3, hb3⟩
        have hb4 := hb2.trans (hb3.mono hb2.size)
        have hpe : G.prod (G.erasI n l 0) [1, G.exp (n - 1 - t)] = G.erasI n l (0 + 1) := by rw [show G.erasI n l (0 + 1) = G.prod (G.erasI n l 0) [1, G.exp (n - 1 - (ixI l 0).toNat)] from rfl, ← Hx.out, Ht.out, Int.toNat_natCast]
        rw [hpe] at ho3
        have hr3 := Rd.ofOwn ho3 (by rw [G.erasI_length]; omega)
        clear ho3 hb3 ho2 hb2 hpe
        go_wp2_with fail
        go_roundw
        case rel => exact ⟨0 + 1, by omega, by go_num, hr3, HT, hb4⟩
        case measure => simp [intOf]; omega
      obtain ⟨j, rfl⟩ : ∃ j, k = j + 1 := ⟨k - 1, by omega⟩
      have hjl : j < l.length := by omega
      obtain ⟨ha, hcp⟩ := HC.out j hjl
      have hcy : wr.cell? ⟨b, off + j, none⟩ = some (.int .i64 (ixI l j)) := (hb.cell (p := ⟨b, off + j, none⟩) (World.block_lt_of_cell? w _ hcp)).trans hcp
      have hiy := run_idx (P := Tryz.prog) Tryz.underlying53 Tryz.sizeInt (cap := cap) ha hjl _ rfl wr
      clear ha hcp
      obtain ⟨y, hy⟩ : ∃ y, y = ixI l j := ⟨_, rfl⟩
      rw [← hy] at hcy
      have Hy := Lib.hid hy; clear hy
      have hjk : (j : Int) + 1 - 1 = j := by omega
      have hj0 : decide (0 < ((j : Int) + 1)) = true := by rw [decide_eq_true_eq]; omega
      have hix1 := run_idx (P := Tryz.prog) Tryz.underlying53 Tryz.sizeInt (cap := cap) Ha.out hlt ((j : Int) + 1) (by omega) wr
      by_cases c3 : x ≤ y
      · have hd1 : decide (x < 0) = false := decide_eq_false c1
        have hd2 : decide ((n : Int) ≤ x) = false := decide_eq_false c2
        have hd3 : decide (x ≤ y) = true := decide_eq_true c3
        have HF : Hid (G.posB n l = false) := Lib.hid (by
          rw [Bool.eq_false_iff]; intro h
          have := (G.posN_at n l hlt h).2.2 (by omega)
          rw [← Hx.out, show j + 1 - 1 = j by omega, ← Hy.out] at this; omega)
        clear c1 c2 c3
        go_wp2_with fail
        go_ret2
        exact .inl ⟨HF.out, rfl, hb⟩
      · have hd1 : decide (x < 0) = false := decide_eq_false c1
        have hd2 : decide ((n : Int) ≤ x) = false := decide_eq_false c2
        have hd3 : decide (x ≤ y) = false := decide_eq_false c3
        have HT : Hid (G.posN n l (j + 1 + 1) = true) := Lib.hid (by
          rw [G.posN, HP.out, ← Hx.out, show j + 1 - 1 = j by omega, ← Hy.out, hd1, hd2, hd3]; simp)
        obtain ⟨t, ht⟩ : ∃ t : Nat, x = (t : Int) := ⟨x.toNat, by omega⟩
        have hxn : t < n := by omega
        have Ht := Lib.hid ht; clear ht
        have hbs := hb.size
        go_wp2_with fail
        refine (locator_any s n _ t _ Ht.out hs hxn hn).mono ?_
        rintro e w1 ⟨rfl, rfl⟩
        go_wp2_with fail
        have ho2 : (wr.alloc (.cells #[B 1, B (G.exp (n - 1 - t))] 5)).ownsRow w.heap.size 5 1 (.slice (some ⟨wr.heap.size, 0, none⟩) 2 2) [1, G.exp (n - 1 - t)].length (bs [1, G.exp (n - 1 - t)]) := World.ownsRow_lit wr #[B 1, B (G.exp (n - 1 - t))] 2 hbs (by simp [maxLen]) (by simp)
        have hb2 : Below w.heap.size w (wr.alloc (.cells #[B 1, B (G.exp (n - 1 - t))] 5)) := hb.alloc hbs _
        refine (times_any _ _ (G.erasI n l (j + 1)) [1, G.exp (n - 1 - t)] _ (hr.keep ((Below.refl _ _).alloc (Nat.le_refl _) _)) (Rd.ofOwn ho2 (by simp))).mono ?_
        rintro e w2 ⟨v, rfl, ho3, hb3⟩
        have hb4 := hb2.trans (hb3.mono hb2.size)
        have hpe : G.prod (G.erasI n l (j + 1)) [1, G.exp (n - 1 - t)] = G.erasI n l ((j + 1) + 1) := by rw [show G.erasI n l ((j + 1) + 1) = G.prod (G.erasI n l (j + 1)) [1, G.exp (n - 1 - (ixI l (j + 1)).toNat)] from rfl, ← Hx.out, Ht.out, Int.toNat_natCast]
        rw [hpe] at ho3
        have hr3 := Rd.ofOwn ho3 (by rw [G.erasI_length]; omega)
        clear ho3 hb3 ho2 hb2 hpe
        go_wp2_with fail
        go_roundw
        case rel => exact ⟨(j + 1) + 1, by omega, by go_num, hr3, HT, hb4⟩
        case measure => simp [intOf]; omega
    · obtain rfl : k = l.length := by omega
      have HP' : Hid (G.posB n l = true) := HP
      go_wp2_with fail
      go_ret2
      exact .inr ⟨HP'.out, _, rfl, hr, hb⟩
theorem Rd.takeN {w : World} {a : Addr} {m n cap : Nat} {l : List UInt8} (h : Rd w (.slice (some a) (n + m) cap) l) (hl : l.length = n + m) (hn : n ≤ cap) : Rd w (.slice (some a) n cap) (l.take n) := by
  obtain ⟨h0, a', cap', b, off, e, hc, hcell⟩ := h
  have hT : (l.take n).length = n := by rw [List.length_take]; omega
  simp only [Value.slice.injEq] at e
  obtain ⟨e1, e2, e3⟩ := e
  refine ⟨by omega, some a, cap, b, off, by rw [hT], by rw [hT]; exact hn, fun i hi => ?_⟩
  rw [hT] at hi
  obtain ⟨h1, h2⟩ := hcell i (by omega)
  exact ⟨e1.trans h1, by rw [ix_take hi]; exact h2⟩
theorem start_bad (p : List UInt8) (n : Int) (ve : Value) (w : World) (hl : p.length ≤ 9223372036854775807) (h : G.shapedB p n = false) (hv : ∃ a l c, ve = .slice a l c) :
    Calls Tryz.prog 156 #[.string (str p), .int .i64 n, ve] w fun e w' => e = .returned (.tuple #[.slice none 0 0, .slice none 0 0, .int .i64 1]) ∧ w = w' := by
  have H := Lib.hid h; clear h
  obtain ⟨a, l, c, rfl⟩ := hv
  go_enter Tryz.func156, Tryz.ntmps156
  go_wp2_with fail
  refine (syndromes_bad p n _ hl H.out).mono ?_
  rintro e w' ⟨rfl, rfl⟩
  go_wp2_with fail
  go_ret3
  exact ⟨rfl, rfl⟩
theorem start_pos (p : List UInt8) (n : Nat) (ve : Value) (l : List Int) (w : World) (h : G.shapedB p n = true) (hv : RdI w ve l) (hl : l.length ≤ 1073741824) (hp : G.posB p.length l = false) :
    Calls Tryz.prog 156 #[.string (str p), .int .i64 n, ve] w fun e w' => e = .returned (.tuple #[.slice none 0 0, .slice none 0 0, .int .i64 1]) ∧ Below w.heap.size w w' := by
  obtain ⟨h1, h2, h3, h4, h5⟩ := (G.shapedB_iff p n).1 h
  have H := Lib.hid h; clear h
  have HP := Lib.hid hp; clear hp
  have hv0 := hv
  obtain ⟨_, ⟨a, c, _, _, rfl, _, _⟩, _⟩ := hv
  go_enter Tryz.func156, Tryz.ntmps156
  go_wp2_with fail
  refine (syndromes_ok p n _ H.out).mono ?_
  rintro e w1 ⟨vs, rfl, ho, hb⟩
  go_wp2_with fail
  refine (erasures_any (str p) p.length _ l _ (str_size p) h2 (hv0.keep hb) hl).mono ?_
  rintro e w2 (⟨_, rfl, hb2⟩ | ⟨hq, _⟩)
  · have hB := hb.trans (hb2.mono hb.size)
    go_wp2_with fail
    go_ret3
    exact ⟨rfl, hB⟩
  · rw [HP.out] at hq; cases hq
theorem start_many (p : List UInt8) (n : Nat) (ve : Value) (l : List Int) (w : World) (h : G.shapedB p n = true) (hv : RdI w ve l) (hl : n < l.length) (hl2 : l.length ≤ 1073741824) (hp : G.posB p.length l = true) :
    Calls Tryz.prog 156 #[.string (str p), .int .i64 n, ve] w fun e w' => e = .returned (.tuple #[.slice none 0 0, .slice none 0 0, .int .i64 11]) ∧ Below w.heap.size w w' := by
  obtain ⟨h1, h2, h3, h4, h5⟩ := (G.shapedB_iff p n).1 h
  have H := Lib.hid h; clear h
  have HP := Lib.hid hp; clear hp
  have hv0 := hv
  obtain ⟨_, ⟨a, c, _, _, rfl, _, _⟩, _⟩ := hv
  have hd : decide ((n : Int) < (l.length : Int)) = true := by rw [decide_eq_true_eq]; omega
  go_enter Tryz.func156, Tryz.ntmps156
  go_wp2_with fail
  refine (syndromes_ok p n _ H.out).mono ?_
  rintro e w1 ⟨vs, rfl, ho, hb⟩
  go_wp2_with fail
  refine (erasures_any (str p) p.length _ l _ (str_size p) h2 (hv0.keep hb) hl2).mono ?_
  rintro e w2 (⟨hq, _⟩ | ⟨_, vg, rfl, hrg, hb2⟩)
  · rw [HP.out] at hq; cases hq
  · have hB := hb.trans (hb2.mono hb.size)
    go_wp2_with fail
    go_ret3
    exact ⟨rfl, hB⟩
theorem own_pos {w : World} {base e n : Nat} {v : Value} {xs : List Value} (h : w.ownsRow base e 1 v n xs) (hn : 0 < n) : ∃ g cap, v = .slice (some ⟨g, 0, none⟩) n cap ∧ base ≤ g ∧ g < w.heap.size ∧ n ≤ cap :=
  own_some h (by
    rintro rfl
    rcases h.2 with ⟨_, h⟩ | ⟨_, _, _, h, _⟩
    · omega
    · simp at h)
theorem start_ok (p : List UInt8) (n : Nat) (ve : Value) (l : List Int) (w : World) (h : G.shapedB p n = true) (hv : RdI w ve l) (hl : l.length ≤ n) (hp : G.posB p.length l = true) :
    Calls Tryz.prog 156 #[.string (str p), .int .i64 n, ve] w fun e w' => ∃ vg ad cap, e = .returned (.tuple #[vg, .slice (some ad) n cap, .int .i64 0]) ∧
      Rd w' vg (G.erasI p.length l l.length) ∧ Rd w' (.slice (some ad) n cap) (G.xi p n l) ∧ Below w.heap.size w w' := by
  obtain ⟨h1, h2, h3, h4, h5⟩ := (G.shapedB_iff p n).1 h
  have H := Lib.hid h; clear h
  have HP := Lib.hid hp; clear hp
  have hv0 := hv
  obtain ⟨_, ⟨a, c, _, _, rfl, _, _⟩, _⟩ := hv
  have hd : decide ((n : Int) < (l.length : Int)) = false := by rw [decide_eq_false_iff_not]; omega
  go_enter Tryz.func156, Tryz.ntmps156
  go_wp2_with fail
  refine (syndromes_ok p n _ H.out).mono ?_
  rintro e w1 ⟨vs, rfl, ho, hb⟩
  go_wp2_with fail
  refine (erasures_any (str p) p.length _ l _ (str_size p) h2 (hv0.keep hb) (by omega)).mono ?_
  rintro e w2 (⟨hq, _⟩ | ⟨_, vg, rfl, hrg, hb2⟩)
  · rw [HP.out] at hq; cases hq
  · have hB := hb.trans (hb2.mono hb.size)
    have hrs : Rd w2 vs (G.synd p n) := (Rd.ofOwn' ho (by omega)).keep hb2
    clear ho hb hb2
    have hpl : (G.prod (G.synd p n) (G.erasI p.length l l.length)).length = n + l.length := by
      have e1 := G.synd_length p n
      have e2 := G.erasI_length p.length l l.length
      rw [G.prod_length _ _ (by intro e; rw [e] at e1; simp at e1; omega) (by intro e; rw [e] at e2; simp at e2), e1, e2]
      omega
    have HPL := Lib.hid hpl; clear hpl
    have hBd : Below w.heap.size w w2.drew := hB.drew
    have hrsd : Rd w2.drew vs (G.synd p n) := hrs.keepW (fun k hk => rfl)
    have hrgd : Rd w2.drew vg (G.erasI p.length l l.length) := hrg.keepW (fun k hk => rfl)
    have hBs := hBd.size
    have h00 : ¬ (n : Int) < 0 := by omega
    go_wp2_with fail
    have HCall : Hid (Calls Tryz.prog 161 #[vs, vg] w2.drew fun e w' => ∃ g cap, e = .returned (.slice (some ⟨g, 0, none⟩) (n + l.length) cap) ∧ n ≤ cap ∧ Rd w' vg (G.erasI p.length l l.length) ∧ Rd w' (.slice (some ⟨g, 0, none⟩) (n + l.length) cap) (G.prod (G.synd p n) (G.erasI p.length l l.length)) ∧ Below w.heap.size w w') := Lib.hid (by
      refine (times_any _ _ (G.synd p n) (G.erasI p.length l l.length) _ hrsd hrgd).mono ?_
      rintro e w3 ⟨v3, rfl, ho3, hb3⟩
      have hr3 := Rd.ofOwn' ho3 (by rw [HPL.out]; omega)
      rw [HPL.out] at ho3
      obtain ⟨g, cap, rfl, hg1, hg2, hcap⟩ := own_pos ho3 (by omega)
      exact ⟨g, cap, rfl, by omega, hrgd.keep hb3, hr3, hBd.trans (hb3.mono hBs)⟩)
    go_region_with (go_at_call 161; refine HCall.out.mono ?_; rintro e w3 ⟨g, cap, rfl, hncap, hrg3, hr3, hB3⟩)
    go_wp2_with fail
    go_ret3
    exact ⟨_, _, _, rfl, hrg3, hr3.takeN HPL.out hncap, hB3⟩
end Go.Proofs.YtflmjdjkfognjaaGreat
