/- The law 'masterdisc/masterdisclaw13.DefectCalls' returns true for every input, and leaves its arguments as they were. -/
import Derived.Test.YtjnedcncfdpjoaaDcP
import Derived.Test.YtjnedcncfdpjoaaInr
import Derived.Test.YtjnedcncfdpjoaaEo
import Derived.Test.YtjnedcncfdpjoaaRows
import Derived.Test.YtjnedcncfdpjoaaOpen
/- Chapter 13: the reference walked: Replace. -/
namespace Go.Proofs.Ytjnedcncfdpjoaa.D13
open Go.RowKit Go.Maps
set_option linter.unusedVariables false

def RReplP (R : (Int × Int) × Tab) (T : Tab) (vp vm : Value) (w : World) (e : Ending) (w' : World) : Prop := ∃ vm', e = .returned (.tuple #[tagg R.2 vp vm', .int .i64 R.1.1, .int .i64 R.1.2]) ∧ RfW w' vp vm' R.2 ∧ Below w.heap.size w w' ∧ ((vm' = vm ∧ R.2 = T) ∨ ∃ N, w'.ownsRow w.heap.size 53 2 vm' N (flD dRep R.2.reps))
theorem zeroTab13 : ∀ w, (zeroValue 42).run Try.prog w = .ok (.agg #[.int .i64 0, .int .i64 0, .int .i64 0, .slice none 0 0, .slice none 0 0]) w := fun _ => by kernel_rfl
abbrev tzero : List Value := [.int .i64 0, .int .i64 0, .int .i64 0, .slice none 0 0, .slice none 0 0]
/-- the two boxes of a call: the table, and the result -/
structure TwoB (w w' : World) (gb : Nat) (cs : List Value) (T : Tab) (vp vm : Value) : Prop where
  a : Bx w' gb 42 (tcell T vp vm)
  r : Bx w' (gb + 1) 42 cs
  le : Below w.heap.size w w'
  g : gb = w.heap.size
theorem TwoB.start (w : World) (T : Tab) (vp vm : Value) (cs : List Value) : TwoB w ((w.alloc (.cells #[.int .i64 T.blocks, .int .i64 T.spares, .int .i64 T.used, vp, vm] 42)).alloc (.cells cs.toArray 42)) w.heap.size cs T vp vm := by
  have hb1 := (Below.refl w.heap.size w).alloc (Nat.le_refl _) (.cells #[.int .i64 T.blocks, .int .i64 T.spares, .int .i64 T.used, vp, vm] 42)
  have h2 := Bx.new (w.alloc (.cells #[.int .i64 T.blocks, .int .i64 T.spares, .int .i64 T.used, vp, vm] 42)) 42 cs
  have e : (w.alloc (.cells #[.int .i64 T.blocks, .int .i64 T.spares, .int .i64 T.used, vp, vm] 42)).heap.size = w.heap.size + 1 := by simp
  rw [e] at h2
  exact ⟨(Bx.new w 42 (tcell T vp vm)).alloc _, h2, hb1.alloc hb1.size _, rfl⟩
section
variable {w w' w'' : World} {gb : Nat} {cs : List Value} {T : Tab} {vp vm : Value}
theorem TwoB.call (h : TwoB w w' gb cs T vp vm) (hb : Below w'.heap.size w' w'') : TwoB w w'' gb cs T vp vm := ⟨h.a.call hb, h.r.call hb, h.le.trans (hb.mono h.le.size), h.g⟩
theorem TwoB.turn {q : Nat} (h : TwoB w w' gb cs T vp vm) (ht : Turn1 q w' w'') (hq : gb + 1 < q) : TwoB w w'' gb cs T vp vm :=
  ⟨(ht.block gb h.a.lt (by omega)).trans h.a, (ht.block (gb + 1) h.r.lt (by omega)).trans h.r, h.le.trans (ht.below (by have := h.g; omega) h.le.size), h.g⟩
end
/-- 'append(out, p)' of one replacement -/
theorem wpList_apR {ops : Array Oper} {rest : List Oper} {o : Oper} {ac : Act} {Q : Exit → Act → World → Prop} {w : World} (hg : o.guard = none) (s x : Operand)
    (hop : o.op = .call { callee := .builtin .append, args := #[s, x], argTypes := #[39, 39] })
    {v : Value} {n base : Nat} {l : List (Int × Int)} (hown : w.ownsRow base 53 2 v n (flD dRep l)) (hv : ac.eval s = v) {g : Nat} (hx : ac.eval x = .slice (some ⟨g, 0, none⟩) 1 1) {p : Int × Int} (hb : Bx w g 53 (dRep p))
    (hn : n ≤ 100000) (hbase : base ≤ w.heap.size)
    (hK : ∀ v' w', w'.ownsRow base 53 2 v' (n + 1) (flD dRep (l ++ [p])) → w.grownBy w' v.ownBlock → Ap.NewOr w.heap.size v v' → wpList Try.prog ops Q rest (ac.put o.dst v') w') : wpList Try.prog ops Q (o :: rest) ac w := by
  refine Ap.wpList_apx hg s x hop Try.underlying39 Try.infoRep13 rfl (by decide) hown hv (a := ⟨g, 0, none⟩) (m := 1) (c := 1) (news := dRep p) hx (by decide) rfl (fun j u hu => ?_) (dRep_one p) (by unfold maxLen; omega) (by omega) hbase fun v' w' h1 h2 h3 => ?_
  · have e : (⟨g, 0, none⟩ : Addr).add j = ⟨g, j, none⟩ := by rw [Addr.add_lit, Nat.zero_add]
    rw [e]
    exact hb.cell hu
  · refine hK v' w' ?_ h2 h3
    rw [flD_append, flD_single]
    exact h1
set_option maxRecDepth 100000 in
set_option maxHeartbeats 2000000 in
theorem rrepl_bad {w : World} {vp vm : Value} {T : Tab} (h : RfW w vp vm T) (b : Int) (hb : In64 b) (hr : ¬ (0 ≤ b ∧ b < T.blocks)) :
    Calls Try.prog 20 #[tagg T vp vm, .int .i64 b] w (RReplP ((0, 2), T) T vp vm w) := by
  have HRW := Lib.hid h
  obtain ⟨ap, cp, am, cm, rfl, rfl⟩ := h.form
  obtain ⟨s1, s2, s3, s4, s5, s6, s7⟩ := h.small
  have H2 := Lib.hid (TwoB.start w T (.slice ap T.prim.length cp) (.slice am T.reps.length cm) (tcell T (.slice ap T.prim.length cp) (.slice am T.reps.length cm)))
  have hz := zeroTab13
  have hr2 : b < 0 ∨ (0 ≤ b ∧ (T.blocks : Int) ≤ b) := by omega
  clear hr h s7
  rcases hr2 with h0 | ⟨h0, h1⟩
  all_goals
    go_enter Try.func20, Try.ntmps20
    go_wp2_with fail
    have q0 := H2.out.r.cell (i := 0) rfl
    have q1 := H2.out.r.cell (i := 1) rfl
    have q2 := H2.out.r.cell (i := 2) rfl
    have q3 := H2.out.r.cell (i := 3) rfl
    have q4 := H2.out.r.cell (i := 4) rfl
    refine bodyPost_ret (v := .tuple #[tagg T (.slice ap T.prim.length cp) (.slice am T.reps.length cm), .int .i64 0, .int .i64 2]) (by simp [results, Try.results20, go_sem, q0, q1, q2, q3, q4]) rfl ⟨_, rfl, HRW.out.below H2.out.le, H2.out.le, .inl ⟨rfl, rfl⟩⟩
set_option maxRecDepth 100000 in
set_option maxHeartbeats 2000000 in
theorem rrepl_full {w : World} {vp vm : Value} {T : Tab} (h : RfW w vp vm T) (b : Int) (hb : In64 b) (h0 : 0 ≤ b) (h1 : b < T.blocks) (hu : T.used = T.spares) :
    Calls Try.prog 20 #[tagg T vp vm, .int .i64 b] w (RReplP ((0, 12), T) T vp vm w) := by
  have HRW := Lib.hid h
  obtain ⟨ap, cp, am, cm, rfl, rfl⟩ := h.form
  obtain ⟨s1, s2, s3, s4, s5, s6, s7⟩ := h.small
  have H2 := Lib.hid (TwoB.start w T (.slice ap T.prim.length cp) (.slice am T.reps.length cm) (tcell T (.slice ap T.prim.length cp) (.slice am T.reps.length cm)))
  have hz := zeroTab13
  have hue : ((T.used : Int) == (T.spares : Int)) = true := by rw [beq_iff_eq]; omega
  clear h s7 hu
  go_enter Try.func20, Try.ntmps20
  go_wp2_with fail
  have q0 := H2.out.r.cell (i := 0) rfl
  have q1 := H2.out.r.cell (i := 1) rfl
  have q2 := H2.out.r.cell (i := 2) rfl
  have q3 := H2.out.r.cell (i := 3) rfl
  have q4 := H2.out.r.cell (i := 4) rfl
  refine bodyPost_ret (v := .tuple #[tagg T (.slice ap T.prim.length cp) (.slice am T.reps.length cm), .int .i64 0, .int .i64 12]) (by simp [results, Try.results20, go_sem, q0, q1, q2, q3, q4]) rfl ⟨_, rfl, HRW.out.below H2.out.le, H2.out.le, .inl ⟨rfl, rfl⟩⟩
theorem filt_le (b : Int) : ∀ l : List (Int × Int), (l.filter fun p => decide (p.1 < b)).length + (l.filter fun p => decide (b < p.1)).length ≤ l.length
  | [] => by simp
  | p :: r => by
    have ih := filt_le b r
    rcases Int.lt_trichotomy p.1 b with h | h | h
    · rw [List.filter_cons_of_pos (by simpa using h), List.filter_cons_of_neg (by simp; omega), List.length_cons, List.length_cons]; omega
    · rw [List.filter_cons_of_neg (by simp; omega), List.filter_cons_of_neg (by simp; omega), List.length_cons]; omega
    · rw [List.filter_cons_of_neg (by simp; omega), List.filter_cons_of_pos (by simpa using h), List.length_cons, List.length_cons]; omega
theorem Tab.Ok.keys_repl {T : Tab} (h : T.Ok) (hk : T.keys.length ≤ T.used) {b : Int} (h0 : 0 ≤ b) (h1 : b < T.blocks) : (T.repl b).keys.length ≤ (T.repl b).used := by
  have e := congrArg List.length (h.ins_reps h0 h1)
  have hf := filt_le b T.reps
  have hl := T.reps_length
  have hl2 := (T.repl b).reps_length
  show _ ≤ T.used + 1
  unfold insL at e
  cases hd : insD b T.reps with
  | true => rw [hd] at e; simp only [if_true, List.length_append, List.length_cons, List.length_nil] at e; omega
  | false => rw [hd] at e; simp only [Bool.false_eq_true, if_false, List.length_append, List.length_cons, List.length_nil] at e; omega
theorem rdR_own {w : World} {base N : Nat} {v : Value} {l : List (Int × Int)} (h : w.ownsRow base 53 2 v N (flD dRep l)) : RdR w v l := by
  have e : N = l.length := by
    have h1 := h.1
    rw [flD_length dRep_len] at h1
    omega
  subst e
  exact RdD.ofOwn dRep_len h
/-- the last step of Replace: 'r' says whether the result is stored -/
structure RpC (w0 : World) (gb : Nat) (vp vm : Value) (T : Tab) (p : Int × Int) (N : Nat) (L : List (Int × Int)) (r : Nat) (W : World) : Prop where
  a : Bx W gb 42 (tcell T vp vm)
  r : Bx W (gb + 1) 42 (if r = 0 then tzero else tcell T vp vm)
  n : Bx W (gb + 3) 53 (dRep p)
  o : W.ownsRow (gb + 2) 53 2 vm N (flD dRep L)
  le : Below w0.heap.size w0 W
  g : gb = w0.heap.size
theorem turn5 (g : Nat) (W : World) (v0 v1 v2 v3 v4 : Value) : Turn1 g W (((((W.setCell ⟨g, 0, none⟩ v0).setCell ⟨g, 1, none⟩ v1).setCell ⟨g, 2, none⟩ v2).setCell ⟨g, 3, none⟩ v3).setCell ⟨g, 4, none⟩ v4) :=
  ((((Turn1.set g W 0 v0).trans (Turn1.set g _ 1 v1)).trans (Turn1.set g _ 2 v2)).trans (Turn1.set g _ 3 v3)).trans (Turn1.set g _ 4 v4)
theorem RpC.store {w0 W : World} {gb : Nat} {vp vm : Value} {T : Tab} {p : Int × Int} {N : Nat} {L : List (Int × Int)} (h : RpC w0 gb vp vm T p N L 0 W) :
    RpC w0 gb vp vm T p N L 1 (((((W.setCell ⟨gb + 1, 0, none⟩ (.int .i64 T.blocks)).setCell ⟨gb + 1, 1, none⟩ (.int .i64 T.spares)).setCell ⟨gb + 1, 2, none⟩ (.int .i64 T.used)).setCell ⟨gb + 1, 3, none⟩ vp).setCell ⟨gb + 1, 4, none⟩ vm) := by
  have ht := turn5 (gb + 1) W (.int .i64 T.blocks) (.int .i64 T.spares) (.int .i64 T.used) vp vm
  have hr : Bx W (gb + 1) 42 tzero := h.r
  exact ⟨(ht.block gb h.a.lt (by omega)).trans h.a, ((((hr.set 0 _).set 1 _).set 2 _).set 3 _).set 4 _, (ht.block (gb + 3) h.n.lt (by omega)).trans h.n, ht.own h.o (Nat.lt_succ_self _), h.le.trans (ht.below (by have := h.g; omega) h.le.size), h.g⟩
def rplV (gb : Nat) (T : Tab) (b : Int) (ap : Option Addr) (cp : Nat) (ar : Option Addr) (n cr : Nat) (i : Nat) (v : Value) (W : World) : Prop := match i with
  | 0 => v = tagg (T.repl b) (.slice ap T.prim.length cp) (.slice ar n cr)
  | 1 => v = .pointer (some ⟨gb, 0, none⟩)
  | 2 => v = .int .i64 T.blocks
  | 3 => v = .pointer (some ⟨gb, 3, none⟩)
  | 4 => v = .slice ap T.prim.length cp
  | 5 => v = .int .i64 T.prim.length
  | 6 => v = .int .i64 ((T.blocks : Int) + (T.prim.length : Int))
  | 7 => v = .pointer (some ⟨gb + 3, 1, none⟩)
  | 8 => v = .int .i64 T.used
  | 9 => v = .int .i64 ((T.blocks : Int) + (T.prim.length : Int) + (T.used : Int))
  | 11 => v = .int .i64 ((T.blocks : Int) + (T.prim.length : Int) + (T.used : Int))
  | 12 => v = .int .i64 0
  | _ => True
def rplVE : Nat → Option Nat
  | 10 => some 0
  | _ => none
theorem rplV_keep (gb : Nat) (T : Tab) (b : Int) (ap : Option Addr) (cp : Nat) (ar : Option Addr) (n cr : Nat) (i r : Nat) (v : Value) (W W' : World) (hk : ∀ k, rplVE i = some k → k < r) (hR : (fun _ w W => Turn1 (gb + 1) w W) r W W') (h : rplV gb T b ap cp ar n cr i v W) : rplV gb T b ap cp ar n cr i v W' := by
  unfold rplV at h ⊢
  split at h <;> first | exact h
set_option maxRecDepth 100000 in
set_option maxHeartbeats 8000000 in
theorem rrepl_ok {w : World} {vp vm : Value} {T : Tab} (h : RfW w vp vm T) (b : Int) (hb : In64 b) (h0 : 0 ≤ b) (h1 : b < T.blocks) (hu : T.used < T.spares) :
    Calls Try.prog 20 #[tagg T vp vm, .int .i64 b] w (RReplP (((T.first : Int) + T.used, 0), T.repl b) T vp vm w) := by
  have HRW := Lib.hid h
  obtain ⟨ap, cp, am, cm, rfl, rfl⟩ := h.form
  obtain ⟨s1, s2, s3, s4, s5, s6, s7⟩ := h.small
  have H2 := Lib.hid (TwoB.start w T (.slice ap T.prim.length cp) (.slice am T.reps.length cm) tzero)
  have hz := zeroTab13
  have hue : ((T.used : Int) == (T.spares : Int)) = false := by rw [beq_eq_false_iff_ne]; omega
  have HU := Lib.hid hu
  have HKL := Lib.hid (HRW.out.ok.keys_repl HRW.out.kl h0 h1)
  clear h s7 hu
  have c0 := H2.out.a.cell (i := 0) rfl
  go_enter Try.func20, Try.ntmps20
  go_wp2_with fail
  obtain ⟨w2, hw2⟩ : ∃ w2, w2 = (w.alloc (.cells #[.int .i64 T.blocks, .int .i64 T.spares, .int .i64 T.used, .slice ap T.prim.length cp, .slice am T.reps.length cm] 42)).alloc (.cells #[.int .i64 0, .int .i64 0, .int .i64 0, .slice none 0 0, .slice none 0 0] 42) := ⟨_, rfl⟩
  have H2' := H2.out
  rw [show (tzero : List Value).toArray = #[.int .i64 0, .int .i64 0, .int .i64 0, .slice none 0 0, .slice none 0 0] from rfl, ← hw2] at H2'
  have hs2 : w2.heap.size = w.heap.size + 2 := by rw [hw2]; simp
  rw [← hw2]
  have hA := (Below.refl w2.heap.size w2).alloc (Nat.le_refl _) (.cells #[] 53)
  have hs3 : (w2.alloc (.cells #[] 53)).heap.size = w.heap.size + 3 := by simp [hs2]
  have hA2 := hA.alloc hA.size (.cells #[.int .i64 b, .int .i64 T.used] 53)
  have HL4 := Lib.hid (H2'.call hA2)
  have HO4 := Lib.hid (own_mono (ownD_keep (World.ownsRow_lit w2 (e := 53) (base := w2.heap.size) (size := 2) #[] 0 (Nat.le_refl _) (by simp) (by simp)) ((Below.refl _ _).alloc (Nat.le_refl _) (.cells #[.int .i64 b, .int .i64 T.used] 53))) (show w.heap.size + 2 ≤ w2.heap.size by omega))
  have hN4 := Bx.new (w2.alloc (.cells #[] 53)) 53 (dRep (b, (T.used : Int)))
  rw [hs3] at hN4
  have HN4 := Lib.hid hN4
  rw [hs2] at HO4
  obtain ⟨w4, hw4⟩ : ∃ w4, w4 = (w2.alloc (.cells #[] 53)).alloc (.cells #[.int .i64 b, .int .i64 T.used] 53) := ⟨_, rfl⟩
  rw [← hw4] at HL4 HO4 ⊢
  rw [show (dRep (b, (T.used : Int))).toArray = #[.int .i64 b, .int .i64 T.used] from rfl, ← hw4] at HN4
  obtain ⟨gb, hgb⟩ : ∃ gb, gb = w.heap.size := ⟨_, rfl⟩
  rw [← hgb] at HL4 HO4 HN4 ⊢
  have HGB := Lib.hid hgb
  clear hgb hw4 hw2 hN4 hA2 hs3 hA hs2 H2' H2 c0
  have HSR : Hid (∀ k (hk : k < T.reps.length), ∀ q ∈ T.reps.take k, q.1 < (atD ((0 : Int), (0 : Int)) T.reps k).1) := Lib.hid (fun k hk q hq => by
    obtain ⟨j, hj, rfl⟩ := List.getElem_of_mem hq
    rw [List.getElem_take]
    rw [List.length_take] at hj
    have := List.pairwise_iff_getElem.1 (reps_sorted T) j k (by omega) hk (by omega)
    have e : atD ((0 : Int), (0 : Int)) T.reps k = T.reps[k] := by simp [atD, hk]
    rw [e]; exact this)
  go_loopw [10, 7, 8] (fun vk vr vd wr => ∃ (k n : Nat), k ≤ T.reps.length ∧ n ≤ 2 * k ∧ vk = .int .i64 k ∧ vd = .bool (insD b (T.reps.take k)) ∧ wr.ownsRow (gb + 2) 53 2 vr n (flD dRep (insL b T.used (T.reps.take k))) ∧ Bx wr (gb + 3) 53 (dRep (b, (T.used : Int))) ∧ TwoB w wr gb tzero T (.slice ap T.prim.length cp) (.slice am T.reps.length cm) ∧ Hid (vr.ownBlock ≠ some (gb + 3))) (fun vk _ _ _ => T.reps.length - (RowKit.intOf vk).toNat)
  case atStart => exact ⟨0, 0, by omega, by omega, rfl, by simp [insD], by simpa [insL, insD, flD] using HO4.out, HN4.out, HL4.out, Lib.hid (by simp [Value.ownBlock])⟩
  case round =>
    obtain ⟨k, n, hk, hn, rfl, rfl, hO, hN, hL, HOB⟩ := hrel
    have HO := Lib.hid hO
    have HN := Lib.hid hN
    have HL := Lib.hid hL
    obtain ⟨ar, cr, rfl⟩ := ownD_form hO
    have d4 := hL.a.cell (i := 4) rfl
    have d2 := hL.a.cell (i := 2) rfl
    have y0 := hN.cell (i := 0) rfl
    have y1 := hN.cell (i := 1) rfl
    have hgl : gb + 2 ≤ wr.heap.size := by have := hL.r.lt; omega
    by_cases hlt : k < T.reps.length
    · obtain ⟨bl, off, hcell⟩ := RdD.at (HRW.out.mov.keep hL.le)
      obtain ⟨ha, hrg⟩ := hcell k hlt
      have hix := fun w' => run_idxS Try.underlying39 Try.sizeRep13 (cap := cm) ha hlt (k : Int) rfl w'
      have x0 := hrg 0 _ rfl
      have x1 := hrg 1 _ rfl
      simp only [Nat.add_zero] at x0
      have HTK : Hid (T.reps.take (k + 1) = T.reps.take k ++ [atD ((0 : Int), (0 : Int)) T.reps k]) := Lib.hid (by
        rw [List.take_succ_eq_append_getElem hlt]; simp [atD, hlt])
      have HSN := Lib.hid (insL_snoc b T.used (T.reps.take k) (atD ((0 : Int), (0 : Int)) T.reps k) (HSR.out k hlt))
      have HDN := Lib.hid (insD_snoc b (T.reps.take k) (atD ((0 : Int), (0 : Int)) T.reps k))
      have hdcase : insD b (T.reps.take k) = true → b < (atD ((0 : Int), (0 : Int)) T.reps k).1 := fun hd => by
        unfold insD at hd
        rw [List.any_eq_true] at hd
        obtain ⟨q, hq, hqb⟩ := hd
        have := HSR.out k hlt q hq
        simp only [decide_eq_true_eq] at hqb
        omega
      have HPM := Lib.hid (HRW.out.ok.keys_le _ (atD_mem (d := ((0 : Int), (0 : Int))) hlt))
      obtain ⟨p, hpe⟩ : ∃ p, atD ((0 : Int), (0 : Int)) T.reps k = p := ⟨_, rfl⟩
      have HPE := Lib.hid hpe
      rw [hpe] at HTK HSN HDN HPM x0 x1 hdcase
      clear hpe
      obtain ⟨px, py⟩ := p
      obtain ⟨dn, hdn⟩ : ∃ dn, insD b (T.reps.take k) = dn := ⟨_, rfl⟩
      rw [hdn] at HDN HSN hdcase ⊢
      have HA := Lib.hid ha
      clear ha hrg hcell hO hN hL hdn
      have HPQ : Hid (Bx (wr.alloc (.cells #[.int .i64 px, .int .i64 py] 53)) wr.heap.size 53 (dRep (px, py))) := Lib.hid (Bx.new wr 53 (dRep (px, py)))
      have HNQ : Hid (Bx (wr.alloc (.cells #[.int .i64 b, .int .i64 T.used] 53)) wr.heap.size 53 (dRep (b, (T.used : Int)))) := Lib.hid (Bx.new wr 53 (dRep (b, (T.used : Int))))
      have hcase : (dn = true ∧ b < px) ∨ (dn = false ∧ px < b) ∨ (dn = false ∧ px = b) ∨ (dn = false ∧ b < px) := by
        cases dn with
        | true => exact .inl ⟨rfl, hdcase rfl⟩
        | false =>
          rcases Int.lt_trichotomy px b with h | h | h
          · exact .inr (.inl ⟨rfl, h⟩)
          · exact .inr (.inr (.inl ⟨rfl, h⟩))
          · exact .inr (.inr (.inr ⟨rfl, h⟩))
      clear hdcase
      rcases hcase with ⟨rfl, hc⟩ | ⟨rfl, hc⟩ | ⟨rfl, hc⟩ | ⟨rfl, hc⟩
      · have hA8 := (Below.refl wr.heap.size wr).alloc (Nat.le_refl _) (.cells #[.int .i64 px, .int .i64 py] 53)
        have hO8 := ownD_keep HO.out hA8
        have hN8 := HN.out.call hA8
        have HL8 := Lib.hid (HL.out.call hA8)
        have HNx8 := Lib.hid hN8
        have hsz8 : gb + 2 ≤ (wr.alloc (.cells #[.int .i64 px, .int .i64 py] 53)).heap.size := by have := hA8.size; have := HN.out.lt; omega
        have hq8 := HPQ.out
        clear hA8 hN8
        go_wp2_with (at_builtin; refine wpList_apR rfl _ _ rfl hO8 rfl rfl hq8 (by omega) hsz8 ?_; intro v8 w8 hown8 hgr8 hno8)
        have HB8 := Lib.hid (Ap.bx_off HNx8.out hgr8 HOB.out)
        have HOB8 : Hid (v8.ownBlock ≠ some (gb + 3)) := Lib.hid (fun e => by
          rcases hno8 _ e with h | h
          · exact HOB.out h
          · have := HNx8.out.lt; omega)
        have HT8 : Hid (TwoB w w8 gb tzero T (.slice ap T.prim.length cp) (.slice am T.reps.length cm)) := Lib.hid ⟨Ap.bx_off HL8.out.a hgr8 (fun e => by have := ownD_block hO8 _ e; omega), Ap.bx_off HL8.out.r hgr8 (fun e => by have := ownD_block hO8 _ e; omega), HL8.out.le.grown hgr8 HL8.out.le.size (fun j hj => by have := ownD_block hO8 j hj; have := HGB.out; omega), HL8.out.g⟩
        have HW8 := Lib.hid hown8
        have HE : Hid (insL b T.used (T.reps.take (k + 1)) = insL b T.used (T.reps.take k) ++ [(px, py)]) := Lib.hid (by rw [HTK.out, HSN.out]; simp [show px ≠ b by omega])
        have HD : Hid (insD b (T.reps.take (k + 1)) = true) := Lib.hid (by rw [HTK.out, HDN.out]; rfl)
        clear hO8 hgr8 hno8 hown8 hsz8 hq8
        go_roundw
        case rel => exact ⟨k + 1, n + 1, by omega, by omega, by go_num, by rw [HD.out], by rw [HE.out]; exact HW8.out, HB8.out, HT8.out, HOB8⟩
        case measure => simp [RowKit.intOf]; omega

      · have hA8 := (Below.refl wr.heap.size wr).alloc (Nat.le_refl _) (.cells #[.int .i64 px, .int .i64 py] 53)
        have hO8 := ownD_keep HO.out hA8
        have hN8 := HN.out.call hA8
        have HL8 := Lib.hid (HL.out.call hA8)
        have HNx8 := Lib.hid hN8
        have hsz8 : gb + 2 ≤ (wr.alloc (.cells #[.int .i64 px, .int .i64 py] 53)).heap.size := by have := hA8.size; have := HN.out.lt; omega
        have hq8 := HPQ.out
        clear hA8 hN8
        go_wp2_with (at_builtin; refine wpList_apR rfl _ _ rfl hO8 rfl rfl hq8 (by omega) hsz8 ?_; intro v8 w8 hown8 hgr8 hno8)
        have HB8 := Lib.hid (Ap.bx_off HNx8.out hgr8 HOB.out)
        have HOB8 : Hid (v8.ownBlock ≠ some (gb + 3)) := Lib.hid (fun e => by
          rcases hno8 _ e with h | h
          · exact HOB.out h
          · have := HNx8.out.lt; omega)
        have HT8 : Hid (TwoB w w8 gb tzero T (.slice ap T.prim.length cp) (.slice am T.reps.length cm)) := Lib.hid ⟨Ap.bx_off HL8.out.a hgr8 (fun e => by have := ownD_block hO8 _ e; omega), Ap.bx_off HL8.out.r hgr8 (fun e => by have := ownD_block hO8 _ e; omega), HL8.out.le.grown hgr8 HL8.out.le.size (fun j hj => by have := ownD_block hO8 j hj; have := HGB.out; omega), HL8.out.g⟩
        have HW8 := Lib.hid hown8
        have HE : Hid (insL b T.used (T.reps.take (k + 1)) = insL b T.used (T.reps.take k) ++ [(px, py)]) := Lib.hid (by rw [HTK.out, HSN.out]; simp [show px ≠ b by omega, show ¬ b ≤ px by omega])
        have HD : Hid (insD b (T.reps.take (k + 1)) = false) := Lib.hid (by rw [HTK.out, HDN.out]; simp; omega)
        clear hO8 hgr8 hno8 hown8 hsz8 hq8
        go_roundw
        case rel => exact ⟨k + 1, n + 1, by omega, by omega, by go_num, by rw [HD.out], by rw [HE.out]; exact HW8.out, HB8.out, HT8.out, HOB8⟩
        case measure => simp [RowKit.intOf]; omega

      · have hA8 := (Below.refl wr.heap.size wr).alloc (Nat.le_refl _) (.cells #[.int .i64 b, .int .i64 T.used] 53)
        have hO8 := ownD_keep HO.out hA8
        have hN8 := HN.out.call hA8
        have HL8 := Lib.hid (HL.out.call hA8)
        have HNx8 := Lib.hid hN8
        have hsz8 : gb + 2 ≤ (wr.alloc (.cells #[.int .i64 b, .int .i64 T.used] 53)).heap.size := by have := hA8.size; have := HN.out.lt; omega
        have hq8 := HNQ.out
        clear hA8 hN8
        go_wp2_with (first
          | (
              at_builtin
              refine wpList_apR rfl _ _ rfl hO8 rfl rfl hq8 (by omega) hsz8 ?_
              intro v8 w8 hown8 hgr8 hno8
              have HB8 := Lib.hid (Ap.bx_off HNx8.out hgr8 HOB.out)
              have HOB8 : Hid (v8.ownBlock ≠ some (gb + 3)) := Lib.hid (fun e => by
                rcases hno8 _ e with h | h
                · exact HOB.out h
                · have := HNx8.out.lt; omega)
              have HT8 : Hid (TwoB w w8 gb tzero T (.slice ap T.prim.length cp) (.slice am T.reps.length cm)) := Lib.hid ⟨Ap.bx_off HL8.out.a hgr8 (fun e => by have := ownD_block hO8 _ e; omega), Ap.bx_off HL8.out.r hgr8 (fun e => by have := ownD_block hO8 _ e; omega), HL8.out.le.grown hgr8 HL8.out.le.size (fun j hj => by have := ownD_block hO8 j hj; have := HGB.out; omega), HL8.out.g⟩
              have HW8 := Lib.hid hown8
              obtain ⟨bl2, off2, hcell2⟩ := RdD.at (HRW.out.mov.keep HT8.out.le)
              obtain ⟨ha2, hrg2⟩ := hcell2 k hlt
              have hae : bl2 = bl ∧ off2 = off := by
                have h1 := HA.out
                rw [h1] at ha2
                simpa using ha2.symm
              obtain ⟨rfl, rfl⟩ := hae
              have z0 := hrg2 0 _ rfl
              have z1 := hrg2 1 _ rfl
              rw [HPE.out] at z0 z1
              simp only [Nat.add_zero] at z0
              have e4 := HT8.out.a.cell (i := 4) rfl
              clear ha2 hrg2 hcell2
              clear hO8 hgr8 hno8 hown8 hsz8 hq8)
          | fail)
        have HE : Hid (insL b T.used (T.reps.take (k + 1)) = insL b T.used (T.reps.take k) ++ [(b, (T.used : Int))]) := Lib.hid (by rw [HTK.out, HSN.out]; simp [hc])
        have HD : Hid (insD b (T.reps.take (k + 1)) = true) := Lib.hid (by rw [HTK.out, HDN.out]; simp [hc])
        go_roundw
        case rel => exact ⟨k + 1, n + 1, by omega, by omega, by go_num, by rw [HD.out], by rw [HE.out]; exact HW8.out, HB8.out, HT8.out, HOB8⟩
        case measure => simp [RowKit.intOf]; omega

      · have hA8 := (Below.refl wr.heap.size wr).alloc (Nat.le_refl _) (.cells #[.int .i64 b, .int .i64 T.used] 53)
        have hO8 := ownD_keep HO.out hA8
        have hN8 := HN.out.call hA8
        have HL8 := Lib.hid (HL.out.call hA8)
        have HNx8 := Lib.hid hN8
        have hsz8 : gb + 2 ≤ (wr.alloc (.cells #[.int .i64 b, .int .i64 T.used] 53)).heap.size := by have := hA8.size; have := HN.out.lt; omega
        have hq8 := HNQ.out
        clear hA8 hN8
        go_wp2_with (first
          | (
              at_builtin
              refine wpList_apR rfl _ _ rfl hO8 rfl rfl hq8 (by omega) hsz8 ?_
              intro v8 w8 hown8 hgr8 hno8
              have HB8 := Lib.hid (Ap.bx_off HNx8.out hgr8 HOB.out)
              have HOB8 : Hid (v8.ownBlock ≠ some (gb + 3)) := Lib.hid (fun e => by
                rcases hno8 _ e with h | h
                · exact HOB.out h
                · have := HNx8.out.lt; omega)
              have HT8 : Hid (TwoB w w8 gb tzero T (.slice ap T.prim.length cp) (.slice am T.reps.length cm)) := Lib.hid ⟨Ap.bx_off HL8.out.a hgr8 (fun e => by have := ownD_block hO8 _ e; omega), Ap.bx_off HL8.out.r hgr8 (fun e => by have := ownD_block hO8 _ e; omega), HL8.out.le.grown hgr8 HL8.out.le.size (fun j hj => by have := ownD_block hO8 j hj; have := HGB.out; omega), HL8.out.g⟩
              have HW8 := Lib.hid hown8
              obtain ⟨bl2, off2, hcell2⟩ := RdD.at (HRW.out.mov.keep HT8.out.le)
              obtain ⟨ha2, hrg2⟩ := hcell2 k hlt
              have hae : bl2 = bl ∧ off2 = off := by
                have h1 := HA.out
                rw [h1] at ha2
                simpa using ha2.symm
              obtain ⟨rfl, rfl⟩ := hae
              have z0 := hrg2 0 _ rfl
              have z1 := hrg2 1 _ rfl
              rw [HPE.out] at z0 z1
              simp only [Nat.add_zero] at z0
              have e4 := HT8.out.a.cell (i := 4) rfl
              clear ha2 hrg2 hcell2
              have HPQ2 : Hid (Bx (w8.alloc (.cells #[.int .i64 px, .int .i64 py] 53)) w8.heap.size 53 (dRep (px, py))) := Lib.hid (Bx.new w8 53 (dRep (px, py)))
              obtain ⟨a8, c8, rfl⟩ := ownD_form hown8
              clear hO8 hgr8 hno8 hown8 hsz8 hq8
              have hA9 := (Below.refl w8.heap.size w8).alloc (Nat.le_refl _) (.cells #[.int .i64 px, .int .i64 py] 53)
              have hO9 := ownD_keep HW8.out hA9
              have hN9 := HB8.out.call hA9
              have HL9 := Lib.hid (HT8.out.call hA9)
              have HNx9 := Lib.hid hN9
              have hsz9 : gb + 2 ≤ (w8.alloc (.cells #[.int .i64 px, .int .i64 py] 53)).heap.size := by have := hA9.size; have := HB8.out.lt; omega
              have hq9 := HPQ2.out
              clear hA9 hN9)
          | (at_builtin; refine wpList_apR rfl _ _ rfl hO9 rfl rfl hq9 (by omega) hsz9 ?_; intro v9 w9 hown9 hgr9 hno9)
          | fail)
        have HB9 := Lib.hid (Ap.bx_off HNx9.out hgr9 HOB8.out)
        have HOB9 : Hid (v9.ownBlock ≠ some (gb + 3)) := Lib.hid (fun e => by
          rcases hno9 _ e with h | h
          · exact HOB8.out h
          · have := HNx9.out.lt; omega)
        have HT9 : Hid (TwoB w w9 gb tzero T (.slice ap T.prim.length cp) (.slice am T.reps.length cm)) := Lib.hid ⟨Ap.bx_off HL9.out.a hgr9 (fun e => by have := ownD_block hO9 _ e; omega), Ap.bx_off HL9.out.r hgr9 (fun e => by have := ownD_block hO9 _ e; omega), HL9.out.le.grown hgr9 HL9.out.le.size (fun j hj => by have := ownD_block hO9 j hj; have := HGB.out; omega), HL9.out.g⟩
        have HW9 := Lib.hid hown9
        have HE : Hid (insL b T.used (T.reps.take (k + 1)) = insL b T.used (T.reps.take k) ++ [(b, (T.used : Int))] ++ [(px, py)]) := Lib.hid (by rw [HTK.out, HSN.out]; simp [show px ≠ b by omega, show b ≤ px by omega])
        have HD : Hid (insD b (T.reps.take (k + 1)) = true) := Lib.hid (by rw [HTK.out, HDN.out]; simp; omega)
        clear hO9 hgr9 hno9 hown9 hsz9 hq9
        go_roundw
        case rel => exact ⟨k + 1, n + 1 + 1, by omega, by omega, by go_num, by rw [HD.out], by rw [HE.out]; exact HW9.out, HB9.out, HT9.out, HOB9⟩
        case measure => simp [RowKit.intOf]; omega

    · obtain rfl : k = T.reps.length := by omega
      rw [List.take_length] at HO ⊢
      have HIR := Lib.hid (HRW.out.ok.ins_reps h0 h1)
      have HF := Lib.hid (first_int T)
      have HNQ : Hid (Bx (wr.alloc (.cells #[.int .i64 b, .int .i64 T.used] 53)) wr.heap.size 53 (dRep (b, (T.used : Int)))) := Lib.hid (Bx.new wr 53 (dRep (b, (T.used : Int))))
      have q2 := hL.a.cell (i := 2) rfl
      have qf := hL.a.free
      have rf := hL.r.free
      obtain ⟨dn, hdn⟩ : ∃ dn, insD b T.reps = dn := ⟨_, rfl⟩
      rw [hdn] at HIR ⊢
      clear hdn hO hN hL
      cases dn with
      | true =>
        have HE : Hid (insL b T.used T.reps = (T.repl b).reps) := Lib.hid (by have := HIR.out; simpa using this)
        go_wp2_with fail
        have hX1 := ((HL.out.a.set 4 (.slice ar n cr)).set 2 (.int .i64 ((T.used : Int) + 1)))
        have HX1 := Lib.hid (show Bx ((wr.setCell ⟨gb, 4, none⟩ (.slice ar n cr)).setCell ⟨gb, 2, none⟩ (.int .i64 ((T.used : Int) + 1))) gb 42 (tcell (T.repl b) (.slice ap T.prim.length cp) (.slice ar n cr)) from hX1)
        have HR1 := Lib.hid ((HL.out.r.far (p := ⟨gb, 4, none⟩) (by simp only; omega) (.slice ar n cr)).far (p := ⟨gb, 2, none⟩) (by simp only; omega) (.int .i64 ((T.used : Int) + 1)))
        have HN1 := Lib.hid ((HN.out.far (p := ⟨gb, 4, none⟩) (by simp only; omega) (.slice ar n cr)).far (p := ⟨gb, 2, none⟩) (by simp only; omega) (.int .i64 ((T.used : Int) + 1)))
        have HO1 := Lib.hid (ownD_far (ownD_far HO.out (p := ⟨gb, 4, none⟩) (by simp only; omega) (.slice ar n cr)) (p := ⟨gb, 2, none⟩) (by simp only; omega) (.int .i64 ((T.used : Int) + 1)))
        have HB1 := Lib.hid (((HL.out.le.setCell (p := ⟨gb, 4, none⟩) (by have := HGB.out; simp only; omega) (.slice ar n cr)).setCell (p := ⟨gb, 2, none⟩) (by have := HGB.out; simp only; omega) (.int .i64 ((T.used : Int) + 1))))
        clear hX1 qf rf q2 d4 d2 y0 y1
        generalize ((wr.setCell ⟨gb, 4, none⟩ (.slice ar n cr)).setCell ⟨gb, 2, none⟩ (.int .i64 ((T.used : Int) + 1))) = W1 at *
        have k0 := HX1.out.cell (i := 0) rfl
        have k1 := HX1.out.cell (i := 1) rfl
        have k2 := HX1.out.cell (i := 2) rfl
        have k3 := HX1.out.cell (i := 3) rfl
        have k4 := HX1.out.cell (i := 4) rfl
        have r0 := HR1.out.cell (i := 0) rfl
        have r1 := HR1.out.cell (i := 1) rfl
        have r2 := HR1.out.cell (i := 2) rfl
        have r3 := HR1.out.cell (i := 3) rfl
        have r4 := HR1.out.cell (i := 4) rfl
        have rf := HR1.out.free
        have y1 := HN1.out.cell (i := 1) rfl
        have hu1 : (T.repl b).used = T.used + 1 := rfl
        have hu2 : (T.repl b).blocks = T.blocks := rfl
        have hu3 : (T.repl b).spares = T.spares := rfl
        rw [hu1] at k2
        rw [hu2] at k0
        rw [hu3] at k1
        have hC0 : RpC w gb (.slice ap T.prim.length cp) (.slice ar n cr) (T.repl b) (b, (T.used : Int)) n (insL b T.used T.reps) 0 W1.drew := ⟨HX1.out, HR1.out, HN1.out.call ((Below.refl _ _).drew), ownD_keep HO1.out ((Below.refl _ _).drew), HB1.out.drew, HGB.out⟩
        refine wp_region_seq (by kernel_rfl) (fun _ w W => Turn1 (gb + 1) w W) (RpC w gb (.slice ap T.prim.length cp) (.slice ar n cr) (T.repl b) (b, (T.used : Int)) n (insL b T.used T.reps)) (rplV gb T b ap cp ar n cr) (fun _ => false) rplVE 1 (by kernel_rfl) (by kernel_rfl) (.inl (by kernel_rfl)) (rplV_keep gb T b ap cp ar n cr) (hC0) ⟨?_, ?_, ?_, ?_, ?_, ?_, ?_, ?_, ?_, ?_, ?_, ?_, ?_, trivial⟩ ?_
        · intro r a W hc hsz hold hdep hnot hlo hhi hrk
          have o2 : a.tmps.getD 2 undef = .pointer (some ⟨gb, 0, none⟩) := hold 2 (by kernel_rfl)
          have k0 := hc.a.cell (i := 0) rfl
          have k1 := hc.a.cell (i := 1) rfl
          have k2 := hc.a.cell (i := 2) rfl
          have k3 := hc.a.cell (i := 3) rfl
          have k4 := hc.a.cell (i := 4) rfl
          rw [show (T.repl b).used = T.used + 1 from rfl] at k2
          rw [show (T.repl b).blocks = T.blocks from rfl] at k0
          rw [show (T.repl b).spares = T.spares from rfl] at k1
          clear hsz hold hdep hnot hlo hhi hrk
          refine stepR_do rfl (wanted_none rfl) ?_
          refine stepS_val (v := tagg (T.repl b) (.slice ap T.prim.length cp) (.slice ar n cr)) (.of (Below.refl _ _)) hc rfl fun K hK => ?_
          go_simp
          exact hK
        · intro r a W hc hsz hold hdep hnot hlo hhi hrk
          have o2 : a.tmps.getD 2 undef = .pointer (some ⟨gb, 0, none⟩) := hold 2 (by kernel_rfl)
          clear hsz hold hdep hnot hlo hhi hrk
          refine stepR_do rfl (wanted_none rfl) ?_
          refine stepS_val (v := .pointer (some ⟨gb, 0, none⟩)) (.of (Below.refl _ _)) hc rfl fun K hK => ?_
          go_simp
          exact hK
        · intro r a W hc hsz hold hdep hnot hlo hhi hrk
          have d1 : a.tmps.getD 83 undef = .pointer (some ⟨gb, 0, none⟩) := hdep 1 (by kernel_rfl) rfl _ rfl
          have k0 := hc.a.cell (i := 0) rfl
          have k1 := hc.a.cell (i := 1) rfl
          have k2 := hc.a.cell (i := 2) rfl
          have k3 := hc.a.cell (i := 3) rfl
          have k4 := hc.a.cell (i := 4) rfl
          rw [show (T.repl b).used = T.used + 1 from rfl] at k2
          rw [show (T.repl b).blocks = T.blocks from rfl] at k0
          rw [show (T.repl b).spares = T.spares from rfl] at k1
          clear hsz hold hdep hnot hlo hhi hrk
          refine stepR_do rfl (wanted_none rfl) ?_
          refine stepS_val (v := .int .i64 T.blocks) (.of (Below.refl _ _)) hc rfl fun K hK => ?_
          go_simp
          exact hK
        · intro r a W hc hsz hold hdep hnot hlo hhi hrk
          have o2 : a.tmps.getD 2 undef = .pointer (some ⟨gb, 0, none⟩) := hold 2 (by kernel_rfl)
          clear hsz hold hdep hnot hlo hhi hrk
          refine stepR_do rfl (wanted_none rfl) ?_
          refine stepS_val (v := .pointer (some ⟨gb, 3, none⟩)) (.of (Below.refl _ _)) hc rfl fun K hK => ?_
          go_simp
          exact hK
        · intro r a W hc hsz hold hdep hnot hlo hhi hrk
          have d3 : a.tmps.getD 85 undef = .pointer (some ⟨gb, 3, none⟩) := hdep 3 (by kernel_rfl) rfl _ rfl
          have k0 := hc.a.cell (i := 0) rfl
          have k1 := hc.a.cell (i := 1) rfl
          have k2 := hc.a.cell (i := 2) rfl
          have k3 := hc.a.cell (i := 3) rfl
          have k4 := hc.a.cell (i := 4) rfl
          rw [show (T.repl b).used = T.used + 1 from rfl] at k2
          rw [show (T.repl b).blocks = T.blocks from rfl] at k0
          rw [show (T.repl b).spares = T.spares from rfl] at k1
          clear hsz hold hdep hnot hlo hhi hrk
          refine stepR_do rfl (wanted_none rfl) ?_
          refine stepS_val (v := .slice ap T.prim.length cp) (.of (Below.refl _ _)) hc rfl fun K hK => ?_
          go_simp
          exact hK
        · intro r a W hc hsz hold hdep hnot hlo hhi hrk
          have d4 : a.tmps.getD 86 undef = .slice ap T.prim.length cp := hdep 4 (by kernel_rfl) rfl _ rfl
          have e4 : a.tmps[86]?.getD undef = .slice ap T.prim.length cp := by rw [← Array.getD_eq_getD_getElem?]; exact d4
          clear hsz hold hdep hnot hlo hhi hrk
          refine stepR_do rfl (wanted_none rfl) ?_
          refine stepS_val (v := .int .i64 T.prim.length) (.of (Below.refl _ _)) hc rfl fun K hK => ?_
          go_simp
          exact hK
        · intro r a W hc hsz hold hdep hnot hlo hhi hrk
          have d2 : a.tmps.getD 84 undef = .int .i64 T.blocks := hdep 2 (by kernel_rfl) rfl _ rfl
          have d5 : a.tmps.getD 87 undef = .int .i64 T.prim.length := hdep 5 (by kernel_rfl) rfl _ rfl
          have hw1 : IntKind.i64.wrap ((T.blocks : Int) + (T.prim.length : Int)) = (T.blocks : Int) + (T.prim.length : Int) := IntWalk.i64_in _ (by omega)
          clear hsz hold hdep hnot hlo hhi hrk
          refine stepR_do rfl (wanted_none rfl) ?_
          refine stepS_val (v := .int .i64 ((T.blocks : Int) + (T.prim.length : Int))) (.of (Below.refl _ _)) hc rfl fun K hK => ?_
          go_simp
          exact hK
        · intro r a W hc hsz hold hdep hnot hlo hhi hrk
          have o9 : a.tmps.getD 9 undef = .pointer (some ⟨gb + 3, 0, none⟩) := hold 9 (by kernel_rfl)
          clear hsz hold hdep hnot hlo hhi hrk
          refine stepR_do rfl (wanted_none rfl) ?_
          refine stepS_val (v := .pointer (some ⟨gb + 3, 1, none⟩)) (.of (Below.refl _ _)) hc rfl fun K hK => ?_
          go_simp
          exact hK
        · intro r a W hc hsz hold hdep hnot hlo hhi hrk
          have d7 : a.tmps.getD 89 undef = .pointer (some ⟨gb + 3, 1, none⟩) := hdep 7 (by kernel_rfl) rfl _ rfl
          have y1 := hc.n.cell (i := 1) rfl
          clear hsz hold hdep hnot hlo hhi hrk
          refine stepR_do rfl (wanted_none rfl) ?_
          refine stepS_val (v := .int .i64 T.used) (.of (Below.refl _ _)) hc rfl fun K hK => ?_
          go_simp
          exact hK
        · intro r a W hc hsz hold hdep hnot hlo hhi hrk
          have d6 : a.tmps.getD 88 undef = .int .i64 ((T.blocks : Int) + (T.prim.length : Int)) := hdep 6 (by kernel_rfl) rfl _ rfl
          have d8 : a.tmps.getD 90 undef = .int .i64 T.used := hdep 8 (by kernel_rfl) rfl _ rfl
          have hw1 : IntKind.i64.wrap ((T.blocks : Int) + (T.prim.length : Int) + (T.used : Int)) = (T.blocks : Int) + (T.prim.length : Int) + (T.used : Int) := IntWalk.i64_in _ (by omega)
          clear hsz hold hdep hnot hlo hhi hrk
          refine stepR_do rfl (wanted_none rfl) ?_
          refine stepS_val (v := .int .i64 ((T.blocks : Int) + (T.prim.length : Int) + (T.used : Int))) (.of (Below.refl _ _)) hc rfl fun K hK => ?_
          go_simp
          exact hK
        · intro r a W hc hsz hold hdep hnot hlo hhi hrk
          have hr := hrk 0 rfl
          subst hr
          have o4 : a.tmps.getD 4 undef = .pointer (some ⟨gb + 1, 0, none⟩) := hold 4 (by kernel_rfl)
          have d0 : a.tmps.getD 82 undef = tagg (T.repl b) (.slice ap T.prim.length cp) (.slice ar n cr) := hdep 0 (by kernel_rfl) rfl _ rfl
          clear hsz hold hdep hnot hlo hhi hrk
          refine stepR_do rfl (wanted_none rfl) ?_
          have r0 := hc.r.cell (i := 0) rfl
          have r1 := hc.r.cell (i := 1) rfl
          have r2 := hc.r.cell (i := 2) rfl
          have r3 := hc.r.cell (i := 3) rfl
          have r4 := hc.r.cell (i := 4) rfl
          have rf := hc.r.free
          have hC1 := hc.store
          refine stepS_new (v := undef) (turn5 (gb + 1) W _ _ _ _ _) hC1 trivial fun K hK => ?_
          clear hc hC1
          have hu1 : (T.repl b).used = T.used + 1 := rfl
          have hu2 : (T.repl b).blocks = T.blocks := rfl
          have hu3 : (T.repl b).spares = T.spares := rfl
          go_simp
          exact hK
        · intro r a W hc hsz hold hdep hnot hlo hhi hrk
          have d9 : a.tmps.getD 91 undef = .int .i64 ((T.blocks : Int) + (T.prim.length : Int) + (T.used : Int)) := hdep 9 (by kernel_rfl) rfl _ rfl
          clear hsz hold hdep hnot hlo hhi hrk
          refine stepR_do rfl (wanted_none rfl) ?_
          refine stepS_val (v := .int .i64 ((T.blocks : Int) + (T.prim.length : Int) + (T.used : Int))) (.of (Below.refl _ _)) hc rfl fun K hK => ?_
          go_simp
          exact hK
        · intro r a W hc hsz hold hdep hnot hlo hhi hrk
          clear hsz hold hdep hnot hlo hhi hrk
          refine stepR_do rfl (wanted_none rfl) ?_
          refine stepS_val (v := .int .i64 0) (.of (Below.refl _ _)) hc rfl fun K hK => ?_
          go_simp
          exact hK
        · intro a W hC hd hsz hold hval
          have d4 : a.tmps.getD 4 undef = .pointer (some ⟨gb + 1, 0, none⟩) := hold 4 (by kernel_rfl)
          have d5 : a.tmps.getD 5 undef = .int .i64 ((T.blocks : Int) + (T.prim.length : Int) + (T.used : Int)) := hval 11 _ rfl rfl
          have d6 : a.tmps.getD 6 undef = .int .i64 0 := hval 12 _ rfl rfl
          clear hold
          obtain ⟨tm, df⟩ := a
          replace hd : df = [] := hd
          replace hsz : tm.size = 92 := hsz
          replace d4 : tm.getD 4 undef = .pointer (some ⟨gb + 1, 0, none⟩) := d4
          replace d5 : tm.getD 5 undef = .int .i64 ((T.blocks : Int) + (T.prim.length : Int) + (T.used : Int)) := d5
          replace d6 : tm.getD 6 undef = .int .i64 0 := d6
          subst hd
          have e : tm = List.toArray (tm.getD 0 undef :: tm.getD 1 undef :: tm.getD 2 undef :: tm.getD 3 undef :: tm.getD 4 undef :: tm.getD 5 undef :: tm.getD 6 undef :: tm.getD 7 undef :: tm.getD 8 undef :: tm.getD 9 undef :: tm.getD 10 undef :: tm.getD 11 undef :: tm.getD 12 undef :: tm.getD 13 undef :: tm.getD 14 undef :: tm.getD 15 undef :: tm.getD 16 undef :: tm.getD 17 undef :: tm.getD 18 undef :: tm.getD 19 undef :: tm.getD 20 undef :: tm.getD 21 undef :: tm.getD 22 undef :: tm.getD 23 undef :: tm.getD 24 undef :: tm.getD 25 undef :: tm.getD 26 undef :: tm.getD 27 undef :: tm.getD 28 undef :: tm.getD 29 undef :: tm.getD 30 undef :: tm.getD 31 undef :: tm.getD 32 undef :: tm.getD 33 undef :: tm.getD 34 undef :: tm.getD 35 undef :: tm.getD 36 undef :: tm.getD 37 undef :: tm.getD 38 undef :: tm.getD 39 undef :: tm.getD 40 undef :: tm.getD 41 undef :: tm.getD 42 undef :: tm.getD 43 undef :: tm.getD 44 undef :: tm.getD 45 undef :: tm.getD 46 undef :: tm.getD 47 undef :: tm.getD 48 undef :: tm.getD 49 undef :: tm.getD 50 undef :: tm.getD 51 undef :: tm.getD 52 undef :: tm.getD 53 undef :: tm.getD 54 undef :: tm.getD 55 undef :: tm.getD 56 undef :: tm.getD 57 undef :: tm.getD 58 undef :: tm.getD 59 undef :: tm.getD 60 undef :: tm.getD 61 undef :: tm.getD 62 undef :: tm.getD 63 undef :: tm.getD 64 undef :: tm.getD 65 undef :: tm.getD 66 undef :: tm.getD 67 undef :: tm.getD 68 undef :: tm.getD 69 undef :: tm.getD 70 undef :: tm.getD 71 undef :: tm.getD 72 undef :: tm.getD 73 undef :: tm.getD 74 undef :: tm.getD 75 undef :: tm.getD 76 undef :: tm.getD 77 undef :: tm.getD 78 undef :: tm.getD 79 undef :: tm.getD 80 undef :: tm.getD 81 undef :: tm.getD 82 undef :: tm.getD 83 undef :: tm.getD 84 undef :: tm.getD 85 undef :: tm.getD 86 undef :: tm.getD 87 undef :: tm.getD 88 undef :: tm.getD 89 undef :: tm.getD 90 undef :: tm.getD 91 undef :: []) := arr_eq tm 92 hsz
          rw [d4, d5, d6] at e
          clear d4 d5 d6 hsz
          generalize tm.getD 0 undef = v0 at e
          generalize tm.getD 1 undef = v1 at e
          generalize tm.getD 2 undef = v2 at e
          generalize tm.getD 3 undef = v3 at e
          generalize tm.getD 7 undef = v7 at e
          generalize tm.getD 8 undef = v8 at e
          generalize tm.getD 9 undef = v9 at e
          generalize tm.getD 10 undef = v10 at e
          generalize tm.getD 11 undef = v11 at e
          generalize tm.getD 12 undef = v12 at e
          generalize tm.getD 13 undef = v13 at e
          generalize tm.getD 14 undef = v14 at e
          generalize tm.getD 15 undef = v15 at e
          generalize tm.getD 16 undef = v16 at e
          generalize tm.getD 17 undef = v17 at e
          generalize tm.getD 18 undef = v18 at e
          generalize tm.getD 19 undef = v19 at e
          generalize tm.getD 20 undef = v20 at e
          generalize tm.getD 21 undef = v21 at e
          generalize tm.getD 22 undef = v22 at e
          generalize tm.getD 23 undef = v23 at e
          generalize tm.getD 24 undef = v24 at e
          generalize tm.getD 25 undef = v25 at e
          generalize tm.getD 26 undef = v26 at e
          generalize tm.getD 27 undef = v27 at e
          generalize tm.getD 28 undef = v28 at e
          generalize tm.getD 29 undef = v29 at e
          generalize tm.getD 30 undef = v30 at e
          generalize tm.getD 31 undef = v31 at e
          generalize tm.getD 32 undef = v32 at e
          generalize tm.getD 33 undef = v33 at e
          generalize tm.getD 34 undef = v34 at e
          generalize tm.getD 35 undef = v35 at e
          generalize tm.getD 36 undef = v36 at e
          generalize tm.getD 37 undef = v37 at e
          generalize tm.getD 38 undef = v38 at e
          generalize tm.getD 39 undef = v39 at e
          generalize tm.getD 40 undef = v40 at e
          generalize tm.getD 41 undef = v41 at e
          generalize tm.getD 42 undef = v42 at e
          generalize tm.getD 43 undef = v43 at e
          generalize tm.getD 44 undef = v44 at e
          generalize tm.getD 45 undef = v45 at e
          generalize tm.getD 46 undef = v46 at e
          generalize tm.getD 47 undef = v47 at e
          generalize tm.getD 48 undef = v48 at e
          generalize tm.getD 49 undef = v49 at e
          generalize tm.getD 50 undef = v50 at e
          generalize tm.getD 51 undef = v51 at e
          generalize tm.getD 52 undef = v52 at e
          generalize tm.getD 53 undef = v53 at e
          generalize tm.getD 54 undef = v54 at e
          generalize tm.getD 55 undef = v55 at e
          generalize tm.getD 56 undef = v56 at e
          generalize tm.getD 57 undef = v57 at e
          generalize tm.getD 58 undef = v58 at e
          generalize tm.getD 59 undef = v59 at e
          generalize tm.getD 60 undef = v60 at e
          generalize tm.getD 61 undef = v61 at e
          generalize tm.getD 62 undef = v62 at e
          generalize tm.getD 63 undef = v63 at e
          generalize tm.getD 64 undef = v64 at e
          generalize tm.getD 65 undef = v65 at e
          generalize tm.getD 66 undef = v66 at e
          generalize tm.getD 67 undef = v67 at e
          generalize tm.getD 68 undef = v68 at e
          generalize tm.getD 69 undef = v69 at e
          generalize tm.getD 70 undef = v70 at e
          generalize tm.getD 71 undef = v71 at e
          generalize tm.getD 72 undef = v72 at e
          generalize tm.getD 73 undef = v73 at e
          generalize tm.getD 74 undef = v74 at e
          generalize tm.getD 75 undef = v75 at e
          generalize tm.getD 76 undef = v76 at e
          generalize tm.getD 77 undef = v77 at e
          generalize tm.getD 78 undef = v78 at e
          generalize tm.getD 79 undef = v79 at e
          generalize tm.getD 80 undef = v80 at e
          generalize tm.getD 81 undef = v81 at e
          generalize tm.getD 82 undef = v82 at e
          generalize tm.getD 83 undef = v83 at e
          generalize tm.getD 84 undef = v84 at e
          generalize tm.getD 85 undef = v85 at e
          generalize tm.getD 86 undef = v86 at e
          generalize tm.getD 87 undef = v87 at e
          generalize tm.getD 88 undef = v88 at e
          generalize tm.getD 89 undef = v89 at e
          generalize tm.getD 90 undef = v90 at e
          generalize tm.getD 91 undef = v91 at e
          subst e
          have HCE := Lib.hid hC
          have q0 := hC.r.cell (i := 0) rfl
          have q1 := hC.r.cell (i := 1) rfl
          have q2 := hC.r.cell (i := 2) rfl
          have q3 := hC.r.cell (i := 3) rfl
          have q4 := hC.r.cell (i := 4) rfl
          clear hC hval
          go_wp2_with fail
          refine bodyPost_ret (v := .tuple #[tagg (T.repl b) (.slice ap T.prim.length cp) (.slice ar n cr), .int .i64 ((T.blocks : Int) + (T.prim.length : Int) + (T.used : Int)), .int .i64 0]) (by simp [results, Try.results20, go_sem, q0, q1, q2, q3, q4]) rfl ?_
          have hro := HCE.out.o
          rw [show _ = (T.repl b).reps from HE.out] at hro
          have hgw : w.heap.size ≤ gb + 2 := by have := HCE.out.g; omega
          refine ⟨_, by rw [HF.out], ?_, HCE.out.le, .inr ⟨_, own_mono hro hgw⟩⟩
          exact ⟨HRW.out.ok.repl h0 h1 HU.out, HKL.out, HRW.out.pri.keep HCE.out.le, rdR_own hro⟩

      | false =>
        have HE : Hid (insL b T.used T.reps ++ [(b, (T.used : Int))] = (T.repl b).reps) := Lib.hid (by have := HIR.out; simpa using this)
        have hn64 : n ≤ 200 := by omega
        have hA8 := (Below.refl wr.heap.size wr).alloc (Nat.le_refl _) (.cells #[.int .i64 b, .int .i64 T.used] 53)
        have hO8 := ownD_keep HO.out hA8
        have hN8 := HN.out.call hA8
        have HL8 := Lib.hid (HL.out.call hA8)
        have HNx8 := Lib.hid hN8
        have hsz8 : gb + 2 ≤ (wr.alloc (.cells #[.int .i64 b, .int .i64 T.used] 53)).heap.size := by have := hA8.size; have := HN.out.lt; omega
        have hq8 := HNQ.out
        clear hA8 hN8
        go_wp2_with (first
          | (
              at_builtin
              refine wpList_apR rfl _ _ rfl hO8 rfl rfl hq8 (by omega) hsz8 ?_
              intro v8 w8 hown8 hgr8 hno8
              have HB8 := Lib.hid (Ap.bx_off HNx8.out hgr8 HOB.out)
              have HOB8 : Hid (v8.ownBlock ≠ some (gb + 3)) := Lib.hid (fun e => by
                rcases hno8 _ e with h | h
                · exact HOB.out h
                · have := HNx8.out.lt; omega)
              have HT8 : Hid (TwoB w w8 gb tzero T (.slice ap T.prim.length cp) (.slice am T.reps.length cm)) := Lib.hid ⟨Ap.bx_off HL8.out.a hgr8 (fun e => by have := ownD_block hO8 _ e; omega), Ap.bx_off HL8.out.r hgr8 (fun e => by have := ownD_block hO8 _ e; omega), HL8.out.le.grown hgr8 HL8.out.le.size (fun j hj => by have := ownD_block hO8 j hj; have := HGB.out; omega), HL8.out.g⟩
              have HW8 := Lib.hid hown8
              have e4 := HT8.out.a.cell (i := 4) rfl
              have e2 := HT8.out.a.cell (i := 2) rfl
              have ef := HT8.out.a.free
              obtain ⟨a8, c8, rfl⟩ := ownD_form hown8
              clear hO8 hgr8 hno8 hown8 hsz8 hq8)
          | fail)
        have hX1 := ((HT8.out.a.set 4 (.slice a8 (n + 1) c8)).set 2 (.int .i64 ((T.used : Int) + 1)))
        have HX1 := Lib.hid (show Bx ((w8.setCell ⟨gb, 4, none⟩ (.slice a8 (n + 1) c8)).setCell ⟨gb, 2, none⟩ (.int .i64 ((T.used : Int) + 1))) gb 42 (tcell (T.repl b) (.slice ap T.prim.length cp) (.slice a8 (n + 1) c8)) from hX1)
        have HR1 := Lib.hid ((HT8.out.r.far (p := ⟨gb, 4, none⟩) (by simp only; omega) (.slice a8 (n + 1) c8)).far (p := ⟨gb, 2, none⟩) (by simp only; omega) (.int .i64 ((T.used : Int) + 1)))
        have HN1 := Lib.hid ((HB8.out.far (p := ⟨gb, 4, none⟩) (by simp only; omega) (.slice a8 (n + 1) c8)).far (p := ⟨gb, 2, none⟩) (by simp only; omega) (.int .i64 ((T.used : Int) + 1)))
        have HO1 := Lib.hid (ownD_far (ownD_far HW8.out (p := ⟨gb, 4, none⟩) (by simp only; omega) (.slice a8 (n + 1) c8)) (p := ⟨gb, 2, none⟩) (by simp only; omega) (.int .i64 ((T.used : Int) + 1)))
        have HB1 := Lib.hid (((HT8.out.le.setCell (p := ⟨gb, 4, none⟩) (by have := HGB.out; simp only; omega) (.slice a8 (n + 1) c8)).setCell (p := ⟨gb, 2, none⟩) (by have := HGB.out; simp only; omega) (.int .i64 ((T.used : Int) + 1))))
        clear hX1 qf rf q2 d4 d2 y0 y1 e4 e2 ef
        generalize ((w8.setCell ⟨gb, 4, none⟩ (.slice a8 (n + 1) c8)).setCell ⟨gb, 2, none⟩ (.int .i64 ((T.used : Int) + 1))) = W1 at *
        have k0 := HX1.out.cell (i := 0) rfl
        have k1 := HX1.out.cell (i := 1) rfl
        have k2 := HX1.out.cell (i := 2) rfl
        have k3 := HX1.out.cell (i := 3) rfl
        have k4 := HX1.out.cell (i := 4) rfl
        have r0 := HR1.out.cell (i := 0) rfl
        have r1 := HR1.out.cell (i := 1) rfl
        have r2 := HR1.out.cell (i := 2) rfl
        have r3 := HR1.out.cell (i := 3) rfl
        have r4 := HR1.out.cell (i := 4) rfl
        have rf := HR1.out.free
        have y1 := HN1.out.cell (i := 1) rfl
        have hu1 : (T.repl b).used = T.used + 1 := rfl
        have hu2 : (T.repl b).blocks = T.blocks := rfl
        have hu3 : (T.repl b).spares = T.spares := rfl
        rw [hu1] at k2
        rw [hu2] at k0
        rw [hu3] at k1
        have hC0 : RpC w gb (.slice ap T.prim.length cp) (.slice a8 (n + 1) c8) (T.repl b) (b, (T.used : Int)) (n + 1) (insL b T.used T.reps ++ [(b, (T.used : Int))]) 0 W1.drew := ⟨HX1.out, HR1.out, HN1.out.call ((Below.refl _ _).drew), ownD_keep HO1.out ((Below.refl _ _).drew), HB1.out.drew, HGB.out⟩
        refine wp_region_seq (by kernel_rfl) (fun _ w W => Turn1 (gb + 1) w W) (RpC w gb (.slice ap T.prim.length cp) (.slice a8 (n + 1) c8) (T.repl b) (b, (T.used : Int)) (n + 1) (insL b T.used T.reps ++ [(b, (T.used : Int))])) (rplV gb T b ap cp a8 (n + 1) c8) (fun _ => false) rplVE 1 (by kernel_rfl) (by kernel_rfl) (.inl (by kernel_rfl)) (rplV_keep gb T b ap cp a8 (n + 1) c8) (hC0) ⟨?_, ?_, ?_, ?_, ?_, ?_, ?_, ?_, ?_, ?_, ?_, ?_, ?_, trivial⟩ ?_
        · intro r a W hc hsz hold hdep hnot hlo hhi hrk
          have o2 : a.tmps.getD 2 undef = .pointer (some ⟨gb, 0, none⟩) := hold 2 (by kernel_rfl)
          have k0 := hc.a.cell (i := 0) rfl
          have k1 := hc.a.cell (i := 1) rfl
          have k2 := hc.a.cell (i := 2) rfl
          have k3 := hc.a.cell (i := 3) rfl
          have k4 := hc.a.cell (i := 4) rfl
          rw [show (T.repl b).used = T.used + 1 from rfl] at k2
          rw [show (T.repl b).blocks = T.blocks from rfl] at k0
          rw [show (T.repl b).spares = T.spares from rfl] at k1
          clear hsz hold hdep hnot hlo hhi hrk
          refine stepR_do rfl (wanted_none rfl) ?_
          refine stepS_val (v := tagg (T.repl b) (.slice ap T.prim.length cp) (.slice a8 (n + 1) c8)) (.of (Below.refl _ _)) hc rfl fun K hK => ?_
          go_simp
          exact hK
        · intro r a W hc hsz hold hdep hnot hlo hhi hrk
          have o2 : a.tmps.getD 2 undef = .pointer (some ⟨gb, 0, none⟩) := hold 2 (by kernel_rfl)
          clear hsz hold hdep hnot hlo hhi hrk
          refine stepR_do rfl (wanted_none rfl) ?_
          refine stepS_val (v := .pointer (some ⟨gb, 0, none⟩)) (.of (Below.refl _ _)) hc rfl fun K hK => ?_
          go_simp
          exact hK
        · intro r a W hc hsz hold hdep hnot hlo hhi hrk
          have d1 : a.tmps.getD 83 undef = .pointer (some ⟨gb, 0, none⟩) := hdep 1 (by kernel_rfl) rfl _ rfl
          have k0 := hc.a.cell (i := 0) rfl
          have k1 := hc.a.cell (i := 1) rfl
          have k2 := hc.a.cell (i := 2) rfl
          have k3 := hc.a.cell (i := 3) rfl
          have k4 := hc.a.cell (i := 4) rfl
          rw [show (T.repl b).used = T.used + 1 from rfl] at k2
          rw [show (T.repl b).blocks = T.blocks from rfl] at k0
          rw [show (T.repl b).spares = T.spares from rfl] at k1
          clear hsz hold hdep hnot hlo hhi hrk
          refine stepR_do rfl (wanted_none rfl) ?_
          refine stepS_val (v := .int .i64 T.blocks) (.of (Below.refl _ _)) hc rfl fun K hK => ?_
          go_simp
          exact hK
        · intro r a W hc hsz hold hdep hnot hlo hhi hrk
          have o2 : a.tmps.getD 2 undef = .pointer (some ⟨gb, 0, none⟩) := hold 2 (by kernel_rfl)
          clear hsz hold hdep hnot hlo hhi hrk
          refine stepR_do rfl (wanted_none rfl) ?_
          refine stepS_val (v := .pointer (some ⟨gb, 3, none⟩)) (.of (Below.refl _ _)) hc rfl fun K hK => ?_
          go_simp
          exact hK
        · intro r a W hc hsz hold hdep hnot hlo hhi hrk
          have d3 : a.tmps.getD 85 undef = .pointer (some ⟨gb, 3, none⟩) := hdep 3 (by kernel_rfl) rfl _ rfl
          have k0 := hc.a.cell (i := 0) rfl
          have k1 := hc.a.cell (i := 1) rfl
          have k2 := hc.a.cell (i := 2) rfl
          have k3 := hc.a.cell (i := 3) rfl
          have k4 := hc.a.cell (i := 4) rfl
          rw [show (T.repl b).used = T.used + 1 from rfl] at k2
          rw [show (T.repl b).blocks = T.blocks from rfl] at k0
          rw [show (T.repl b).spares = T.spares from rfl] at k1
          clear hsz hold hdep hnot hlo hhi hrk
          refine stepR_do rfl (wanted_none rfl) ?_
          refine stepS_val (v := .slice ap T.prim.length cp) (.of (Below.refl _ _)) hc rfl fun K hK => ?_
          go_simp
          exact hK
        · intro r a W hc hsz hold hdep hnot hlo hhi hrk
          have d4 : a.tmps.getD 86 undef = .slice ap T.prim.length cp := hdep 4 (by kernel_rfl) rfl _ rfl
          have e4 : a.tmps[86]?.getD undef = .slice ap T.prim.length cp := by rw [← Array.getD_eq_getD_getElem?]; exact d4
          clear hsz hold hdep hnot hlo hhi hrk
          refine stepR_do rfl (wanted_none rfl) ?_
          refine stepS_val (v := .int .i64 T.prim.length) (.of (Below.refl _ _)) hc rfl fun K hK => ?_
          go_simp
          exact hK
        · intro r a W hc hsz hold hdep hnot hlo hhi hrk
          have d2 : a.tmps.getD 84 undef = .int .i64 T.blocks := hdep 2 (by kernel_rfl) rfl _ rfl
          have d5 : a.tmps.getD 87 undef = .int .i64 T.prim.length := hdep 5 (by kernel_rfl) rfl _ rfl
          have hw1 : IntKind.i64.wrap ((T.blocks : Int) + (T.prim.length : Int)) = (T.blocks : Int) + (T.prim.length : Int) := IntWalk.i64_in _ (by omega)
          clear hsz hold hdep hnot hlo hhi hrk
          refine stepR_do rfl (wanted_none rfl) ?_
          refine stepS_val (v := .int .i64 ((T.blocks : Int) + (T.prim.length : Int))) (.of (Below.refl _ _)) hc rfl fun K hK => ?_
          go_simp
          exact hK
        · intro r a W hc hsz hold hdep hnot hlo hhi hrk
          have o9 : a.tmps.getD 9 undef = .pointer (some ⟨gb + 3, 0, none⟩) := hold 9 (by kernel_rfl)
          clear hsz hold hdep hnot hlo hhi hrk
          refine stepR_do rfl (wanted_none rfl) ?_
          refine stepS_val (v := .pointer (some ⟨gb + 3, 1, none⟩)) (.of (Below.refl _ _)) hc rfl fun K hK => ?_
          go_simp
          exact hK
        · intro r a W hc hsz hold hdep hnot hlo hhi hrk
          have d7 : a.tmps.getD 89 undef = .pointer (some ⟨gb + 3, 1, none⟩) := hdep 7 (by kernel_rfl) rfl _ rfl
          have y1 := hc.n.cell (i := 1) rfl
          clear hsz hold hdep hnot hlo hhi hrk
          refine stepR_do rfl (wanted_none rfl) ?_
          refine stepS_val (v := .int .i64 T.used) (.of (Below.refl _ _)) hc rfl fun K hK => ?_
          go_simp
          exact hK
        · intro r a W hc hsz hold hdep hnot hlo hhi hrk
          have d6 : a.tmps.getD 88 undef = .int .i64 ((T.blocks : Int) + (T.prim.length : Int)) := hdep 6 (by kernel_rfl) rfl _ rfl
          have d8 : a.tmps.getD 90 undef = .int .i64 T.used := hdep 8 (by kernel_rfl) rfl _ rfl
          have hw1 : IntKind.i64.wrap ((T.blocks : Int) + (T.prim.length : Int) + (T.used : Int)) = (T.blocks : Int) + (T.prim.length : Int) + (T.used : Int) := IntWalk.i64_in _ (by omega)
          clear hsz hold hdep hnot hlo hhi hrk
          refine stepR_do rfl (wanted_none rfl) ?_
          refine stepS_val (v := .int .i64 ((T.blocks : Int) + (T.prim.length : Int) + (T.used : Int))) (.of (Below.refl _ _)) hc rfl fun K hK => ?_
          go_simp
          exact hK
        · intro r a W hc hsz hold hdep hnot hlo hhi hrk
          have hr := hrk 0 rfl
          subst hr
          have o4 : a.tmps.getD 4 undef = .pointer (some ⟨gb + 1, 0, none⟩) := hold 4 (by kernel_rfl)
          have d0 : a.tmps.getD 82 undef = tagg (T.repl b) (.slice ap T.prim.length cp) (.slice a8 (n + 1) c8) := hdep 0 (by kernel_rfl) rfl _ rfl
          clear hsz hold hdep hnot hlo hhi hrk
          refine stepR_do rfl (wanted_none rfl) ?_
          have r0 := hc.r.cell (i := 0) rfl
          have r1 := hc.r.cell (i := 1) rfl
          have r2 := hc.r.cell (i := 2) rfl
          have r3 := hc.r.cell (i := 3) rfl
          have r4 := hc.r.cell (i := 4) rfl
          have rf := hc.r.free
          have hC1 := hc.store
          refine stepS_new (v := undef) (turn5 (gb + 1) W _ _ _ _ _) hC1 trivial fun K hK => ?_
          clear hc hC1
          have hu1 : (T.repl b).used = T.used + 1 := rfl
          have hu2 : (T.repl b).blocks = T.blocks := rfl
          have hu3 : (T.repl b).spares = T.spares := rfl
          go_simp
          exact hK
        · intro r a W hc hsz hold hdep hnot hlo hhi hrk
          have d9 : a.tmps.getD 91 undef = .int .i64 ((T.blocks : Int) + (T.prim.length : Int) + (T.used : Int)) := hdep 9 (by kernel_rfl) rfl _ rfl
          clear hsz hold hdep hnot hlo hhi hrk
          refine stepR_do rfl (wanted_none rfl) ?_
          refine stepS_val (v := .int .i64 ((T.blocks : Int) + (T.prim.length : Int) + (T.used : Int))) (.of (Below.refl _ _)) hc rfl fun K hK => ?_
          go_simp
          exact hK
        · intro r a W hc hsz hold hdep hnot hlo hhi hrk
          clear hsz hold hdep hnot hlo hhi hrk
          refine stepR_do rfl (wanted_none rfl) ?_
          refine stepS_val (v := .int .i64 0) (.of (Below.refl _ _)) hc rfl fun K hK => ?_
          go_simp
          exact hK
        · intro a W hC hd hsz hold hval
          have d4 : a.tmps.getD 4 undef = .pointer (some ⟨gb + 1, 0, none⟩) := hold 4 (by kernel_rfl)
          have d5 : a.tmps.getD 5 undef = .int .i64 ((T.blocks : Int) + (T.prim.length : Int) + (T.used : Int)) := hval 11 _ rfl rfl
          have d6 : a.tmps.getD 6 undef = .int .i64 0 := hval 12 _ rfl rfl
          clear hold
          obtain ⟨tm, df⟩ := a
          replace hd : df = [] := hd
          replace hsz : tm.size = 92 := hsz
          replace d4 : tm.getD 4 undef = .pointer (some ⟨gb + 1, 0, none⟩) := d4
          replace d5 : tm.getD 5 undef = .int .i64 ((T.blocks : Int) + (T.prim.length : Int) + (T.used : Int)) := d5
          replace d6 : tm.getD 6 undef = .int .i64 0 := d6
          subst hd
          have e : tm = List.toArray (tm.getD 0 undef :: tm.getD 1 undef :: tm.getD 2 undef :: tm.getD 3 undef :: tm.getD 4 undef :: tm.getD 5 undef :: tm.getD 6 undef :: tm.getD 7 undef :: tm.getD 8 undef :: tm.getD 9 undef :: tm.getD 10 undef :: tm.getD 11 undef :: tm.getD 12 undef :: tm.getD 13 undef :: tm.getD 14 undef :: tm.getD 15 undef :: tm.getD 16 undef :: tm.getD 17 undef :: tm.getD 18 undef :: tm.getD 19 undef :: tm.getD 20 undef :: tm.getD 21 undef :: tm.getD 22 undef :: tm.getD 23 undef :: tm.getD 24 undef :: tm.getD 25 undef :: tm.getD 26 undef :: tm.getD 27 undef :: tm.getD 28 undef :: tm.getD 29 undef :: tm.getD 30 undef :: tm.getD 31 undef :: tm.getD 32 undef :: tm.getD 33 undef :: tm.getD 34 undef :: tm.getD 35 undef :: tm.getD 36 undef :: tm.getD 37 undef :: tm.getD 38 undef :: tm.getD 39 undef :: tm.getD 40 undef :: tm.getD 41 undef :: tm.getD 42 undef :: tm.getD 43 undef :: tm.getD 44 undef :: tm.getD 45 undef :: tm.getD 46 undef :: tm.getD 47 undef :: tm.getD 48 undef :: tm.getD 49 undef :: tm.getD 50 undef :: tm.getD 51 undef :: tm.getD 52 undef :: tm.getD 53 undef :: tm.getD 54 undef :: tm.getD 55 undef :: tm.getD 56 undef :: tm.getD 57 undef :: tm.getD 58 undef :: tm.getD 59 undef :: tm.getD 60 undef :: tm.getD 61 undef :: tm.getD 62 undef :: tm.getD 63 undef :: tm.getD 64 undef :: tm.getD 65 undef :: tm.getD 66 undef :: tm.getD 67 undef :: tm.getD 68 undef :: tm.getD 69 undef :: tm.getD 70 undef :: tm.getD 71 undef :: tm.getD 72 undef :: tm.getD 73 undef :: tm.getD 74 undef :: tm.getD 75 undef :: tm.getD 76 undef :: tm.getD 77 undef :: tm.getD 78 undef :: tm.getD 79 undef :: tm.getD 80 undef :: tm.getD 81 undef :: tm.getD 82 undef :: tm.getD 83 undef :: tm.getD 84 undef :: tm.getD 85 undef :: tm.getD 86 undef :: tm.getD 87 undef :: tm.getD 88 undef :: tm.getD 89 undef :: tm.getD 90 undef :: tm.getD 91 undef :: []) := arr_eq tm 92 hsz
          rw [d4, d5, d6] at e
          clear d4 d5 d6 hsz
          generalize tm.getD 0 undef = v0 at e
          generalize tm.getD 1 undef = v1 at e
          generalize tm.getD 2 undef = v2 at e
          generalize tm.getD 3 undef = v3 at e
          generalize tm.getD 7 undef = v7 at e
          generalize tm.getD 8 undef = v8 at e
          generalize tm.getD 9 undef = v9 at e
          generalize tm.getD 10 undef = v10 at e
          generalize tm.getD 11 undef = v11 at e
          generalize tm.getD 12 undef = v12 at e
          generalize tm.getD 13 undef = v13 at e
          generalize tm.getD 14 undef = v14 at e
          generalize tm.getD 15 undef = v15 at e
          generalize tm.getD 16 undef = v16 at e
          generalize tm.getD 17 undef = v17 at e
          generalize tm.getD 18 undef = v18 at e
          generalize tm.getD 19 undef = v19 at e
          generalize tm.getD 20 undef = v20 at e
          generalize tm.getD 21 undef = v21 at e
          generalize tm.getD 22 undef = v22 at e
          generalize tm.getD 23 undef = v23 at e
          generalize tm.getD 24 undef = v24 at e
          generalize tm.getD 25 undef = v25 at e
          generalize tm.getD 26 undef = v26 at e
          generalize tm.getD 27 undef = v27 at e
          generalize tm.getD 28 undef = v28 at e
          generalize tm.getD 29 undef = v29 at e
          generalize tm.getD 30 undef = v30 at e
          generalize tm.getD 31 undef = v31 at e
          generalize tm.getD 32 undef = v32 at e
          generalize tm.getD 33 undef = v33 at e
          generalize tm.getD 34 undef = v34 at e
          generalize tm.getD 35 undef = v35 at e
          generalize tm.getD 36 undef = v36 at e
          generalize tm.getD 37 undef = v37 at e
          generalize tm.getD 38 undef = v38 at e
          generalize tm.getD 39 undef = v39 at e
          generalize tm.getD 40 undef = v40 at e
          generalize tm.getD 41 undef = v41 at e
          generalize tm.getD 42 undef = v42 at e
          generalize tm.getD 43 undef = v43 at e
          generalize tm.getD 44 undef = v44 at e
          generalize tm.getD 45 undef = v45 at e
          generalize tm.getD 46 undef = v46 at e
          generalize tm.getD 47 undef = v47 at e
          generalize tm.getD 48 undef = v48 at e
          generalize tm.getD 49 undef = v49 at e
          generalize tm.getD 50 undef = v50 at e
          generalize tm.getD 51 undef = v51 at e
          generalize tm.getD 52 undef = v52 at e
          generalize tm.getD 53 undef = v53 at e
          generalize tm.getD 54 undef = v54 at e
          generalize tm.getD 55 undef = v55 at e
          generalize tm.getD 56 undef = v56 at e
          generalize tm.getD 57 undef = v57 at e
          generalize tm.getD 58 undef = v58 at e
          generalize tm.getD 59 undef = v59 at e
          generalize tm.getD 60 undef = v60 at e
          generalize tm.getD 61 undef = v61 at e
          generalize tm.getD 62 undef = v62 at e
          generalize tm.getD 63 undef = v63 at e
          generalize tm.getD 64 undef = v64 at e
          generalize tm.getD 65 undef = v65 at e
          generalize tm.getD 66 undef = v66 at e
          generalize tm.getD 67 undef = v67 at e
          generalize tm.getD 68 undef = v68 at e
          generalize tm.getD 69 undef = v69 at e
          generalize tm.getD 70 undef = v70 at e
          generalize tm.getD 71 undef = v71 at e
          generalize tm.getD 72 undef = v72 at e
          generalize tm.getD 73 undef = v73 at e
          generalize tm.getD 74 undef = v74 at e
          generalize tm.getD 75 undef = v75 at e
          generalize tm.getD 76 undef = v76 at e
          generalize tm.getD 77 undef = v77 at e
          generalize tm.getD 78 undef = v78 at e
          generalize tm.getD 79 undef = v79 at e
          generalize tm.getD 80 undef = v80 at e
          generalize tm.getD 81 undef = v81 at e
          generalize tm.getD 82 undef = v82 at e
          generalize tm.getD 83 undef = v83 at e
          generalize tm.getD 84 undef = v84 at e
          generalize tm.getD 85 undef = v85 at e
          generalize tm.getD 86 undef = v86 at e
          generalize tm.getD 87 undef = v87 at e
          generalize tm.getD 88 undef = v88 at e
          generalize tm.getD 89 undef = v89 at e
          generalize tm.getD 90 undef = v90 at e
          generalize tm.getD 91 undef = v91 at e
          subst e
          have HCE := Lib.hid hC
          have q0 := hC.r.cell (i := 0) rfl
          have q1 := hC.r.cell (i := 1) rfl
          have q2 := hC.r.cell (i := 2) rfl
          have q3 := hC.r.cell (i := 3) rfl
          have q4 := hC.r.cell (i := 4) rfl
          clear hC hval
          go_wp2_with fail
          refine bodyPost_ret (v := .tuple #[tagg (T.repl b) (.slice ap T.prim.length cp) (.slice a8 (n + 1) c8), .int .i64 ((T.blocks : Int) + (T.prim.length : Int) + (T.used : Int)), .int .i64 0]) (by simp [results, Try.results20, go_sem, q0, q1, q2, q3, q4]) rfl ?_
          have hro := HCE.out.o
          rw [show _ = (T.repl b).reps from HE.out] at hro
          have hgw : w.heap.size ≤ gb + 2 := by have := HCE.out.g; omega
          refine ⟨_, by rw [HF.out], ?_, HCE.out.le, .inr ⟨_, own_mono hro hgw⟩⟩
          exact ⟨HRW.out.ok.repl h0 h1 HU.out, HKL.out, HRW.out.pri.keep HCE.out.le, rdR_own hro⟩

end Go.Proofs.Ytjnedcncfdpjoaa.D13
/- Chapter 13: the reference walked: Replace as a whole, New, Encode, Same. -/
namespace Go.Proofs.Ytjnedcncfdpjoaa.D13
open Go.RowKit Go.Maps
set_option linter.unusedVariables false

theorem rreplace13 {w : World} {vp vm : Value} {T : Tab} (h : RfW w vp vm T) (b : Int) (hb : In64 b) :
    Calls Try.prog 20 #[tagg T vp vm, .int .i64 b] w (RReplP (replR T b) T vp vm w) := by
  rcases replR_cases h.ok.us b with ⟨hv, he⟩ | ⟨hv, hu, he⟩ | ⟨hv, hu, he⟩
  · rw [he]; exact rrepl_bad h b hb hv
  · rw [he]; exact rrepl_full h b hb hv.1 hv.2 hu
  · rw [he]; exact rrepl_ok h b hb hv.1 hv.2 hu
/-- what New gives: a table, if the arguments are those of one -/
def RNewP (b s : Int) (l : List Int) (w : World) (e : Ending) (w' : World) : Prop :=
  Below w.heap.size w w' ∧ ((shp b s l ∧ ∃ vp, e = .returned (.tuple #[tagg (tab0 b s l) vp (.slice none 0 0), .int .i64 0]) ∧ RfW w' vp (.slice none 0 0) (tab0 b s l) ∧ w'.ownsRow w.heap.size 3 1 vp l.length (is l)) ∨ (¬ shp b s l ∧ e = .returned (.tuple #[.agg #[.int .i64 0, .int .i64 0, .int .i64 0, .slice none 0 0, .slice none 0 0], .int .i64 1])))
theorem tab0_keys (b s : Int) (l : List Int) : (tab0 b s l).keys = [] := by
  unfold Tab.keys tab0
  simp
theorem rfW_tab0 {w : World} {b s : Int} {l : List Int} {vp : Value} (h : shp b s l) (hp : RdI w vp l) : RfW w vp (.slice none 0 0) (tab0 b s l) := by
  refine ⟨h.ok, by rw [tab0_keys]; exact Nat.zero_le _, hp, ?_⟩
  have e : (tab0 b s l).reps = [] := by unfold Tab.reps; rw [tab0_keys]; rfl
  rw [e]
  exact RdD.nil w
set_option maxRecDepth 100000 in
set_option maxHeartbeats 4000000 in
theorem rnew_bad1 (b s : Int) (hb : In64 b) (hs : In64 s) (v : Value) (l : List Int) (w : World) (hv : RdI w v l) (h : ¬ (1 ≤ b ∧ b ≤ 4096 ∧ 0 ≤ s ∧ s ≤ 64 ∧ l.length ≤ 256)) :
    Calls Try.prog 19 #[.int .i64 b, .int .i64 s, v] w (RNewP b s l w) := by
  have HS : Hid (¬ shp b s l) := Lib.hid fun e => h e.1
  obtain ⟨a, c, rfl⟩ := RdI.formD hv
  have hl := hv.1
  obtain ⟨b1, b2⟩ := hb
  obtain ⟨s1, s2⟩ := hs
  have hcase : b < 1 ∨ (¬ b < 1 ∧ 4096 < b) ∨ (¬ b < 1 ∧ ¬ 4096 < b ∧ s < 0) ∨ (¬ b < 1 ∧ ¬ 4096 < b ∧ ¬ s < 0 ∧ 64 < s) ∨ (¬ b < 1 ∧ ¬ 4096 < b ∧ ¬ s < 0 ∧ ¬ 64 < s ∧ 256 < l.length) := by omega
  have hz := zeroTab13
  have HX := Lib.hid (Bx.new w 42 tzero)
  have HL := Lib.hid ((Below.refl w.heap.size w).alloc (Nat.le_refl _) (.cells tzero.toArray 42))
  clear h hv
  generalize l.length = n at *
  rcases hcase with g1 | ⟨g1, g2⟩ | ⟨g1, g2, g3⟩ | ⟨g1, g2, g3, g4⟩ | ⟨g1, g2, g3, g4, g5⟩
  all_goals
    go_enter Try.func19, Try.ntmps19
    go_wp2_with fail
    have q0 := HX.out.cell (i := 0) rfl
    have q1 := HX.out.cell (i := 1) rfl
    have q2 := HX.out.cell (i := 2) rfl
    have q3 := HX.out.cell (i := 3) rfl
    have q4 := HX.out.cell (i := 4) rfl
    refine bodyPost_ret (v := .tuple #[.agg #[.int .i64 0, .int .i64 0, .int .i64 0, .slice none 0 0, .slice none 0 0], .int .i64 1]) (by simp [results, Try.results19, go_sem, q0, q1, q2, q3, q4]) rfl ⟨HL.out, .inr ⟨HS.out, rfl⟩⟩
set_option maxRecDepth 100000 in
set_option maxHeartbeats 8000000 in
theorem rnew_good (b s : Int) (v : Value) (l : List Int) (w : World) (hv : RdI w v l) (h : 1 ≤ b ∧ b ≤ 4096 ∧ 0 ≤ s ∧ s ≤ 64 ∧ l.length ≤ 256) :
    Calls Try.prog 19 #[.int .i64 b, .int .i64 s, v] w (RNewP b s l w) := by
  have HR := Lib.hid hv.2.2
  have HV := Lib.hid hv
  obtain ⟨a, c, rfl⟩ := RdI.formD hv
  have HH := Lib.hid h
  obtain ⟨b1, b2, s1, s2, hl⟩ := h
  have hz := zeroTab13
  have hbx := Bx.new w 42 tzero
  have hbl := (Below.refl w.heap.size w).alloc (Nat.le_refl _) (.cells tzero.toArray 42)
  obtain ⟨gr, hgr⟩ : ∃ gr, gr = w.heap.size := ⟨_, rfl⟩
  obtain ⟨w2, hw2⟩ : ∃ w2, w2 = w.alloc (.cells tzero.toArray 42) := ⟨_, rfl⟩
  rw [← hw2, ← hgr] at hbx
  rw [← hw2] at hbl
  have HX := Lib.hid hbx
  have HL := Lib.hid hbl
  have HGR : Hid (w.heap.size ≤ gr) := Lib.hid (by omega)
  have HW2 := Lib.hid hw2
  have HGE := Lib.hid hgr
  obtain ⟨bl, off, hcell⟩ := RdI.at (hv.keep hbl)
  have HCE := Lib.hid hcell
  clear hv hcell hbx hbl hw2 hgr
  go_enter Try.func19, Try.ntmps19
  go_wp2_with fail
  rw [show (w.alloc (.cells #[.int .i64 0, .int .i64 0, .int .i64 0, .slice none 0 0, .slice none 0 0] 42)) = w2 from HW2.out.symm, show w.heap.size = gr from HGE.out.symm]
  go_loopw [8] (fun vi wr => ∃ i q : Nat, i ≤ l.length ∧ vi = .int .i64 i ∧ Hid (∀ j, j < i → okI b l j) ∧ wr = w2.drewN q) (fun vi _ => l.length - (RowKit.intOf vi).toNat)
  case atStart => exact ⟨0, 0, by omega, rfl, Lib.hid fun j hj => by omega, rfl⟩
  case round =>
    obtain ⟨i, q, hi, rfl, HO, rfl⟩ := hrel
    have hrf := HX.out.free
    have r0 := HX.out.cell (i := 0) rfl
    have r1 := HX.out.cell (i := 1) rfl
    have r2 := HX.out.cell (i := 2) rfl
    have r3 := HX.out.cell (i := 3) rfl
    have r4 := HX.out.cell (i := 4) rfl
    by_cases hlt : i < l.length
    · obtain ⟨ha, hq⟩ := HCE.out i hlt
      obtain ⟨x1, x2⟩ := HR.out i hlt
      have hlt' : (i : Int) < (l.length : Int) := by omega
      have hix := fun w' => run_idxS Try.underlying22 Try.sizeInt13 (cap := c) ha hlt (i : Int) rfl w'
      simp only [Nat.mul_one] at hix
      have HBAD : Hid (¬ okI b l i → ¬ shp b s l) := Lib.hid (fun hn hs => hn (hs.2 i hlt))
      have HNX : Hid (okI b l i → ∀ j, j < i + 1 → okI b l j) := Lib.hid (fun hi j hj => by
        by_cases e : j < i
        · exact HO.out j e
        · have : j = i := by omega
          rw [this]; exact hi)
      have hprev : i ≠ 0 → w2.cell? ⟨bl, off + (i - 1), none⟩ = some (Value.int .i64 (ixI l (i - 1))) := fun h => (HCE.out (i - 1) (by omega)).2
      have HOK : Hid (okI b l i ↔ 0 ≤ ixI l i ∧ ixI l i < b + l.length ∧ (0 < i → ixI l (i - 1) < ixI l i)) := Lib.hid Iff.rfl
      have hcase : ixI l i < 0 ∨ (0 ≤ ixI l i ∧ b + l.length ≤ ixI l i) ∨ (0 ≤ ixI l i ∧ ixI l i < b + l.length ∧ i = 0) ∨ (0 ≤ ixI l i ∧ ixI l i < b + l.length ∧ i ≠ 0 ∧ ixI l i ≤ ixI l (i - 1)) ∨ (0 ≤ ixI l i ∧ ixI l i < b + l.length ∧ i ≠ 0 ∧ ixI l (i - 1) < ixI l i) := by omega
      rcases hcase with k1 | ⟨k1, k2⟩ | ⟨k1, k2, rfl⟩ | ⟨k1, k2, k3, k4⟩ | ⟨k1, k2, k3, k4⟩
      · have HNO : Hid (¬ shp b s l) := Lib.hid (HBAD.out fun e => by have := HOK.out.1 e; omega)
        generalize ixI l i = p at *
        have d0 : decide (p < 0) = true := decide_eq_true k1
        have HA := Lib.hid ha
        clear hprev ha
        go_wp2_with fail
        go_quiet (fail)
        go_wp2_with fail
        have HXe := Lib.hid ((((((HX.out.drewN (q + nq)).set 0 (.int .i64 0)).set 1 (.int .i64 0)).set 2 (.int .i64 0)).set 3 (.slice none 0 0)).set 4 (.slice none 0 0))
        have HLe := Lib.hid ((Below.drewN HL.out (q + nq)).trans ((turn5 gr (w2.drewN (q + nq)) (.int .i64 0) (.int .i64 0) (.int .i64 0) (.slice none 0 0) (.slice none 0 0)).below HGR.out (Below.drewN HL.out (q + nq)).size))
        have q0 := HXe.out.cell (i := 0) rfl
        have q1 := HXe.out.cell (i := 1) rfl
        have q2 := HXe.out.cell (i := 2) rfl
        have q3 := HXe.out.cell (i := 3) rfl
        have q4 := HXe.out.cell (i := 4) rfl
        refine bodyPost_ret (v := .tuple #[.agg #[.int .i64 0, .int .i64 0, .int .i64 0, .slice none 0 0, .slice none 0 0], .int .i64 1]) (by simp [results, Try.results19, go_sem, q0, q1, q2, q3, q4]) rfl ⟨HLe.out, .inr ⟨HNO.out, rfl⟩⟩

      · have HNO : Hid (¬ shp b s l) := Lib.hid (HBAD.out fun e => by have := HOK.out.1 e; omega)
        generalize ixI l i = p at *
        have hw1 : IntKind.i64.wrap (b + (l.length : Int)) = b + (l.length : Int) := IntWalk.i64_in _ (by omega)
        have d0 : decide (p < 0) = false := decide_eq_false (by omega)
        have d1 : decide (b + (l.length : Int) ≤ p) = true := decide_eq_true k2
        have HA := Lib.hid ha
        clear hprev ha
        go_wp2_with fail
        go_quiet (fail)
        go_wp2_with fail
        have HXe := Lib.hid ((((((HX.out.drewN (q + nq)).set 0 (.int .i64 0)).set 1 (.int .i64 0)).set 2 (.int .i64 0)).set 3 (.slice none 0 0)).set 4 (.slice none 0 0))
        have HLe := Lib.hid ((Below.drewN HL.out (q + nq)).trans ((turn5 gr (w2.drewN (q + nq)) (.int .i64 0) (.int .i64 0) (.int .i64 0) (.slice none 0 0) (.slice none 0 0)).below HGR.out (Below.drewN HL.out (q + nq)).size))
        have q0 := HXe.out.cell (i := 0) rfl
        have q1 := HXe.out.cell (i := 1) rfl
        have q2 := HXe.out.cell (i := 2) rfl
        have q3 := HXe.out.cell (i := 3) rfl
        have q4 := HXe.out.cell (i := 4) rfl
        refine bodyPost_ret (v := .tuple #[.agg #[.int .i64 0, .int .i64 0, .int .i64 0, .slice none 0 0, .slice none 0 0], .int .i64 1]) (by simp [results, Try.results19, go_sem, q0, q1, q2, q3, q4]) rfl ⟨HLe.out, .inr ⟨HNO.out, rfl⟩⟩

      · have HYE := Lib.hid (HNX.out (HOK.out.2 ⟨k1, k2, fun h => by omega⟩))
        have hix0 := fun w' => run_idxS Try.underlying22 Try.sizeInt13 (cap := c) ha hlt (0 : Int) rfl w'
        simp only [Nat.mul_one, Nat.add_zero] at hix0 hq
        obtain ⟨i, hi0⟩ : ∃ i : Nat, i = 0 := ⟨_, rfl⟩
        clear HNX HBAD HOK
        generalize ixI l 0 = p at *
        have hw1 : IntKind.i64.wrap (b + (l.length : Int)) = b + (l.length : Int) := IntWalk.i64_in _ (by omega)
        have d0 : decide (p < 0) = false := decide_eq_false (by omega)
        have d1 : decide (b + (l.length : Int) ≤ p) = false := decide_eq_false (by omega)
        have HA := Lib.hid ha
        clear hprev ha
        go_wp2_with fail
        go_quiet (fail)
        go_wp2_with fail
        go_roundw
        case rel => exact ⟨0 + 1, _, by omega, by go_num, HYE, rfl⟩
        case measure => simp [RowKit.intOf]; omega

      · have HNO : Hid (¬ shp b s l) := Lib.hid (HBAD.out fun e => by have := (HOK.out.1 e).2.2 (by omega); omega)
        have hp := hprev k3
        have hix2 := fun w' => run_idxS Try.underlying22 Try.sizeInt13 (cap := c) ha (show i - 1 < l.length by omega) ((i : Int) - 1) (by omega) w'
        simp only [Nat.mul_one] at hix2
        have k5 : 0 < (i : Int) := by omega
        clear HNX HBAD HOK
        generalize ixI l (i - 1) = p0 at *
        generalize ixI l i = p at *
        have hw1 : IntKind.i64.wrap (b + (l.length : Int)) = b + (l.length : Int) := IntWalk.i64_in _ (by omega)
        have d0 : decide (p < 0) = false := decide_eq_false (by omega)
        have d1 : decide (b + (l.length : Int) ≤ p) = false := decide_eq_false (by omega)
        have hw2' : IntKind.i64.wrap ((i : Int) - 1) = (i : Int) - 1 := IntWalk.i64_in _ (by omega)
        have d2 : decide (0 < (i : Int)) = true := decide_eq_true k5
        have d2n : decide (0 < i) = true := decide_eq_true (by omega)
        have d3 : decide (p ≤ p0) = true := decide_eq_true k4
        have HA := Lib.hid ha
        clear hprev ha
        go_wp2_with fail
        go_quiet (fail)
        go_wp2_with fail
        have HXe := Lib.hid ((((((HX.out.drewN (q + nq)).set 0 (.int .i64 0)).set 1 (.int .i64 0)).set 2 (.int .i64 0)).set 3 (.slice none 0 0)).set 4 (.slice none 0 0))
        have HLe := Lib.hid ((Below.drewN HL.out (q + nq)).trans ((turn5 gr (w2.drewN (q + nq)) (.int .i64 0) (.int .i64 0) (.int .i64 0) (.slice none 0 0) (.slice none 0 0)).below HGR.out (Below.drewN HL.out (q + nq)).size))
        have q0 := HXe.out.cell (i := 0) rfl
        have q1 := HXe.out.cell (i := 1) rfl
        have q2 := HXe.out.cell (i := 2) rfl
        have q3 := HXe.out.cell (i := 3) rfl
        have q4 := HXe.out.cell (i := 4) rfl
        refine bodyPost_ret (v := .tuple #[.agg #[.int .i64 0, .int .i64 0, .int .i64 0, .slice none 0 0, .slice none 0 0], .int .i64 1]) (by simp [results, Try.results19, go_sem, q0, q1, q2, q3, q4]) rfl ⟨HLe.out, .inr ⟨HNO.out, rfl⟩⟩

      · have HYE := Lib.hid (HNX.out (HOK.out.2 ⟨k1, k2, fun _ => k4⟩))
        have hp := hprev k3
        have hix2 := fun w' => run_idxS Try.underlying22 Try.sizeInt13 (cap := c) ha (show i - 1 < l.length by omega) ((i : Int) - 1) (by omega) w'
        simp only [Nat.mul_one] at hix2
        have k5 : 0 < (i : Int) := by omega
        clear HNX HBAD HOK
        generalize ixI l (i - 1) = p0 at *
        generalize ixI l i = p at *
        have hw1 : IntKind.i64.wrap (b + (l.length : Int)) = b + (l.length : Int) := IntWalk.i64_in _ (by omega)
        have d0 : decide (p < 0) = false := decide_eq_false (by omega)
        have d1 : decide (b + (l.length : Int) ≤ p) = false := decide_eq_false (by omega)
        have hw2' : IntKind.i64.wrap ((i : Int) - 1) = (i : Int) - 1 := IntWalk.i64_in _ (by omega)
        have d2 : decide (0 < (i : Int)) = true := decide_eq_true k5
        have d2n : decide (0 < i) = true := decide_eq_true (by omega)
        have d3 : decide (p ≤ p0) = false := decide_eq_false (by omega)
        have HA := Lib.hid ha
        clear hprev ha
        go_wp2_with fail
        go_quiet (fail)
        go_wp2_with fail
        go_roundw
        case rel => exact ⟨i + 1, _, by omega, by go_num, HYE, rfl⟩
        case measure => simp [RowKit.intOf]; omega

    · obtain rfl : i = l.length := by omega
      have HSH : Hid (shp b s l) := Lib.hid ⟨HH.out, HO.out⟩
      have HXq := Lib.hid (HX.out.drewN q)
      have HLq := Lib.hid (Below.drewN HL.out q)
      have HSZ : Hid ((w2.drewN q).heap.size = gr + 1) := Lib.hid (by show w2.heap.size = _; rw [HW2.out, HGE.out]; simp)
      generalize w2.drewN q = w3 at *
      have hoE := World.ownsRow_lit w3 (e := 3) (base := gr + 1) (size := 1) #[] 0 (by rw [HSZ.out]; exact Nat.le_refl _) (by simp) (by simp)
      have hA := (Below.refl w3.heap.size w3).alloc (Nat.le_refl _) (.cells #[] 3)
      have hrd := (HV.out.keep (HLq.out.trans (hA.mono HLq.out.size))).reads
      have HXA := Lib.hid (HXq.out.call hA)
      have HLA := Lib.hid (HLq.out.trans (hA.mono HLq.out.size))
      have hbas : gr + 1 ≤ (w3.alloc (.cells #[] 3)).heap.size := by have := hA.size; have := HSZ.out; omega
      clear hA hrf r0 r1 r2 r3 r4
      go_wp2_with (first
        | (
            at_builtin
            refine wpList_appI (l := []) rfl _ _ rfl Try.underlying22 Try.infoInt13 hoE rfl hrd rfl (by omega) hbas ?_
            intro v8 w8 hown8 hgr8
            have HB8 := Lib.hid (HLA.out.grown hgr8 HLA.out.size (fun j hj => by have := ownD_block hoE j hj; have := HGE.out; omega))
            have hx8 := (hgr8.block gr HXA.out.lt (fun e => by have := ownD_block hoE gr e.symm; omega)).trans HXA.out
            have HX8 := Lib.hid (show Bx w8 gr 42 tzero from hx8)
            have hrf := HX8.out.free
            have r0 := HX8.out.cell (i := 0) rfl
            have r1 := HX8.out.cell (i := 1) rfl
            have r2 := HX8.out.cell (i := 2) rfl
            have r3 := HX8.out.cell (i := 3) rfl
            have r4 := HX8.out.cell (i := 4) rfl
            rw [Nat.zero_add, List.nil_append] at hown8
            obtain ⟨a8, c8, rfl⟩ := ownD_form hown8
            have HO8 := Lib.hid hown8
            clear hoE hrd hbas hgr8 hx8 hown8)
        | fail)
      have HXe := Lib.hid (((((HX8.out.set 0 (.int .i64 b)).set 1 (.int .i64 s)).set 2 (.int .i64 0)).set 3 (.slice a8 l.length c8)).set 4 (.slice none 0 0))
      have ht := turn5 gr w8 (.int .i64 b) (.int .i64 s) (.int .i64 0) (.slice a8 l.length c8) (.slice none 0 0)
      have HLe := Lib.hid (HB8.out.trans (ht.below HGR.out HB8.out.size))
      have HOe := Lib.hid (ht.own HO8.out (Nat.lt_succ_self _))
      have q0 := HXe.out.cell (i := 0) rfl
      have q1 := HXe.out.cell (i := 1) rfl
      have q2 := HXe.out.cell (i := 2) rfl
      have q3 := HXe.out.cell (i := 3) rfl
      have q4 := HXe.out.cell (i := 4) rfl
      have hgw : w.heap.size ≤ gr + 1 := by have := HGE.out; omega
      have hbs : ((b.toNat : Nat) : Int) = b ∧ ((s.toNat : Nat) : Int) = s := by omega
      refine bodyPost_ret (v := .tuple #[.agg #[.int .i64 b, .int .i64 s, .int .i64 0, .slice a8 l.length c8, .slice none 0 0], .int .i64 0]) (by simp [results, Try.results19, go_sem, q0, q1, q2, q3, q4]) rfl ⟨HLe.out, .inl ⟨HSH.out, .slice a8 l.length c8, ?_, rfW_tab0 HSH.out (rdI_own HOe.out rfl (by omega) (fun x hx => by
        obtain ⟨j, hj, rfl⟩ := List.getElem_of_mem hx
        have := HR.out j hj
        rwa [ixI_get hj] at this)), own_mono HOe.out hgw⟩⟩
      show _ = Ending.returned (.tuple #[.agg #[.int .i64 ((b.toNat : Nat) : Int), .int .i64 ((s.toNat : Nat) : Int), .int .i64 ((0 : Nat) : Int), .slice a8 l.length c8, .slice none 0 0], .int .i64 0])
      rw [hbs.1, hbs.2]
      rfl
theorem rnew13 (b s : Int) (hb : In64 b) (hs : In64 s) (v : Value) (l : List Int) (w : World) (hv : RdI w v l) :
    Calls Try.prog 19 #[.int .i64 b, .int .i64 s, v] w (RNewP b s l w) := by
  by_cases h : 1 ≤ b ∧ b ≤ 4096 ∧ 0 ≤ s ∧ s ≤ 64 ∧ l.length ≤ 256
  · exact rnew_good b s v l w hv h
  · exact rnew_bad1 b s hb hs v l w hv h
end Go.Proofs.Ytjnedcncfdpjoaa.D13
/- Chapter 13: the reference walked: Encode, Same. -/
namespace Go.Proofs.Ytjnedcncfdpjoaa.D13
open Go.RowKit Go.Maps
set_option linter.unusedVariables false

set_option maxRecDepth 100000 in
theorem rtwo13 (n : Int) (w : World) (hn : n ≤ 9223372036854775807) : Calls Try.prog 56 #[.int .i64 n] w fun e w' => e = .returned (.string (str (b2 n))) ∧ Below w.heap.size w w' := by
  have HB := Lib.hid (E1.rbig_any n 2 2 w rfl (by omega) (by omega) hn)
  unfold b2
  generalize E1.bigR n 2 = bg at *
  obtain ⟨b1, b2⟩ := bg
  go_enter Try.func56, Try.ntmps56
  go_wp2_with fail
  refine HB.out.mono ?_
  rintro e w' ⟨rfl, hb⟩
  go_wp2_with fail
  go_ret
  exact ⟨rfl, hb⟩
def hd5 (T : Tab) (k : Nat) : List UInt8 := magic13 ++ encL ((head13 T).take k)
theorem hd5_len (T : Tab) (k : Nat) : (hd5 T k).length ≤ 20 := by
  unfold hd5
  rw [List.length_append]
  have h1 := encL_le ((head13 T).take k)
  have h2 : ((head13 T).take k).length ≤ 5 := by rw [List.length_take]; exact Nat.min_le_right _ _
  have h3 : magic13.length = 4 := rfl
  omega
theorem hd5_step (T : Tab) (k : Nat) (x : Int) (h : (head13 T)[k]? = some x) : str (hd5 T k) ++ str (b2 x) = str (hd5 T (k + 1)) := by
  obtain ⟨hk, e⟩ := List.getElem?_eq_some_iff.1 h
  rw [str_append]
  unfold hd5
  rw [encL_take hk, ixI_get hk, e, List.append_assoc]
theorem hd5_all (T : Tab) : hd5 T 5 = magic13 ++ encL (head13 T) := rfl
def two5 (cu : List UInt8) (x y : Int) : List UInt8 := cu ++ b2 x ++ b2 y
def renV (gb : Nat) (T : Tab) (ap : Option Addr) (cp : Nat) (am : Option Addr) (cm : Nat) (i : Nat) (v : Value) (W : World) : Prop := match i with
  | 0 => v = .pointer (some ⟨gb, 0, none⟩)
  | 1 => v = .int .i64 T.blocks
  | 2 => v = .string (str (b2 (T.blocks : Nat)))
  | 3 => v = .string (str (hd5 T 1))
  | 4 => v = .pointer (some ⟨gb, 1, none⟩)
  | 5 => v = .int .i64 T.spares
  | 6 => v = .string (str (b2 (T.spares : Nat)))
  | 7 => v = .string (str (hd5 T 2))
  | 8 => v = .pointer (some ⟨gb, 3, none⟩)
  | 9 => v = .slice ap T.prim.length cp
  | 10 => v = .int .i64 T.prim.length
  | 11 => v = .string (str (b2 (T.prim.length : Nat)))
  | 12 => v = .string (str (hd5 T 3))
  | 13 => v = .pointer (some ⟨gb, 2, none⟩)
  | 14 => v = .int .i64 T.used
  | 15 => v = .string (str (b2 (T.used : Nat)))
  | 16 => v = .string (str (hd5 T 4))
  | 17 => v = .pointer (some ⟨gb, 4, none⟩)
  | 18 => v = .slice am T.reps.length cm
  | 19 => v = .int .i64 T.reps.length
  | 20 => v = .string (str (b2 (T.reps.length : Nat)))
  | 21 => v = .string (str (hd5 T 5))
  | 22 => v = .string (str (hd5 T 5))
  | _ => True
theorem renV_keep (gb : Nat) (T : Tab) (ap : Option Addr) (cp : Nat) (am : Option Addr) (cm : Nat) (i : Nat) (v : Value) (W W' : World) (hR : (fun w W => Below w.heap.size w W) W W') (h : renV gb T ap cp am cm i v W) : renV gb T ap cp am cm i v W' := by
  unfold renV at h ⊢
  split at h <;> first | exact h
def RenC (w wr : World) (gb : Nat) (cs : List Value) (r : Nat) (W : World) : Prop := r = r ∧ Bx W gb 42 cs ∧ Below w.heap.size w W ∧ Below wr.heap.size wr W
def renW (gb : Nat) (T : Tab) (am : Option Addr) (cm : Nat) (cu : List UInt8) (k bl off : Nat) (px py : Int) (i : Nat) (v : Value) (W : World) : Prop := match i with
  | 0 => v = .string (str cu)
  | 1 => v = .pointer (some ⟨gb, 4, none⟩)
  | 2 => v = .slice am T.reps.length cm
  | 3 => v = .int .i64 k
  | 4 => v = .pointer (some ⟨bl, off + k * 2, none⟩)
  | 5 => v = .pointer (some ⟨bl, off + k * 2, none⟩)
  | 6 => v = .int .i64 px
  | 7 => v = .string (str (b2 px))
  | 8 => v = .string (str (cu ++ b2 px))
  | 9 => v = .pointer (some ⟨gb, 4, none⟩)
  | 10 => v = .slice am T.reps.length cm
  | 11 => v = .int .i64 k
  | 12 => v = .pointer (some ⟨bl, off + k * 2, none⟩)
  | 13 => v = .pointer (some ⟨bl, off + k * 2 + 1, none⟩)
  | 14 => v = .int .i64 py
  | 15 => v = .string (str (b2 py))
  | 16 => v = .string (str (two5 cu px py))
  | 17 => v = .string (str (two5 cu px py))
  | _ => True
def renWE : Nat → Option Nat
  | _ => none
theorem renW_keep (gb : Nat) (T : Tab) (am : Option Addr) (cm : Nat) (cu : List UInt8) (k bl off : Nat) (px py : Int) (i r : Nat) (v : Value) (W W' : World) (hk : ∀ k, renWE i = some k → k < r) (hR : (fun _ w W => Below w.heap.size w W) r W W') (h : renW gb T am cm cu k bl off px py i v W) : renW gb T am cm cu k bl off px py i v W' := by
  unfold renW at h ⊢
  split at h <;> first | exact h
set_option maxRecDepth 100000 in
set_option maxHeartbeats 8000000 in
theorem rencode13 {w : World} {vp vm : Value} {T : Tab} (h : RfW w vp vm T) :
    Calls Try.prog 40 #[tagg T vp vm] w fun e w' => e = .returned (.string (str (enc13 T))) ∧ Below w.heap.size w w' := by
  have HRW := Lib.hid h
  obtain ⟨ap, cp, am, cm, rfl, rfl⟩ := h.form
  obtain ⟨s1, s2, s3, s4, s5, s6, s7⟩ := h.small
  have HS7 := Lib.hid s7
  have hbx := Bx.new w 42 (tcell T (.slice ap T.prim.length cp) (.slice am T.reps.length cm))
  have hbl := (Below.refl w.heap.size w).alloc (Nat.le_refl _) (.cells (tcell T (.slice ap T.prim.length cp) (.slice am T.reps.length cm)).toArray 42)
  have HX0 := Lib.hid hbx
  have HL0 := Lib.hid hbl
  clear h s7 hbx hbl
  go_enter Try.func40, Try.ntmps40
  go_upto_region 1 with (fail)
  obtain ⟨gb, hgb⟩ : ∃ gb, gb = w.heap.size := ⟨_, rfl⟩
  rw [← hgb] at HX0 ⊢
  have HGB := Lib.hid hgb
  have HW1 : Hid (w.alloc (.cells #[.int .i64 T.blocks, .int .i64 T.spares, .int .i64 T.used, .slice ap T.prim.length cp, .slice am T.reps.length cm] 42) = w.alloc (.cells (tcell T (.slice ap T.prim.length cp) (.slice am T.reps.length cm)).toArray 42)) := Lib.hid rfl
  rw [HW1.out]
  generalize (w.alloc (.cells (tcell T (.slice ap T.prim.length cp) (.slice am T.reps.length cm)).toArray 42)) = w1 at *
  clear hgb HW1
  refine wp_region_inr (by kernel_rfl) (fun w W => Below w.heap.size w W) (fun W => Bx W gb 42 (tcell T (.slice ap T.prim.length cp) (.slice am T.reps.length cm)) ∧ Below w.heap.size w W) (renV gb T ap cp am cm) (fun _ => false) (by kernel_rfl) (fun _ _ hR hc => ⟨hc.1.call hR, hc.2.trans (hR.mono hc.2.size)⟩) (renV_keep gb T ap cp am cm) (⟨HX0.out.call ((Below.refl _ _).drew), HL0.out.drew⟩) ⟨?_, ?_, ?_, ?_, ?_, ?_, ?_, ?_, ?_, ?_, ?_, ?_, ?_, ?_, ?_, ?_, ?_, ?_, ?_, ?_, ?_, ?_, ?_, trivial⟩ ?_
  · intro a W hc hsz hold hdep
    have o1 : a.tmps.getD 1 undef = .pointer (some ⟨gb, 0, none⟩) := hold 1 (by kernel_rfl)
    clear hsz hold hdep
    refine stepR_do rfl (wanted_none rfl) ?_
    refine stepR_val (v := .pointer (some ⟨gb, 0, none⟩)) (Below.refl _ _) rfl fun K hK => ?_
    go_simp
    exact hK
  · intro a W hc hsz hold hdep
    have d0 : a.tmps.getD 6 undef = .pointer (some ⟨gb, 0, none⟩) := hdep 0 (by kernel_rfl) rfl _ rfl
    have q0 := hc.1.cell (i := 0) rfl
    clear hsz hold hdep
    refine stepR_do rfl (wanted_none rfl) ?_
    refine stepR_val (v := .int .i64 T.blocks) (Below.refl _ _) rfl fun K hK => ?_
    go_simp
    exact hK
  · intro a W hc hsz hold hdep
    have d1 : a.tmps.getD 7 undef = .int .i64 T.blocks := hdep 1 (by kernel_rfl) rfl _ rfl
    have e1 : a.tmps[7]?.getD undef = .int .i64 T.blocks := by rw [← Array.getD_eq_getD_getElem?]; exact d1
    clear hsz hold hdep
    refine stepR_do rfl (wanted_none rfl) ?_
    refine stepR_call (v := .string (str (b2 (T.blocks : Nat)))) (fun W' hb => hb) (fun _ => rfl) fun K hK => ?_
    go_simp
    refine ((rtwo13 _ _ (by omega))).mono ?_
    rintro e w' ⟨rfl, hb'⟩
    exact hK _ hb'
  · intro a W hc hsz hold hdep
    have d2 : a.tmps.getD 8 undef = .string (str (b2 (T.blocks : Nat))) := hdep 2 (by kernel_rfl) rfl _ rfl
    have ap0 : (⟨#[68, 77, 84, 49]⟩ : ByteArray) ++ str (b2 (T.blocks : Nat)) = str (hd5 T 1) := hd5_step T 0 _ rfl
    have hsum : ¬ 9223372036854775807 < 4 + (str (b2 (T.blocks : Nat))).size := by rw [str_size]; have := b2_le (T.blocks : Nat); omega
    clear hsz hold hdep
    refine stepR_do rfl (wanted_none rfl) ?_
    refine stepR_val (v := .string (str (hd5 T 1))) (Below.refl _ _) rfl fun K hK => ?_
    go_simp
    exact hK
  · intro a W hc hsz hold hdep
    have o1 : a.tmps.getD 1 undef = .pointer (some ⟨gb, 0, none⟩) := hold 1 (by kernel_rfl)
    clear hsz hold hdep
    refine stepR_do rfl (wanted_none rfl) ?_
    refine stepR_val (v := .pointer (some ⟨gb, 1, none⟩)) (Below.refl _ _) rfl fun K hK => ?_
    go_simp
    exact hK
  · intro a W hc hsz hold hdep
    have d4 : a.tmps.getD 10 undef = .pointer (some ⟨gb, 1, none⟩) := hdep 4 (by kernel_rfl) rfl _ rfl
    have q1 := hc.1.cell (i := 1) rfl
    clear hsz hold hdep
    refine stepR_do rfl (wanted_none rfl) ?_
    refine stepR_val (v := .int .i64 T.spares) (Below.refl _ _) rfl fun K hK => ?_
    go_simp
    exact hK
  · intro a W hc hsz hold hdep
    have d5 : a.tmps.getD 11 undef = .int .i64 T.spares := hdep 5 (by kernel_rfl) rfl _ rfl
    have e5 : a.tmps[11]?.getD undef = .int .i64 T.spares := by rw [← Array.getD_eq_getD_getElem?]; exact d5
    clear hsz hold hdep
    refine stepR_do rfl (wanted_none rfl) ?_
    refine stepR_call (v := .string (str (b2 (T.spares : Nat)))) (fun W' hb => hb) (fun _ => rfl) fun K hK => ?_
    go_simp
    refine ((rtwo13 _ _ (by omega))).mono ?_
    rintro e w' ⟨rfl, hb'⟩
    exact hK _ hb'
  · intro a W hc hsz hold hdep
    have d3 : a.tmps.getD 9 undef = .string (str (hd5 T 1)) := hdep 3 (by kernel_rfl) rfl _ rfl
    have d6 : a.tmps.getD 12 undef = .string (str (b2 (T.spares : Nat))) := hdep 6 (by kernel_rfl) rfl _ rfl
    have ap0 : str (hd5 T 1) ++ str (b2 (T.spares : Nat)) = str (hd5 T 2) := hd5_step T 1 _ rfl
    have hsum : ¬ 9223372036854775807 < (str (hd5 T 1)).size + (str (b2 (T.spares : Nat))).size := by rw [str_size, str_size]; have := b2_le (T.spares : Nat); have := hd5_len T 1; omega
    clear hsz hold hdep
    refine stepR_do rfl (wanted_none rfl) ?_
    refine stepR_val (v := .string (str (hd5 T 2))) (Below.refl _ _) rfl fun K hK => ?_
    go_simp
    exact hK
  · intro a W hc hsz hold hdep
    have o1 : a.tmps.getD 1 undef = .pointer (some ⟨gb, 0, none⟩) := hold 1 (by kernel_rfl)
    clear hsz hold hdep
    refine stepR_do rfl (wanted_none rfl) ?_
    refine stepR_val (v := .pointer (some ⟨gb, 3, none⟩)) (Below.refl _ _) rfl fun K hK => ?_
    go_simp
    exact hK
  · intro a W hc hsz hold hdep
    have d8 : a.tmps.getD 14 undef = .pointer (some ⟨gb, 3, none⟩) := hdep 8 (by kernel_rfl) rfl _ rfl
    have q3 := hc.1.cell (i := 3) rfl
    clear hsz hold hdep
    refine stepR_do rfl (wanted_none rfl) ?_
    refine stepR_val (v := .slice ap T.prim.length cp) (Below.refl _ _) rfl fun K hK => ?_
    go_simp
    exact hK
  · intro a W hc hsz hold hdep
    have d9 : a.tmps.getD 15 undef = .slice ap T.prim.length cp := hdep 9 (by kernel_rfl) rfl _ rfl
    have e9 : a.tmps[15]?.getD undef = .slice ap T.prim.length cp := by rw [← Array.getD_eq_getD_getElem?]; exact d9
    clear hsz hold hdep
    refine stepR_do rfl (wanted_none rfl) ?_
    refine stepR_val (v := .int .i64 T.prim.length) (Below.refl _ _) rfl fun K hK => ?_
    go_simp
    exact hK
  · intro a W hc hsz hold hdep
    have d10 : a.tmps.getD 16 undef = .int .i64 T.prim.length := hdep 10 (by kernel_rfl) rfl _ rfl
    have e10 : a.tmps[16]?.getD undef = .int .i64 T.prim.length := by rw [← Array.getD_eq_getD_getElem?]; exact d10
    clear hsz hold hdep
    refine stepR_do rfl (wanted_none rfl) ?_
    refine stepR_call (v := .string (str (b2 (T.prim.length : Nat)))) (fun W' hb => hb) (fun _ => rfl) fun K hK => ?_
    go_simp
    refine ((rtwo13 _ _ (by omega))).mono ?_
    rintro e w' ⟨rfl, hb'⟩
    exact hK _ hb'
  · intro a W hc hsz hold hdep
    have d7 : a.tmps.getD 13 undef = .string (str (hd5 T 2)) := hdep 7 (by kernel_rfl) rfl _ rfl
    have d11 : a.tmps.getD 17 undef = .string (str (b2 (T.prim.length : Nat))) := hdep 11 (by kernel_rfl) rfl _ rfl
    have ap0 : str (hd5 T 2) ++ str (b2 (T.prim.length : Nat)) = str (hd5 T 3) := hd5_step T 2 _ rfl
    have hsum : ¬ 9223372036854775807 < (str (hd5 T 2)).size + (str (b2 (T.prim.length : Nat))).size := by rw [str_size, str_size]; have := b2_le (T.prim.length : Nat); have := hd5_len T 2; omega
    clear hsz hold hdep
    refine stepR_do rfl (wanted_none rfl) ?_
    refine stepR_val (v := .string (str (hd5 T 3))) (Below.refl _ _) rfl fun K hK => ?_
    go_simp
    exact hK
  · intro a W hc hsz hold hdep
    have o1 : a.tmps.getD 1 undef = .pointer (some ⟨gb, 0, none⟩) := hold 1 (by kernel_rfl)
    clear hsz hold hdep
    refine stepR_do rfl (wanted_none rfl) ?_
    refine stepR_val (v := .pointer (some ⟨gb, 2, none⟩)) (Below.refl _ _) rfl fun K hK => ?_
    go_simp
    exact hK
  · intro a W hc hsz hold hdep
    have d13 : a.tmps.getD 19 undef = .pointer (some ⟨gb, 2, none⟩) := hdep 13 (by kernel_rfl) rfl _ rfl
    have q2 := hc.1.cell (i := 2) rfl
    clear hsz hold hdep
    refine stepR_do rfl (wanted_none rfl) ?_
    refine stepR_val (v := .int .i64 T.used) (Below.refl _ _) rfl fun K hK => ?_
    go_simp
    exact hK
  · intro a W hc hsz hold hdep
    have d14 : a.tmps.getD 20 undef = .int .i64 T.used := hdep 14 (by kernel_rfl) rfl _ rfl
    have e14 : a.tmps[20]?.getD undef = .int .i64 T.used := by rw [← Array.getD_eq_getD_getElem?]; exact d14
    clear hsz hold hdep
    refine stepR_do rfl (wanted_none rfl) ?_
    refine stepR_call (v := .string (str (b2 (T.used : Nat)))) (fun W' hb => hb) (fun _ => rfl) fun K hK => ?_
    go_simp
    refine ((rtwo13 _ _ (by omega))).mono ?_
    rintro e w' ⟨rfl, hb'⟩
    exact hK _ hb'
  · intro a W hc hsz hold hdep
    have d12 : a.tmps.getD 18 undef = .string (str (hd5 T 3)) := hdep 12 (by kernel_rfl) rfl _ rfl
    have d15 : a.tmps.getD 21 undef = .string (str (b2 (T.used : Nat))) := hdep 15 (by kernel_rfl) rfl _ rfl
    have ap0 : str (hd5 T 3) ++ str (b2 (T.used : Nat)) = str (hd5 T 4) := hd5_step T 3 _ rfl
    have hsum : ¬ 9223372036854775807 < (str (hd5 T 3)).size + (str (b2 (T.used : Nat))).size := by rw [str_size, str_size]; have := b2_le (T.used : Nat); have := hd5_len T 3; omega
    clear hsz hold hdep
    refine stepR_do rfl (wanted_none rfl) ?_
    refine stepR_val (v := .string (str (hd5 T 4))) (Below.refl _ _) rfl fun K hK => ?_
    go_simp
    exact hK
  · intro a W hc hsz hold hdep
    have o1 : a.tmps.getD 1 undef = .pointer (some ⟨gb, 0, none⟩) := hold 1 (by kernel_rfl)
    clear hsz hold hdep
    refine stepR_do rfl (wanted_none rfl) ?_
    refine stepR_val (v := .pointer (some ⟨gb, 4, none⟩)) (Below.refl _ _) rfl fun K hK => ?_
    go_simp
    exact hK
  · intro a W hc hsz hold hdep
    have d17 : a.tmps.getD 23 undef = .pointer (some ⟨gb, 4, none⟩) := hdep 17 (by kernel_rfl) rfl _ rfl
    have q4 := hc.1.cell (i := 4) rfl
    clear hsz hold hdep
    refine stepR_do rfl (wanted_none rfl) ?_
    refine stepR_val (v := .slice am T.reps.length cm) (Below.refl _ _) rfl fun K hK => ?_
    go_simp
    exact hK
  · intro a W hc hsz hold hdep
    have d18 : a.tmps.getD 24 undef = .slice am T.reps.length cm := hdep 18 (by kernel_rfl) rfl _ rfl
    have e18 : a.tmps[24]?.getD undef = .slice am T.reps.length cm := by rw [← Array.getD_eq_getD_getElem?]; exact d18
    clear hsz hold hdep
    refine stepR_do rfl (wanted_none rfl) ?_
    refine stepR_val (v := .int .i64 T.reps.length) (Below.refl _ _) rfl fun K hK => ?_
    go_simp
    exact hK
  · intro a W hc hsz hold hdep
    have d19 : a.tmps.getD 25 undef = .int .i64 T.reps.length := hdep 19 (by kernel_rfl) rfl _ rfl
    have e19 : a.tmps[25]?.getD undef = .int .i64 T.reps.length := by rw [← Array.getD_eq_getD_getElem?]; exact d19
    clear hsz hold hdep
    refine stepR_do rfl (wanted_none rfl) ?_
    refine stepR_call (v := .string (str (b2 (T.reps.length : Nat)))) (fun W' hb => hb) (fun _ => rfl) fun K hK => ?_
    go_simp
    refine ((rtwo13 _ _ (by omega))).mono ?_
    rintro e w' ⟨rfl, hb'⟩
    exact hK _ hb'
  · intro a W hc hsz hold hdep
    have d16 : a.tmps.getD 22 undef = .string (str (hd5 T 4)) := hdep 16 (by kernel_rfl) rfl _ rfl
    have d20 : a.tmps.getD 26 undef = .string (str (b2 (T.reps.length : Nat))) := hdep 20 (by kernel_rfl) rfl _ rfl
    have ap0 : str (hd5 T 4) ++ str (b2 (T.reps.length : Nat)) = str (hd5 T 5) := hd5_step T 4 _ (by rw [T.reps_length]; rfl)
    have hsum : ¬ 9223372036854775807 < (str (hd5 T 4)).size + (str (b2 (T.reps.length : Nat))).size := by rw [str_size, str_size]; have := b2_le (T.reps.length : Nat); have := hd5_len T 4; omega
    clear hsz hold hdep
    refine stepR_do rfl (wanted_none rfl) ?_
    refine stepR_val (v := .string (str (hd5 T 5))) (Below.refl _ _) rfl fun K hK => ?_
    go_simp
    exact hK
  · intro a W hc hsz hold hdep
    have d21 : a.tmps.getD 27 undef = .string (str (hd5 T 5)) := hdep 21 (by kernel_rfl) rfl _ rfl
    clear hsz hold hdep
    refine stepR_do rfl (wanted_none rfl) ?_
    refine stepR_val (v := .string (str (hd5 T 5))) (Below.refl _ _) rfl fun K hK => ?_
    go_simp
    exact hK
  · intro a W hC hd hsz hold hval
    have d1 : a.tmps.getD 1 undef = .pointer (some ⟨gb, 0, none⟩) := hold 1 (by kernel_rfl)
    have d3 : a.tmps.getD 3 undef = .string (str (hd5 T 5)) := hval 22 _ rfl rfl
    clear hold
    obtain ⟨tm, df⟩ := a
    replace hd : df = [] := hd
    replace hsz : tm.size = 72 := hsz
    replace d1 : tm.getD 1 undef = .pointer (some ⟨gb, 0, none⟩) := d1
    replace d3 : tm.getD 3 undef = .string (str (hd5 T 5)) := d3
    subst hd
    have e : tm = List.toArray (tm.getD 0 undef :: tm.getD 1 undef :: tm.getD 2 undef :: tm.getD 3 undef :: tm.getD 4 undef :: tm.getD 5 undef :: tm.getD 6 undef :: tm.getD 7 undef :: tm.getD 8 undef :: tm.getD 9 undef :: tm.getD 10 undef :: tm.getD 11 undef :: tm.getD 12 undef :: tm.getD 13 undef :: tm.getD 14 undef :: tm.getD 15 undef :: tm.getD 16 undef :: tm.getD 17 undef :: tm.getD 18 undef :: tm.getD 19 undef :: tm.getD 20 undef :: tm.getD 21 undef :: tm.getD 22 undef :: tm.getD 23 undef :: tm.getD 24 undef :: tm.getD 25 undef :: tm.getD 26 undef :: tm.getD 27 undef :: tm.getD 28 undef :: tm.getD 29 undef :: tm.getD 30 undef :: tm.getD 31 undef :: tm.getD 32 undef :: tm.getD 33 undef :: tm.getD 34 undef :: tm.getD 35 undef :: tm.getD 36 undef :: tm.getD 37 undef :: tm.getD 38 undef :: tm.getD 39 undef :: tm.getD 40 undef :: tm.getD 41 undef :: tm.getD 42 undef :: tm.getD 43 undef :: tm.getD 44 undef :: tm.getD 45 undef :: tm.getD 46 undef :: tm.getD 47 undef :: tm.getD 48 undef :: tm.getD 49 undef :: tm.getD 50 undef :: tm.getD 51 undef :: tm.getD 52 undef :: tm.getD 53 undef :: tm.getD 54 undef :: tm.getD 55 undef :: tm.getD 56 undef :: tm.getD 57 undef :: tm.getD 58 undef :: tm.getD 59 undef :: tm.getD 60 undef :: tm.getD 61 undef :: tm.getD 62 undef :: tm.getD 63 undef :: tm.getD 64 undef :: tm.getD 65 undef :: tm.getD 66 undef :: tm.getD 67 undef :: tm.getD 68 undef :: tm.getD 69 undef :: tm.getD 70 undef :: tm.getD 71 undef :: []) := arr_eq tm 72 hsz
    rw [d1, d3] at e
    clear d1 d3 hsz
    generalize tm.getD 0 undef = v0 at e
    generalize tm.getD 2 undef = v2 at e
    generalize tm.getD 4 undef = v4 at e
    generalize tm.getD 5 undef = v5 at e
    generalize tm.getD 6 undef = v6 at e
    generalize tm.getD 7 undef = v7 at e
    generalize tm.getD 8 undef = v8 at e
    generalize tm.getD 9 undef = v9 at e
    generalize tm.getD 10 undef = v10 at e
    generalize tm.getD 11 undef = v11 at e
    generalize tm.getD 12 undef = v12 at e
    generalize tm.getD 13 undef = v13 at e
    generalize tm.getD 14 undef = v14 at e
    generalize tm.getD 15 undef = v15 at e
    generalize tm.getD 16 undef = v16 at e
    generalize tm.getD 17 undef = v17 at e
    generalize tm.getD 18 undef = v18 at e
    generalize tm.getD 19 undef = v19 at e
    generalize tm.getD 20 undef = v20 at e
    generalize tm.getD 21 undef = v21 at e
    generalize tm.getD 22 undef = v22 at e
    generalize tm.getD 23 undef = v23 at e
    generalize tm.getD 24 undef = v24 at e
    generalize tm.getD 25 undef = v25 at e
    generalize tm.getD 26 undef = v26 at e
    generalize tm.getD 27 undef = v27 at e
    generalize tm.getD 28 undef = v28 at e
    generalize tm.getD 29 undef = v29 at e
    generalize tm.getD 30 undef = v30 at e
    generalize tm.getD 31 undef = v31 at e
    generalize tm.getD 32 undef = v32 at e
    generalize tm.getD 33 undef = v33 at e
    generalize tm.getD 34 undef = v34 at e
    generalize tm.getD 35 undef = v35 at e
    generalize tm.getD 36 undef = v36 at e
    generalize tm.getD 37 undef = v37 at e
    generalize tm.getD 38 undef = v38 at e
    generalize tm.getD 39 undef = v39 at e
    generalize tm.getD 40 undef = v40 at e
    generalize tm.getD 41 undef = v41 at e
    generalize tm.getD 42 undef = v42 at e
    generalize tm.getD 43 undef = v43 at e
    generalize tm.getD 44 undef = v44 at e
    generalize tm.getD 45 undef = v45 at e
    generalize tm.getD 46 undef = v46 at e
    generalize tm.getD 47 undef = v47 at e
    generalize tm.getD 48 undef = v48 at e
    generalize tm.getD 49 undef = v49 at e
    generalize tm.getD 50 undef = v50 at e
    generalize tm.getD 51 undef = v51 at e
    generalize tm.getD 52 undef = v52 at e
    generalize tm.getD 53 undef = v53 at e
    generalize tm.getD 54 undef = v54 at e
    generalize tm.getD 55 undef = v55 at e
    generalize tm.getD 56 undef = v56 at e
    generalize tm.getD 57 undef = v57 at e
    generalize tm.getD 58 undef = v58 at e
    generalize tm.getD 59 undef = v59 at e
    generalize tm.getD 60 undef = v60 at e
    generalize tm.getD 61 undef = v61 at e
    generalize tm.getD 62 undef = v62 at e
    generalize tm.getD 63 undef = v63 at e
    generalize tm.getD 64 undef = v64 at e
    generalize tm.getD 65 undef = v65 at e
    generalize tm.getD 66 undef = v66 at e
    generalize tm.getD 67 undef = v67 at e
    generalize tm.getD 68 undef = v68 at e
    generalize tm.getD 69 undef = v69 at e
    generalize tm.getD 70 undef = v70 at e
    generalize tm.getD 71 undef = v71 at e
    subst e
    have HX1 := Lib.hid hC.1
    have HL1 := Lib.hid hC.2
    rw [hd5_all]
    clear hC hval HX0 HL0
    generalize hpre : magic13 ++ encL (head13 T) = pre at *
    have HPRE := Lib.hid hpre
    have hpl : pre.length ≤ 14 := by
      rw [← hpre, List.length_append]
      have := encL_le (head13 T)
      have e : (head13 T).length = 5 := rfl
      have e2 : magic13.length = 4 := rfl
      omega
    clear hpre
    go_wp2_with fail
    go_loopw [4, 3] (fun vk vs wr => ∃ k : Nat, k ≤ T.prim.length ∧ vk = .int .i64 k ∧ vs = .string (str (pre ++ encL (T.prim.take k))) ∧ Bx wr gb 42 (tcell T (.slice ap T.prim.length cp) (.slice am T.reps.length cm)) ∧ Below w.heap.size w wr) (fun vk _ _ => T.prim.length - (RowKit.intOf vk).toNat)
    case atStart => exact ⟨0, by omega, rfl, by simp [encL], HX1.out, HL1.out⟩
    case round =>
      obtain ⟨k, hk, rfl, rfl, hX, hL⟩ := hrel
      have d3 := hX.cell (i := 3) rfl
      have HX := Lib.hid hX
      have HL := Lib.hid hL
      have hle := encL_le (T.prim.take k)
      rw [List.length_take] at hle
      have hlen : (pre ++ encL (T.prim.take k)).length ≤ 1000 := by rw [List.length_append]; omega
      by_cases hlt : k < T.prim.length
      · obtain ⟨bl, off, hcell⟩ := RdI.at (HRW.out.pri.keep hL)
        obtain ⟨ha, hcl⟩ := hcell k hlt
        have hix := fun w' => run_idxS Try.underlying22 Try.sizeInt13 (cap := cp) ha hlt (k : Int) rfl w'
        simp only [Nat.mul_one] at hix
        have hr2 := HRW.out.pri.2.2 k hlt
        have HTK : Hid (pre ++ encL (T.prim.take (k + 1)) = pre ++ encL (T.prim.take k) ++ b2 (ixI T.prim k)) := Lib.hid (by rw [encL_take hlt, List.append_assoc])
        have HTW := Lib.hid (rtwo13 (ixI T.prim k) wr hr2.2)
        have hb2 := b2_le (ixI T.prim k)
        have HA := Lib.hid ha
        generalize ixI T.prim k = x at *
        clear ha hcell hX hL hr2 hle
        generalize pre ++ encL (T.prim.take k) = cu at *
        have hsum : ¬ 9223372036854775807 < (str cu).size + (str (b2 x)).size := by rw [str_size, str_size]; omega
        go_wp2_with fail
        refine HTW.out.mono ?_
        rintro e w4 ⟨rfl, hb4⟩
        have HX4 := Lib.hid (HX.out.call hb4)
        have HL4 := Lib.hid (HL.out.trans (hb4.mono HL.out.size))
        clear hb4
        go_wp2_with fail
        go_roundw
        case rel => exact ⟨k + 1, by omega, by go_num, by rw [HTK.out, ← str_append], HX4.out, HL4.out⟩
        case measure => simp [RowKit.intOf]; omega
      · obtain rfl : k = T.prim.length := by omega
        rw [List.take_length] at hlen ⊢
        have HP2 : Hid (magic13 ++ encL (head13 T) ++ encL T.prim = pre ++ encL T.prim) := Lib.hid (by rw [HPRE.out])
        clear hX hL hle hpl
        generalize pre ++ encL T.prim = pr2 at *
        go_wp2_with fail
        go_loopw [5, 3] (fun vk vs wr => ∃ k : Nat, k ≤ T.reps.length ∧ vk = .int .i64 k ∧ vs = .string (str (pr2 ++ (T.reps.take k).flatMap repB)) ∧ Bx wr gb 42 (tcell T (.slice ap T.prim.length cp) (.slice am T.reps.length cm)) ∧ Below w.heap.size w wr) (fun vk _ _ => T.reps.length - (RowKit.intOf vk).toNat)
        case atStart => exact ⟨0, by omega, rfl, by simp, HX.out, HL.out⟩
        case round =>
          obtain ⟨k, hk, rfl, rfl, hX, hL⟩ := hrel
          have d4 := hX.cell (i := 4) rfl
          have HXk := Lib.hid hX
          have HLk := Lib.hid hL
          have hle := repsB_le (T.reps.take k)
          rw [List.length_take] at hle
          have hlen2 : (pr2 ++ (T.reps.take k).flatMap repB).length ≤ 2000 := by rw [List.length_append]; omega
          by_cases hlt : k < T.reps.length
          · obtain ⟨bl, off, hcell⟩ := RdD.at (HRW.out.mov.keep hL)
            obtain ⟨ha, hrg⟩ := hcell k hlt
            have HPM := Lib.hid (HRW.out.ok.keys_le _ (atD_mem (d := ((0 : Int), (0 : Int))) hlt))
            have HTK : Hid (pr2 ++ (T.reps.take (k + 1)).flatMap repB = two5 (pr2 ++ (T.reps.take k).flatMap repB) (atD ((0 : Int), (0 : Int)) T.reps k).1 (atD ((0 : Int), (0 : Int)) T.reps k).2) := Lib.hid (by
              unfold two5
              rw [List.take_succ_eq_append_getElem hlt, List.flatMap_append]
              simp [repB, atD, hlt])
            have HRG := Lib.hid (fun W (hW : Below wr.heap.size wr W) => range_call hrg hW)
            generalize atD ((0 : Int), (0 : Int)) T.reps k = p at *
            obtain ⟨px, py⟩ := p
            have HA := Lib.hid ha
            clear ha hcell hrg hX hL hle
            generalize pr2 ++ (T.reps.take k).flatMap repB = cu at *
            go_upto_region 9 with (fail)
            have HLT := Lib.hid hlt
            have HLE := Lib.hid hlen2
            have HPB : Hid (px ≤ 9223372036854775807 ∧ py ≤ 9223372036854775807) := Lib.hid (by
              have h := HPM.out
              have h1 : px < (T.blocks : Int) := h.2.1
              have h2 : py < (T.used : Int) := h.2.2.2
              omega)
            refine wp_region_seq (by kernel_rfl) (fun _ w W => Below w.heap.size w W) (RenC w wr gb (tcell T (.slice ap T.prim.length cp) (.slice am T.reps.length cm))) (renW gb T am cm cu k bl off px py) (fun _ => false) renWE 0 (by kernel_rfl) (by kernel_rfl) (.inr rfl) (renW_keep gb T am cm cu k bl off px py) (⟨rfl, HXk.out.call ((Below.refl _ _).drew), HLk.out.drew, (Below.refl _ _).drew⟩) ⟨?_, ?_, ?_, ?_, ?_, ?_, ?_, ?_, ?_, ?_, ?_, ?_, ?_, ?_, ?_, ?_, ?_, ?_, trivial⟩ ?_
            · intro r a W hc hsz hold hdep hnot hlo hhi hrk
              have o3 : a.tmps.getD 3 undef = .string (str cu) := hnot 17 _ 3 rfl rfl (by kernel_rfl)
              clear hsz hold hdep hnot hlo hhi hrk
              refine stepR_do rfl (wanted_none rfl) ?_
              refine stepS_val (v := .string (str cu)) (Below.refl _ _) hc rfl fun K hK => ?_
              go_simp
              exact hK
            · intro r a W hc hsz hold hdep hnot hlo hhi hrk
              have o1 : a.tmps.getD 1 undef = .pointer (some ⟨gb, 0, none⟩) := hold 1 (by kernel_rfl)
              clear hsz hold hdep hnot hlo hhi hrk
              refine stepR_do rfl (wanted_none rfl) ?_
              refine stepS_val (v := .pointer (some ⟨gb, 4, none⟩)) (Below.refl _ _) hc rfl fun K hK => ?_
              go_simp
              exact hK
            · intro r a W hc hsz hold hdep hnot hlo hhi hrk
              have d1 : a.tmps.getD 51 undef = .pointer (some ⟨gb, 4, none⟩) := hdep 1 (by kernel_rfl) rfl _ rfl
              have q4 := hc.2.1.cell (i := 4) rfl
              clear hsz hold hdep hnot hlo hhi hrk
              refine stepR_do rfl (wanted_none rfl) ?_
              refine stepS_val (v := .slice am T.reps.length cm) (Below.refl _ _) hc rfl fun K hK => ?_
              go_simp
              exact hK
            · intro r a W hc hsz hold hdep hnot hlo hhi hrk
              have o5 : a.tmps.getD 5 undef = .int .i64 k := hold 5 (by kernel_rfl)
              clear hsz hold hdep hnot hlo hhi hrk
              refine stepR_do rfl (wanted_none rfl) ?_
              refine stepS_val (v := .int .i64 k) (Below.refl _ _) hc rfl fun K hK => ?_
              go_simp
              exact hK
            · intro r a W hc hsz hold hdep hnot hlo hhi hrk
              have d2 : a.tmps.getD 52 undef = .slice am T.reps.length cm := hdep 2 (by kernel_rfl) rfl _ rfl
              have d3 : a.tmps.getD 53 undef = .int .i64 k := hdep 3 (by kernel_rfl) rfl _ rfl
              have hix := fun w => run_idxS Try.underlying39 Try.sizeRep13 (cap := cm) HA.out HLT.out (k : Int) rfl w
              clear hsz hold hdep hnot hlo hhi hrk
              refine stepR_do rfl (wanted_none rfl) ?_
              refine stepS_val (v := .pointer (some ⟨bl, off + k * 2, none⟩)) (Below.refl _ _) hc rfl fun K hK => ?_
              go_simp
              exact hK
            · intro r a W hc hsz hold hdep hnot hlo hhi hrk
              have d4 : a.tmps.getD 54 undef = .pointer (some ⟨bl, off + k * 2, none⟩) := hdep 4 (by kernel_rfl) rfl _ rfl
              clear hsz hold hdep hnot hlo hhi hrk
              refine stepR_do rfl (wanted_none rfl) ?_
              refine stepS_val (v := .pointer (some ⟨bl, off + k * 2, none⟩)) (Below.refl _ _) hc rfl fun K hK => ?_
              go_simp
              exact hK
            · intro r a W hc hsz hold hdep hnot hlo hhi hrk
              have d5 : a.tmps.getD 55 undef = .pointer (some ⟨bl, off + k * 2, none⟩) := hdep 5 (by kernel_rfl) rfl _ rfl
              have q0 := HRG.out W hc.2.2.2 0 _ rfl
              simp only [Nat.add_zero] at q0
              clear hsz hold hdep hnot hlo hhi hrk
              refine stepR_do rfl (wanted_none rfl) ?_
              refine stepS_val (v := .int .i64 px) (Below.refl _ _) hc rfl fun K hK => ?_
              go_simp
              exact hK
            · intro r a W hc hsz hold hdep hnot hlo hhi hrk
              have d6 : a.tmps.getD 56 undef = .int .i64 px := hdep 6 (by kernel_rfl) rfl _ rfl
              have e6 : a.tmps[56]?.getD undef = .int .i64 px := by rw [← Array.getD_eq_getD_getElem?]; exact d6
              clear hsz hold hdep hnot hlo hhi hrk
              refine stepR_do rfl (wanted_none rfl) ?_
              refine stepS_call2 (v := .string (str (b2 px))) fun K hK => ?_
              have hc' := hc
              clear hc
              go_simp
              refine (rtwo13 px W (by have := HPB.out; omega)).mono ?_
              rintro e w' ⟨rfl, hb'⟩
              exact hK w' hb' ⟨rfl, hc'.2.1.call hb', hc'.2.2.1.trans (hb'.mono hc'.2.2.1.size), hc'.2.2.2.trans (hb'.mono hc'.2.2.2.size)⟩ rfl
            · intro r a W hc hsz hold hdep hnot hlo hhi hrk
              have d0 : a.tmps.getD 50 undef = .string (str cu) := hdep 0 (by kernel_rfl) rfl _ rfl
              have d7 : a.tmps.getD 57 undef = .string (str (b2 px)) := hdep 7 (by kernel_rfl) rfl _ rfl
              have ap0 : str cu ++ str (b2 px) = str (cu ++ b2 px) := str_append _ _
              have hsum : ¬ 9223372036854775807 < (str cu).size + (str (b2 px)).size := by rw [str_size, str_size]; have := b2_le px; have := HLE.out; omega
              clear hsz hold hdep hnot hlo hhi hrk
              refine stepR_do rfl (wanted_none rfl) ?_
              refine stepS_val (v := .string (str (cu ++ b2 px))) (Below.refl _ _) hc rfl fun K hK => ?_
              go_simp
              exact hK
            · intro r a W hc hsz hold hdep hnot hlo hhi hrk
              have o1 : a.tmps.getD 1 undef = .pointer (some ⟨gb, 0, none⟩) := hold 1 (by kernel_rfl)
              clear hsz hold hdep hnot hlo hhi hrk
              refine stepR_do rfl (wanted_none rfl) ?_
              refine stepS_val (v := .pointer (some ⟨gb, 4, none⟩)) (Below.refl _ _) hc rfl fun K hK => ?_
              go_simp
              exact hK
            · intro r a W hc hsz hold hdep hnot hlo hhi hrk
              have d9 : a.tmps.getD 59 undef = .pointer (some ⟨gb, 4, none⟩) := hdep 9 (by kernel_rfl) rfl _ rfl
              have q4 := hc.2.1.cell (i := 4) rfl
              clear hsz hold hdep hnot hlo hhi hrk
              refine stepR_do rfl (wanted_none rfl) ?_
              refine stepS_val (v := .slice am T.reps.length cm) (Below.refl _ _) hc rfl fun K hK => ?_
              go_simp
              exact hK
            · intro r a W hc hsz hold hdep hnot hlo hhi hrk
              have o5 : a.tmps.getD 5 undef = .int .i64 k := hold 5 (by kernel_rfl)
              clear hsz hold hdep hnot hlo hhi hrk
              refine stepR_do rfl (wanted_none rfl) ?_
              refine stepS_val (v := .int .i64 k) (Below.refl _ _) hc rfl fun K hK => ?_
              go_simp
              exact hK
            · intro r a W hc hsz hold hdep hnot hlo hhi hrk
              have d10 : a.tmps.getD 60 undef = .slice am T.reps.length cm := hdep 10 (by kernel_rfl) rfl _ rfl
              have d11 : a.tmps.getD 61 undef = .int .i64 k := hdep 11 (by kernel_rfl) rfl _ rfl
              have hix := fun w => run_idxS Try.underlying39 Try.sizeRep13 (cap := cm) HA.out HLT.out (k : Int) rfl w
              clear hsz hold hdep hnot hlo hhi hrk
              refine stepR_do rfl (wanted_none rfl) ?_
              refine stepS_val (v := .pointer (some ⟨bl, off + k * 2, none⟩)) (Below.refl _ _) hc rfl fun K hK => ?_
              go_simp
              exact hK
            · intro r a W hc hsz hold hdep hnot hlo hhi hrk
              have d12 : a.tmps.getD 62 undef = .pointer (some ⟨bl, off + k * 2, none⟩) := hdep 12 (by kernel_rfl) rfl _ rfl
              clear hsz hold hdep hnot hlo hhi hrk
              refine stepR_do rfl (wanted_none rfl) ?_
              refine stepS_val (v := .pointer (some ⟨bl, off + k * 2 + 1, none⟩)) (Below.refl _ _) hc rfl fun K hK => ?_
              go_simp
              exact hK
            · intro r a W hc hsz hold hdep hnot hlo hhi hrk
              have d13 : a.tmps.getD 63 undef = .pointer (some ⟨bl, off + k * 2 + 1, none⟩) := hdep 13 (by kernel_rfl) rfl _ rfl
              have q1 := HRG.out W hc.2.2.2 1 _ rfl
              clear hsz hold hdep hnot hlo hhi hrk
              refine stepR_do rfl (wanted_none rfl) ?_
              refine stepS_val (v := .int .i64 py) (Below.refl _ _) hc rfl fun K hK => ?_
              go_simp
              exact hK
            · intro r a W hc hsz hold hdep hnot hlo hhi hrk
              have d14 : a.tmps.getD 64 undef = .int .i64 py := hdep 14 (by kernel_rfl) rfl _ rfl
              have e14 : a.tmps[64]?.getD undef = .int .i64 py := by rw [← Array.getD_eq_getD_getElem?]; exact d14
              clear hsz hold hdep hnot hlo hhi hrk
              refine stepR_do rfl (wanted_none rfl) ?_
              refine stepS_call2 (v := .string (str (b2 py))) fun K hK => ?_
              have hc' := hc
              clear hc
              go_simp
              refine (rtwo13 py W (by have := HPB.out; omega)).mono ?_
              rintro e w' ⟨rfl, hb'⟩
              exact hK w' hb' ⟨rfl, hc'.2.1.call hb', hc'.2.2.1.trans (hb'.mono hc'.2.2.1.size), hc'.2.2.2.trans (hb'.mono hc'.2.2.2.size)⟩ rfl
            · intro r a W hc hsz hold hdep hnot hlo hhi hrk
              have d8 : a.tmps.getD 58 undef = .string (str (cu ++ b2 px)) := hdep 8 (by kernel_rfl) rfl _ rfl
              have d15 : a.tmps.getD 65 undef = .string (str (b2 py)) := hdep 15 (by kernel_rfl) rfl _ rfl
              have ap0 : str (cu ++ b2 px) ++ str (b2 py) = str (two5 cu px py) := str_append _ _
              have hsum : ¬ 9223372036854775807 < (str (cu ++ b2 px)).size + (str (b2 py)).size := by rw [str_size, str_size, List.length_append]; have := b2_le px; have := b2_le py; have := HLE.out; omega
              clear hsz hold hdep hnot hlo hhi hrk
              refine stepR_do rfl (wanted_none rfl) ?_
              refine stepS_val (v := .string (str (two5 cu px py))) (Below.refl _ _) hc rfl fun K hK => ?_
              go_simp
              exact hK
            · intro r a W hc hsz hold hdep hnot hlo hhi hrk
              have d16 : a.tmps.getD 66 undef = .string (str (two5 cu px py)) := hdep 16 (by kernel_rfl) rfl _ rfl
              clear hsz hold hdep hnot hlo hhi hrk
              refine stepR_do rfl (wanted_none rfl) ?_
              refine stepS_val (v := .string (str (two5 cu px py))) (Below.refl _ _) hc rfl fun K hK => ?_
              go_simp
              exact hK
            · intro a W hC hd hsz hold hval
              have d0 : a.tmps.getD 0 undef = v0 := hold 0 (by kernel_rfl)
              have d1 : a.tmps.getD 1 undef = .pointer (some ⟨gb, 0, none⟩) := hold 1 (by kernel_rfl)
              have d2 : a.tmps.getD 2 undef = v2 := hold 2 (by kernel_rfl)
              have d3 : a.tmps.getD 3 undef = .string (str (two5 cu px py)) := hval 17 _ rfl rfl
              have d4 : a.tmps.getD 4 undef = .int .i64 T.prim.length := hold 4 (by kernel_rfl)
              have d5 : a.tmps.getD 5 undef = .int .i64 k := hold 5 (by kernel_rfl)
              have d6 : a.tmps.getD 6 undef = v6 := hold 6 (by kernel_rfl)
              have d7 : a.tmps.getD 7 undef = v7 := hold 7 (by kernel_rfl)
              have d8 : a.tmps.getD 8 undef = v8 := hold 8 (by kernel_rfl)
              have d9 : a.tmps.getD 9 undef = v9 := hold 9 (by kernel_rfl)
              have d10 : a.tmps.getD 10 undef = v10 := hold 10 (by kernel_rfl)
              have d11 : a.tmps.getD 11 undef = v11 := hold 11 (by kernel_rfl)
              have d12 : a.tmps.getD 12 undef = v12 := hold 12 (by kernel_rfl)
              have d13 : a.tmps.getD 13 undef = v13 := hold 13 (by kernel_rfl)
              have d14 : a.tmps.getD 14 undef = v14 := hold 14 (by kernel_rfl)
              have d15 : a.tmps.getD 15 undef = v15 := hold 15 (by kernel_rfl)
              have d16 : a.tmps.getD 16 undef = v16 := hold 16 (by kernel_rfl)
              have d17 : a.tmps.getD 17 undef = v17 := hold 17 (by kernel_rfl)
              have d18 : a.tmps.getD 18 undef = v18 := hold 18 (by kernel_rfl)
              have d19 : a.tmps.getD 19 undef = v19 := hold 19 (by kernel_rfl)
              have d20 : a.tmps.getD 20 undef = v20 := hold 20 (by kernel_rfl)
              have d21 : a.tmps.getD 21 undef = v21 := hold 21 (by kernel_rfl)
              have d22 : a.tmps.getD 22 undef = v22 := hold 22 (by kernel_rfl)
              have d23 : a.tmps.getD 23 undef = v23 := hold 23 (by kernel_rfl)
              have d24 : a.tmps.getD 24 undef = v24 := hold 24 (by kernel_rfl)
              have d25 : a.tmps.getD 25 undef = v25 := hold 25 (by kernel_rfl)
              have d26 : a.tmps.getD 26 undef = v26 := hold 26 (by kernel_rfl)
              have d27 : a.tmps.getD 27 undef = v27 := hold 27 (by kernel_rfl)
              have d28 : a.tmps.getD 28 undef = .int .i64 T.prim.length := hold 28 (by kernel_rfl)
              have d29 : a.tmps.getD 29 undef = .pointer (some ⟨gb, 3, none⟩) := hold 29 (by kernel_rfl)
              have d30 : a.tmps.getD 30 undef = .slice ap T.prim.length cp := hold 30 (by kernel_rfl)
              have d31 : a.tmps.getD 31 undef = .int .i64 T.prim.length := hold 31 (by kernel_rfl)
              have d32 : a.tmps.getD 32 undef = .bool false := hold 32 (by kernel_rfl)
              have d33 : a.tmps.getD 33 undef = u33 := hold 33 (by kernel_rfl)
              have d34 : a.tmps.getD 34 undef = u34 := hold 34 (by kernel_rfl)
              have d35 : a.tmps.getD 35 undef = u35 := hold 35 (by kernel_rfl)
              have d36 : a.tmps.getD 36 undef = u36 := hold 36 (by kernel_rfl)
              have d37 : a.tmps.getD 37 undef = u37 := hold 37 (by kernel_rfl)
              have d38 : a.tmps.getD 38 undef = u38 := hold 38 (by kernel_rfl)
              have d39 : a.tmps.getD 39 undef = u39 := hold 39 (by kernel_rfl)
              have d40 : a.tmps.getD 40 undef = u40 := hold 40 (by kernel_rfl)
              have d41 : a.tmps.getD 41 undef = u41 := hold 41 (by kernel_rfl)
              have d42 : a.tmps.getD 42 undef = u42 := hold 42 (by kernel_rfl)
              have d67 : a.tmps.getD 67 undef = v67 := hold 67 (by kernel_rfl)
              have d68 : a.tmps.getD 68 undef = v68 := hold 68 (by kernel_rfl)
              have d69 : a.tmps.getD 69 undef = v69 := hold 69 (by kernel_rfl)
              have d70 : a.tmps.getD 70 undef = v70 := hold 70 (by kernel_rfl)
              have d71 : a.tmps.getD 71 undef = v71 := hold 71 (by kernel_rfl)
              clear hold
              obtain ⟨tm, df⟩ := a
              replace hd : df = [] := hd
              replace hsz : tm.size = 72 := hsz
              replace d0 : tm.getD 0 undef = v0 := d0
              replace d1 : tm.getD 1 undef = .pointer (some ⟨gb, 0, none⟩) := d1
              replace d2 : tm.getD 2 undef = v2 := d2
              replace d3 : tm.getD 3 undef = .string (str (two5 cu px py)) := d3
              replace d4 : tm.getD 4 undef = .int .i64 T.prim.length := d4
              replace d5 : tm.getD 5 undef = .int .i64 k := d5
              replace d6 : tm.getD 6 undef = v6 := d6
              replace d7 : tm.getD 7 undef = v7 := d7
              replace d8 : tm.getD 8 undef = v8 := d8
              replace d9 : tm.getD 9 undef = v9 := d9
              replace d10 : tm.getD 10 undef = v10 := d10
              replace d11 : tm.getD 11 undef = v11 := d11
              replace d12 : tm.getD 12 undef = v12 := d12
              replace d13 : tm.getD 13 undef = v13 := d13
              replace d14 : tm.getD 14 undef = v14 := d14
              replace d15 : tm.getD 15 undef = v15 := d15
              replace d16 : tm.getD 16 undef = v16 := d16
              replace d17 : tm.getD 17 undef = v17 := d17
              replace d18 : tm.getD 18 undef = v18 := d18
              replace d19 : tm.getD 19 undef = v19 := d19
              replace d20 : tm.getD 20 undef = v20 := d20
              replace d21 : tm.getD 21 undef = v21 := d21
              replace d22 : tm.getD 22 undef = v22 := d22
              replace d23 : tm.getD 23 undef = v23 := d23
              replace d24 : tm.getD 24 undef = v24 := d24
              replace d25 : tm.getD 25 undef = v25 := d25
              replace d26 : tm.getD 26 undef = v26 := d26
              replace d27 : tm.getD 27 undef = v27 := d27
              replace d28 : tm.getD 28 undef = .int .i64 T.prim.length := d28
              replace d29 : tm.getD 29 undef = .pointer (some ⟨gb, 3, none⟩) := d29
              replace d30 : tm.getD 30 undef = .slice ap T.prim.length cp := d30
              replace d31 : tm.getD 31 undef = .int .i64 T.prim.length := d31
              replace d32 : tm.getD 32 undef = .bool false := d32
              replace d33 : tm.getD 33 undef = u33 := d33
              replace d34 : tm.getD 34 undef = u34 := d34
              replace d35 : tm.getD 35 undef = u35 := d35
              replace d36 : tm.getD 36 undef = u36 := d36
              replace d37 : tm.getD 37 undef = u37 := d37
              replace d38 : tm.getD 38 undef = u38 := d38
              replace d39 : tm.getD 39 undef = u39 := d39
              replace d40 : tm.getD 40 undef = u40 := d40
              replace d41 : tm.getD 41 undef = u41 := d41
              replace d42 : tm.getD 42 undef = u42 := d42
              replace d67 : tm.getD 67 undef = v67 := d67
              replace d68 : tm.getD 68 undef = v68 := d68
              replace d69 : tm.getD 69 undef = v69 := d69
              replace d70 : tm.getD 70 undef = v70 := d70
              replace d71 : tm.getD 71 undef = v71 := d71
              subst hd
              have e : tm = List.toArray (tm.getD 0 undef :: tm.getD 1 undef :: tm.getD 2 undef :: tm.getD 3 undef :: tm.getD 4 undef :: tm.getD 5 undef :: tm.getD 6 undef :: tm.getD 7 undef :: tm.getD 8 undef :: tm.getD 9 undef :: tm.getD 10 undef :: tm.getD 11 undef :: tm.getD 12 undef :: tm.getD 13 undef :: tm.getD 14 undef :: tm.getD 15 undef :: tm.getD 16 undef :: tm.getD 17 undef :: tm.getD 18 undef :: tm.getD 19 undef :: tm.getD 20 undef :: tm.getD 21 undef :: tm.getD 22 undef :: tm.getD 23 undef :: tm.getD 24 undef :: tm.getD 25 undef :: tm.getD 26 undef :: tm.getD 27 undef :: tm.getD 28 undef :: tm.getD 29 undef :: tm.getD 30 undef :: tm.getD 31 undef :: tm.getD 32 undef :: tm.getD 33 undef :: tm.getD 34 undef :: tm.getD 35 undef :: tm.getD 36 undef :: tm.getD 37 undef :: tm.getD 38 undef :: tm.getD 39 undef :: tm.getD 40 undef :: tm.getD 41 undef :: tm.getD 42 undef :: tm.getD 43 undef :: tm.getD 44 undef :: tm.getD 45 undef :: tm.getD 46 undef :: tm.getD 47 undef :: tm.getD 48 undef :: tm.getD 49 undef :: tm.getD 50 undef :: tm.getD 51 undef :: tm.getD 52 undef :: tm.getD 53 undef :: tm.getD 54 undef :: tm.getD 55 undef :: tm.getD 56 undef :: tm.getD 57 undef :: tm.getD 58 undef :: tm.getD 59 undef :: tm.getD 60 undef :: tm.getD 61 undef :: tm.getD 62 undef :: tm.getD 63 undef :: tm.getD 64 undef :: tm.getD 65 undef :: tm.getD 66 undef :: tm.getD 67 undef :: tm.getD 68 undef :: tm.getD 69 undef :: tm.getD 70 undef :: tm.getD 71 undef :: []) := arr_eq tm 72 hsz
              rw [d0, d1, d2, d3, d4, d5, d6, d7, d8, d9, d10, d11, d12, d13, d14, d15, d16, d17, d18, d19, d20, d21, d22, d23, d24, d25, d26, d27, d28, d29, d30, d31, d32, d33, d34, d35, d36, d37, d38, d39, d40, d41, d42, d67, d68, d69, d70, d71] at e
              clear d0 d1 d2 d3 d4 d5 d6 d7 d8 d9 d10 d11 d12 d13 d14 d15 d16 d17 d18 d19 d20 d21 d22 d23 d24 d25 d26 d27 d28 d29 d30 d31 d32 d33 d34 d35 d36 d37 d38 d39 d40 d41 d42 d67 d68 d69 d70 d71 hsz
              generalize tm.getD 43 undef = v43 at e
              generalize tm.getD 44 undef = v44 at e
              generalize tm.getD 45 undef = v45 at e
              generalize tm.getD 46 undef = v46 at e
              generalize tm.getD 47 undef = v47 at e
              generalize tm.getD 48 undef = v48 at e
              generalize tm.getD 49 undef = v49 at e
              generalize tm.getD 50 undef = v50 at e
              generalize tm.getD 51 undef = v51 at e
              generalize tm.getD 52 undef = v52 at e
              generalize tm.getD 53 undef = v53 at e
              generalize tm.getD 54 undef = v54 at e
              generalize tm.getD 55 undef = v55 at e
              generalize tm.getD 56 undef = v56 at e
              generalize tm.getD 57 undef = v57 at e
              generalize tm.getD 58 undef = v58 at e
              generalize tm.getD 59 undef = v59 at e
              generalize tm.getD 60 undef = v60 at e
              generalize tm.getD 61 undef = v61 at e
              generalize tm.getD 62 undef = v62 at e
              generalize tm.getD 63 undef = v63 at e
              generalize tm.getD 64 undef = v64 at e
              generalize tm.getD 65 undef = v65 at e
              generalize tm.getD 66 undef = v66 at e
              subst e
              have HX9 := Lib.hid hC.2.1
              have HL9 := Lib.hid hC.2.2.1
              clear hC hval
              go_wp2_with fail
              go_roundw
              case rel => exact ⟨k + 1, by omega, by go_num, by rw [HTK.out], HX9.out, HL9.out⟩
              case measure => simp [RowKit.intOf]; omega

          · obtain rfl : k = T.reps.length := by omega
            rw [List.take_length] at hlen2 ⊢
            have HBD : Hid (pr2 ++ T.reps.flatMap repB = body13 T) := Lib.hid (by rw [← HP2.out]; rfl)
            rw [HBD.out] at hlen2 ⊢
            have HCR := Lib.hid (fun W => W10.rcrc_any (str (body13 T)) W (by rw [str_size]; omega))
            have hcl : C.crc 0 (str (body13 T)).data.toList < 65536 := C.crc_lt (by omega) _
            have HCB := Lib.hid (fun W => W10.rcrcbytes_any (C.crc 0 (str (body13 T)).data.toList) W hcl)
            have hsum : ¬ 9223372036854775807 < (str (body13 T)).size + (str (W10.crcB (C.crc 0 (str (body13 T)).data.toList))).size := by
              rw [str_size, str_size]
              have e : (W10.crcB (C.crc 0 (str (body13 T)).data.toList)).length = 2 := rfl
              omega
            clear hX hL hle
            go_wp2_with fail
            refine (HCR.out _).mono ?_
            rintro e w5 ⟨rfl, rfl⟩
            go_wp2_with fail
            refine (HCB.out _).mono ?_
            rintro e w6 ⟨rfl, hb6⟩
            have hle6 := HLk.out.trans (hb6.mono HLk.out.size)
            go_wp2_with fail
            go_ret
            exact ⟨congrArg (fun x => Ending.returned (Value.string x)) (str_append _ _), hle6⟩
end Go.Proofs.Ytjnedcncfdpjoaa.D13
/- Chapter 13: the table and the reference are the same; the law DefectCalls walked. -/
namespace Go.Proofs.Ytjnedcncfdpjoaa.D13
open Go.RowKit Go.Maps
set_option linter.unusedVariables false

section
variable {P : Program} {Q : Exit → Act → World → Prop}
theorem stepR_callx {R : World → World → Prop} {V : Nat → Value → World → Prop} {i : Nat} {o : Oper} {a : Act} {w : World} (h : ∀ K : Act → World → Prop, (∀ v w', R w w' → V i (kept o.dst v) w' → K (a.put o.dst v) w') → o.wp P a w K Q) :
    o.wp P a w (fun a' w' => ∃ v, a' = a.put o.dst v ∧ R w w' ∧ V i (kept o.dst v) w') Q := h _ fun v w' h1 h2 => ⟨v, rfl, h1, h2⟩
end
set_option maxRecDepth 100000 in
set_option maxHeartbeats 4000000 in
theorem rsame13 {w : World} {v1 v2 : Value} {l : List (Int × Int)} (h1 : RdR w v1 l) (h2 : RdR w v2 l) (hl : l.length ≤ 100000) :
    Calls Try.prog 38 #[v1, v2] w fun e w' => e = .returned (.bool true) ∧ ∃ q, w' = w.drewN q := by
  obtain ⟨a1, c1, rfl, _⟩ := RdD.form h1
  obtain ⟨a2, c2, rfl, _⟩ := RdD.form h2
  obtain ⟨b1, o1, hc1⟩ := RdD.at h1
  obtain ⟨b2, o2, hc2⟩ := RdD.at h2
  have HC1 := Lib.hid hc1
  have HC2 := Lib.hid hc2
  clear h1 h2 hc1 hc2
  go_enter Try.func38, Try.ntmps38
  go_wp2_with fail
  go_loopw [5] (fun vk wr => ∃ k q : Nat, k ≤ l.length ∧ vk = .int .i64 k ∧ wr = w.drewN q) (fun vk _ => l.length - (RowKit.intOf vk).toNat)
  case atStart => exact ⟨0, 0, by omega, rfl, rfl⟩
  case round =>
    obtain ⟨k, q, hk, rfl, rfl⟩ := hrel
    by_cases hlt : k < l.length
    · obtain ⟨ha1, hr1⟩ := HC1.out k hlt
      obtain ⟨ha2, hr2⟩ := HC2.out k hlt
      have hi1 := fun w' => run_idxS Try.underlying39 Try.sizeRep13 (cap := c1) ha1 hlt (k : Int) rfl w'
      have hi2 := fun w' => run_idxS Try.underlying39 Try.sizeRep13 (cap := c2) ha2 hlt (k : Int) rfl w'
      have x0 := hr1 0 _ rfl
      have x1 := hr1 1 _ rfl
      have y0 := hr2 0 _ rfl
      have y1 := hr2 1 _ rfl
      simp only [Nat.add_zero] at x0 y0
      have HA1 := Lib.hid ha1
      have HA2 := Lib.hid ha2
      clear ha1 ha2 hr1 hr2
      generalize atD ((0 : Int), (0 : Int)) l k = p at *
      obtain ⟨px, py⟩ := p
      go_wp2_with fail
      go_quiet (fail)
      go_wp2_with fail
      go_roundw
      case rel => exact ⟨k + 1, _, by omega, by go_num, rfl⟩
      case measure => simp [RowKit.intOf]; omega
    · obtain rfl : k = l.length := by omega
      go_wp2_with fail
      go_ret
      exact ⟨rfl, _, rfl⟩
def samV (g gb : Nat) (T : Tab) (ap : Option Addr) (cp : Nat) (am : Option Addr) (cm : Nat) (i : Nat) (v : Value) (W : World) : Prop := match i with
  | 0 => v = .pointer (some ⟨g, 0, none⟩)
  | 1 => v = .int .i64 T.blocks
  | 2 => v = .pointer (some ⟨gb, 0, none⟩)
  | 3 => v = .int .i64 T.blocks
  | 4 => v = .bool false
  | 5 => v = .bool false
  | 6 => v = .pointer (some ⟨g, 0, none⟩)
  | 7 => v = .int .i64 ((T.first : Int) + T.spares)
  | 8 => v = tagg T (.slice ap T.prim.length cp) (.slice am T.reps.length cm)
  | 9 => v = .int .i64 ((T.first : Int) + T.spares)
  | 10 => v = .bool false
  | 11 => v = .bool false
  | 12 => v = .bool false
  | 13 => v = .pointer (some ⟨g, 0, none⟩)
  | 14 => v = .int .i64 ((T.spares : Int) - T.used)
  | 15 => v = .pointer (some ⟨gb, 1, none⟩)
  | 16 => v = .int .i64 T.spares
  | 17 => v = .pointer (some ⟨gb, 2, none⟩)
  | 18 => v = .int .i64 T.used
  | 19 => v = .int .i64 ((T.spares : Int) - T.used)
  | 20 => v = .bool false
  | 21 => v = .bool false
  | 22 => v = .bool false
  | 23 => v = .pointer (some ⟨g, 0, none⟩)
  | 24 => ∃ a c, v = .slice a T.prim.length c ∧ RdI W v T.prim
  | 25 => v = .pointer (some ⟨gb, 3, none⟩)
  | 26 => v = .slice ap T.prim.length cp
  | 27 => v = .bool true
  | 28 => v = .bool false
  | 29 => v = .bool false
  | 30 => v = .bool false
  | 31 => v = .pointer (some ⟨g, 0, none⟩)
  | 32 => ∃ a c, v = .slice a T.reps.length c ∧ RdR W v T.reps
  | 33 => v = .pointer (some ⟨gb, 4, none⟩)
  | 34 => v = .slice am T.reps.length cm
  | 35 => v = .bool true
  | 36 => v = .bool false
  | 37 => v = .bool false
  | 38 => v = .bool false
  | 39 => v = .pointer (some ⟨g, 0, none⟩)
  | 40 => ∃ a c, v = .slice a T.bad.length c ∧ RdI W v T.bad
  | 41 => v = tagg T (.slice ap T.prim.length cp) (.slice am T.reps.length cm)
  | 42 => ∃ a c, v = .slice a T.bad.length c ∧ RdI W v T.bad
  | 43 => v = .bool true
  | 44 => v = .bool false
  | 45 => v = .bool false
  | 46 => v = .bool false
  | 47 => v = .pointer (some ⟨g, 0, none⟩)
  | 48 => v = .string (str (enc13 T))
  | 49 => v = tagg T (.slice ap T.prim.length cp) (.slice am T.reps.length cm)
  | 50 => v = .string (str (enc13 T))
  | 51 => v = .bool false
  | 52 => v = .bool false
  | _ => True
theorem samV_keep (g gb : Nat) (T : Tab) (ap : Option Addr) (cp : Nat) (am : Option Addr) (cm : Nat) (i : Nat) (v : Value) (W W' : World) (hR : (fun w W => Below w.heap.size w W) W W') (h : samV g gb T ap cp am cm i v W) : samV g gb T ap cp am cm i v W' := by
  by_cases h24 : i = 24
  · subst h24
    obtain ⟨a, c, h1, h2⟩ := h
    exact ⟨a, c, h1, h2.keep hR⟩
  by_cases h32 : i = 32
  · subst h32
    obtain ⟨a, c, h1, h2⟩ := h
    exact ⟨a, c, h1, h2.keep hR⟩
  by_cases h40 : i = 40
  · subst h40
    obtain ⟨a, c, h1, h2⟩ := h
    exact ⟨a, c, h1, h2.keep hR⟩
  by_cases h42 : i = 42
  · subst h42
    obtain ⟨a, c, h1, h2⟩ := h
    exact ⟨a, c, h1, h2.keep hR⟩
  unfold samV at h ⊢
  split at h <;> first | exact h | exact absurd rfl h24 | exact absurd rfl h32 | exact absurd rfl h40 | exact absurd rfl h42
set_option maxRecDepth 100000 in
set_option maxHeartbeats 8000000 in
theorem same13 {w : World} {g gm : Nat} {vp vp2 vm : Value} {T : Tab} (h : TabW w g gm vp T) (h2 : RfW w vp2 vm T) :
    Calls Try.prog 21 #[.pointer (some ⟨g, 0, none⟩), tagg T vp2 vm] w fun e w' => e = .returned (.bool true) ∧ Below w.heap.size w w' := by
  have HOK := Lib.hid h.ok
  have HKL : Hid (T.reps.length ≤ 64) := Lib.hid h2.small.2.2.2.2.1
  obtain ⟨ap, cp, am, cm, rfl, rfl⟩ := h2.form
  have hA := (Below.refl w.heap.size w).alloc (Nat.le_refl _) (.cells (tcell T (.slice ap T.prim.length cp) (.slice am T.reps.length cm)).toArray 42)
  have HKT := Lib.hid (fun W (hW : Below w.heap.size w W) => h.below hW)
  have HKR := Lib.hid (fun W (hW : Below w.heap.size w W) => h2.below hW)
  obtain ⟨gb, hgb⟩ : ∃ gb, gb = w.heap.size := ⟨_, rfl⟩
  obtain ⟨w2, hw2⟩ : ∃ w2, w2 = w.alloc (.cells (tcell T (.slice ap T.prim.length cp) (.slice am T.reps.length cm)).toArray 42) := ⟨_, rfl⟩
  have hbx := Bx.new w 42 (tcell T (.slice ap T.prim.length cp) (.slice am T.reps.length cm))
  rw [← hw2, ← hgb] at hbx
  rw [← hw2] at hA
  have HA := Lib.hid hA
  have HBX := Lib.hid (fun W (hW : Below w2.heap.size w2 W) => hbx.call hW)
  have HW2 := Lib.hid hw2
  have HGB := Lib.hid hgb
  replace HKT := Lib.hid (fun W (hW : Below w2.heap.size w2 W) => HKT.out W (hA.trans (hW.mono hA.size)))
  replace HKR := Lib.hid (fun W (hW : Below w2.heap.size w2 W) => HKR.out W (hA.trans (hW.mono hA.size)))
  clear h h2 hbx hA hgb hw2
  go_enter Try.func21, Try.ntmps21
  go_upto_region 1 with (fail)
  rw [show (w.alloc (.cells #[.int .i64 T.blocks, .int .i64 T.spares, .int .i64 T.used, .slice ap T.prim.length cp, .slice am T.reps.length cm] 42)) = w2 from HW2.out.symm, show w.heap.size = gb from HGB.out.symm]
  refine wp_region_inr (by kernel_rfl) (fun w W => Below w.heap.size w W) (fun W => Below w2.heap.size w2 W) (samV g gb T ap cp am cm) (fun _ => false) (by kernel_rfl) (fun _ _ hR hc => hc.trans (hR.mono hc.size)) (samV_keep g gb T ap cp am cm) ((Below.refl _ _).drew) ⟨?_, ?_, ?_, ?_, ?_, ?_, ?_, ?_, ?_, ?_, ?_, ?_, ?_, ?_, ?_, ?_, ?_, ?_, ?_, ?_, ?_, ?_, ?_, ?_, ?_, ?_, ?_, ?_, ?_, ?_, ?_, ?_, ?_, ?_, ?_, ?_, ?_, ?_, ?_, ?_, ?_, ?_, ?_, ?_, ?_, ?_, ?_, ?_, ?_, ?_, ?_, ?_, ?_, trivial⟩ ?_
  · intro a W hc hsz hold hdep
    have o0 : a.tmps.getD 0 undef = .pointer (some ⟨g, 0, none⟩) := hold 0 (by kernel_rfl)
    clear hsz hold hdep
    refine stepR_do rfl (wanted_none rfl) ?_
    refine stepR_val (v := .pointer (some ⟨g, 0, none⟩)) (Below.refl _ _) rfl fun K hK => ?_
    go_simp
    exact hK
  · intro a W hc hsz hold hdep
    have d0 : a.tmps.getD 14 undef = .pointer (some ⟨g, 0, none⟩) := hdep 0 (by kernel_rfl) rfl _ rfl
    have e0 : a.tmps[14]?.getD undef = .pointer (some ⟨g, 0, none⟩) := by rw [← Array.getD_eq_getD_getElem?]; exact d0
    clear hsz hold hdep
    refine stepR_do rfl (wanted_none rfl) ?_
    have HCC := Lib.hid (blocks_any (HKT.out W hc))
    have hK' := fun (K : Act → World → Prop) => K
    refine stepR_callx fun K hK => ?_
    clear hc
    go_simp
    refine HCC.out.mono ?_
    rintro e w' ⟨rfl, hw⟩
    exact hK _ _ (hw ▸ Below.refl _ _) rfl
  · intro a W hc hsz hold hdep
    have o3 : a.tmps.getD 3 undef = .pointer (some ⟨gb, 0, none⟩) := hold 3 (by kernel_rfl)
    clear hsz hold hdep
    refine stepR_do rfl (wanted_none rfl) ?_
    refine stepR_val (v := .pointer (some ⟨gb, 0, none⟩)) (Below.refl _ _) rfl fun K hK => ?_
    go_simp
    exact hK
  · intro a W hc hsz hold hdep
    have d2 : a.tmps.getD 16 undef = .pointer (some ⟨gb, 0, none⟩) := hdep 2 (by kernel_rfl) rfl _ rfl
    have q0 := (HBX.out W hc).cell (i := 0) rfl
    clear hsz hold hdep
    refine stepR_do rfl (wanted_none rfl) ?_
    refine stepR_val (v := .int .i64 T.blocks) (Below.refl _ _) rfl fun K hK => ?_
    go_simp
    exact hK
  · intro a W hc hsz hold hdep
    have d1 : a.tmps.getD 15 undef = .int .i64 T.blocks := hdep 1 (by kernel_rfl) rfl _ rfl
    have d3 : a.tmps.getD 17 undef = .int .i64 T.blocks := hdep 3 (by kernel_rfl) rfl _ rfl
    clear hsz hold hdep
    refine stepR_do rfl (wanted_none rfl) ?_
    refine stepR_val (v := .bool false) (Below.refl _ _) rfl fun K hK => ?_
    go_simp
    exact hK
  · intro a W hc hsz hold hdep
    have d4 : a.tmps.getD 18 undef = .bool false := hdep 4 (by kernel_rfl) rfl _ rfl
    clear hsz hold hdep
    refine stepR_do rfl (wanted_none rfl) ?_
    refine stepR_val (v := .bool false) (Below.refl _ _) rfl fun K hK => ?_
    go_simp
    exact hK
  · intro a W hc hsz hold hdep
    have o0 : a.tmps.getD 0 undef = .pointer (some ⟨g, 0, none⟩) := hold 0 (by kernel_rfl)
    have g6 : a.tmps.getD 19 undef = .bool false := hdep 5 (by kernel_rfl) rfl _ rfl
    clear hsz hold hdep
    refine stepR_do rfl ((wanted_of (want := false) rfl rfl g6).trans rfl) ?_
    clear g6
    refine stepR_val (v := .pointer (some ⟨g, 0, none⟩)) (Below.refl _ _) rfl fun K hK => ?_
    go_simp
    exact hK
  · intro a W hc hsz hold hdep
    have d6 : a.tmps.getD 20 undef = .pointer (some ⟨g, 0, none⟩) := hdep 6 (by kernel_rfl) rfl _ rfl
    have e6 : a.tmps[20]?.getD undef = .pointer (some ⟨g, 0, none⟩) := by rw [← Array.getD_eq_getD_getElem?]; exact d6
    have g7 : a.tmps.getD 19 undef = .bool false := hdep 5 (by kernel_rfl) rfl _ rfl
    clear hsz hold hdep
    refine stepR_do rfl ((wanted_of (want := false) rfl rfl g7).trans rfl) ?_
    have HCC := Lib.hid (sectors_any (HKT.out W hc))
    have hK' := fun (K : Act → World → Prop) => K
    refine stepR_callx fun K hK => ?_
    clear hc
    go_simp
    refine HCC.out.mono ?_
    rintro e w' ⟨rfl, q, rfl⟩
    exact hK _ _ (Below.drewN (Below.refl _ _) q) rfl
  · intro a W hc hsz hold hdep
    have o3 : a.tmps.getD 3 undef = .pointer (some ⟨gb, 0, none⟩) := hold 3 (by kernel_rfl)
    have g8 : a.tmps.getD 19 undef = .bool false := hdep 5 (by kernel_rfl) rfl _ rfl
    have q0 := (HBX.out W hc).cell (i := 0) rfl
    have q1 := (HBX.out W hc).cell (i := 1) rfl
    have q2 := (HBX.out W hc).cell (i := 2) rfl
    have q3 := (HBX.out W hc).cell (i := 3) rfl
    have q4 := (HBX.out W hc).cell (i := 4) rfl
    clear hsz hold hdep
    refine stepR_do rfl ((wanted_of (want := false) rfl rfl g8).trans rfl) ?_
    clear g8
    refine stepR_val (v := tagg T (.slice ap T.prim.length cp) (.slice am T.reps.length cm)) (Below.refl _ _) rfl fun K hK => ?_
    go_simp
    exact hK
  · intro a W hc hsz hold hdep
    have d8 : a.tmps.getD 22 undef = tagg T (.slice ap T.prim.length cp) (.slice am T.reps.length cm) := hdep 8 (by kernel_rfl) rfl _ rfl
    have e8 : a.tmps[22]?.getD undef = tagg T (.slice ap T.prim.length cp) (.slice am T.reps.length cm) := by rw [← Array.getD_eq_getD_getElem?]; exact d8
    have g9 : a.tmps.getD 19 undef = .bool false := hdep 5 (by kernel_rfl) rfl _ rfl
    clear hsz hold hdep
    refine stepR_do rfl ((wanted_of (want := false) rfl rfl g9).trans rfl) ?_
    have HCC := Lib.hid (rsectors13 (HKR.out W hc))
    have hK' := fun (K : Act → World → Prop) => K
    refine stepR_callx fun K hK => ?_
    clear hc
    go_simp
    refine HCC.out.mono ?_
    rintro e w' ⟨rfl, hb⟩
    exact hK _ _ (hb) rfl
  · intro a W hc hsz hold hdep
    have d7 : a.tmps.getD 21 undef = .int .i64 ((T.first : Int) + T.spares) := hdep 7 (by kernel_rfl) rfl _ rfl
    have d9 : a.tmps.getD 23 undef = .int .i64 ((T.first : Int) + T.spares) := hdep 9 (by kernel_rfl) rfl _ rfl
    have g10 : a.tmps.getD 19 undef = .bool false := hdep 5 (by kernel_rfl) rfl _ rfl
    clear hsz hold hdep
    refine stepR_do rfl ((wanted_of (want := false) rfl rfl g10).trans rfl) ?_
    clear g10
    refine stepR_val (v := .bool false) (Below.refl _ _) rfl fun K hK => ?_
    go_simp
    exact hK
  · intro a W hc hsz hold hdep
    have d5 : a.tmps.getD 19 undef = .bool false := hdep 5 (by kernel_rfl) rfl _ rfl
    have d10 : a.tmps.getD 24 undef = .bool false := hdep 10 (by kernel_rfl) rfl _ rfl
    clear hsz hold hdep
    refine stepR_do rfl (wanted_none rfl) ?_
    refine stepR_val (v := .bool false) (Below.refl _ _) rfl fun K hK => ?_
    go_simp
    exact hK
  · intro a W hc hsz hold hdep
    have d11 : a.tmps.getD 25 undef = .bool false := hdep 11 (by kernel_rfl) rfl _ rfl
    clear hsz hold hdep
    refine stepR_do rfl (wanted_none rfl) ?_
    refine stepR_val (v := .bool false) (Below.refl _ _) rfl fun K hK => ?_
    go_simp
    exact hK
  · intro a W hc hsz hold hdep
    have o0 : a.tmps.getD 0 undef = .pointer (some ⟨g, 0, none⟩) := hold 0 (by kernel_rfl)
    have g13 : a.tmps.getD 26 undef = .bool false := hdep 12 (by kernel_rfl) rfl _ rfl
    clear hsz hold hdep
    refine stepR_do rfl ((wanted_of (want := false) rfl rfl g13).trans rfl) ?_
    clear g13
    refine stepR_val (v := .pointer (some ⟨g, 0, none⟩)) (Below.refl _ _) rfl fun K hK => ?_
    go_simp
    exact hK
  · intro a W hc hsz hold hdep
    have d13 : a.tmps.getD 27 undef = .pointer (some ⟨g, 0, none⟩) := hdep 13 (by kernel_rfl) rfl _ rfl
    have e13 : a.tmps[27]?.getD undef = .pointer (some ⟨g, 0, none⟩) := by rw [← Array.getD_eq_getD_getElem?]; exact d13
    have g14 : a.tmps.getD 26 undef = .bool false := hdep 12 (by kernel_rfl) rfl _ rfl
    clear hsz hold hdep
    refine stepR_do rfl ((wanted_of (want := false) rfl rfl g14).trans rfl) ?_
    have HCC := Lib.hid (free_any (HKT.out W hc))
    have hK' := fun (K : Act → World → Prop) => K
    refine stepR_callx fun K hK => ?_
    clear hc
    go_simp
    refine HCC.out.mono ?_
    rintro e w' ⟨rfl, q, rfl⟩
    exact hK _ _ (Below.drewN (Below.refl _ _) q) rfl
  · intro a W hc hsz hold hdep
    have o3 : a.tmps.getD 3 undef = .pointer (some ⟨gb, 0, none⟩) := hold 3 (by kernel_rfl)
    have g15 : a.tmps.getD 26 undef = .bool false := hdep 12 (by kernel_rfl) rfl _ rfl
    clear hsz hold hdep
    refine stepR_do rfl ((wanted_of (want := false) rfl rfl g15).trans rfl) ?_
    clear g15
    refine stepR_val (v := .pointer (some ⟨gb, 1, none⟩)) (Below.refl _ _) rfl fun K hK => ?_
    go_simp
    exact hK
  · intro a W hc hsz hold hdep
    have d15 : a.tmps.getD 29 undef = .pointer (some ⟨gb, 1, none⟩) := hdep 15 (by kernel_rfl) rfl _ rfl
    have g16 : a.tmps.getD 26 undef = .bool false := hdep 12 (by kernel_rfl) rfl _ rfl
    have q1 := (HBX.out W hc).cell (i := 1) rfl
    clear hsz hold hdep
    refine stepR_do rfl ((wanted_of (want := false) rfl rfl g16).trans rfl) ?_
    clear g16
    refine stepR_val (v := .int .i64 T.spares) (Below.refl _ _) rfl fun K hK => ?_
    go_simp
    exact hK
  · intro a W hc hsz hold hdep
    have o3 : a.tmps.getD 3 undef = .pointer (some ⟨gb, 0, none⟩) := hold 3 (by kernel_rfl)
    have g17 : a.tmps.getD 26 undef = .bool false := hdep 12 (by kernel_rfl) rfl _ rfl
    clear hsz hold hdep
    refine stepR_do rfl ((wanted_of (want := false) rfl rfl g17).trans rfl) ?_
    clear g17
    refine stepR_val (v := .pointer (some ⟨gb, 2, none⟩)) (Below.refl _ _) rfl fun K hK => ?_
    go_simp
    exact hK
  · intro a W hc hsz hold hdep
    have d17 : a.tmps.getD 31 undef = .pointer (some ⟨gb, 2, none⟩) := hdep 17 (by kernel_rfl) rfl _ rfl
    have g18 : a.tmps.getD 26 undef = .bool false := hdep 12 (by kernel_rfl) rfl _ rfl
    have q2 := (HBX.out W hc).cell (i := 2) rfl
    clear hsz hold hdep
    refine stepR_do rfl ((wanted_of (want := false) rfl rfl g18).trans rfl) ?_
    clear g18
    refine stepR_val (v := .int .i64 T.used) (Below.refl _ _) rfl fun K hK => ?_
    go_simp
    exact hK
  · intro a W hc hsz hold hdep
    have d16 : a.tmps.getD 30 undef = .int .i64 T.spares := hdep 16 (by kernel_rfl) rfl _ rfl
    have d18 : a.tmps.getD 32 undef = .int .i64 T.used := hdep 18 (by kernel_rfl) rfl _ rfl
    have g19 : a.tmps.getD 26 undef = .bool false := hdep 12 (by kernel_rfl) rfl _ rfl
    have hw1 : IntKind.i64.wrap ((T.spares : Int) - T.used) = (T.spares : Int) - T.used := IntWalk.i64_in _ (by have := HOK.out.sp; have := HOK.out.us; omega)
    clear hsz hold hdep
    refine stepR_do rfl ((wanted_of (want := false) rfl rfl g19).trans rfl) ?_
    clear g19
    refine stepR_val (v := .int .i64 ((T.spares : Int) - T.used)) (Below.refl _ _) rfl fun K hK => ?_
    go_simp
    exact hK
  · intro a W hc hsz hold hdep
    have d14 : a.tmps.getD 28 undef = .int .i64 ((T.spares : Int) - T.used) := hdep 14 (by kernel_rfl) rfl _ rfl
    have d19 : a.tmps.getD 33 undef = .int .i64 ((T.spares : Int) - T.used) := hdep 19 (by kernel_rfl) rfl _ rfl
    have g20 : a.tmps.getD 26 undef = .bool false := hdep 12 (by kernel_rfl) rfl _ rfl
    clear hsz hold hdep
    refine stepR_do rfl ((wanted_of (want := false) rfl rfl g20).trans rfl) ?_
    clear g20
    refine stepR_val (v := .bool false) (Below.refl _ _) rfl fun K hK => ?_
    go_simp
    exact hK
  · intro a W hc hsz hold hdep
    have d12 : a.tmps.getD 26 undef = .bool false := hdep 12 (by kernel_rfl) rfl _ rfl
    have d20 : a.tmps.getD 34 undef = .bool false := hdep 20 (by kernel_rfl) rfl _ rfl
    clear hsz hold hdep
    refine stepR_do rfl (wanted_none rfl) ?_
    refine stepR_val (v := .bool false) (Below.refl _ _) rfl fun K hK => ?_
    go_simp
    exact hK
  · intro a W hc hsz hold hdep
    have d21 : a.tmps.getD 35 undef = .bool false := hdep 21 (by kernel_rfl) rfl _ rfl
    clear hsz hold hdep
    refine stepR_do rfl (wanted_none rfl) ?_
    refine stepR_val (v := .bool false) (Below.refl _ _) rfl fun K hK => ?_
    go_simp
    exact hK
  · intro a W hc hsz hold hdep
    have o0 : a.tmps.getD 0 undef = .pointer (some ⟨g, 0, none⟩) := hold 0 (by kernel_rfl)
    have g23 : a.tmps.getD 36 undef = .bool false := hdep 22 (by kernel_rfl) rfl _ rfl
    clear hsz hold hdep
    refine stepR_do rfl ((wanted_of (want := false) rfl rfl g23).trans rfl) ?_
    clear g23
    refine stepR_val (v := .pointer (some ⟨g, 0, none⟩)) (Below.refl _ _) rfl fun K hK => ?_
    go_simp
    exact hK
  · intro a W hc hsz hold hdep
    have d23 : a.tmps.getD 37 undef = .pointer (some ⟨g, 0, none⟩) := hdep 23 (by kernel_rfl) rfl _ rfl
    have e23 : a.tmps[37]?.getD undef = .pointer (some ⟨g, 0, none⟩) := by rw [← Array.getD_eq_getD_getElem?]; exact d23
    have g24 : a.tmps.getD 36 undef = .bool false := hdep 22 (by kernel_rfl) rfl _ rfl
    clear hsz hold hdep
    refine stepR_do rfl ((wanted_of (want := false) rfl rfl g24).trans rfl) ?_
    have HCC := Lib.hid (primary_any (HKT.out W hc))
    refine stepR_callx fun K hK => ?_
    have HWK := Lib.hid hc
    clear hc
    go_simp
    refine HCC.out.mono ?_
    rintro e w' ⟨v9, rfl, ho, hb⟩
    obtain ⟨a9, c9, rfl⟩ := ownD_form ho
    exact hK _ w' hb ⟨a9, c9, rfl, rdI_own ho rfl (by have h1 := HOK.out.us; have h2 := HOK.out.sp; have h4 := HOK.out.pl; omega) (fun x hx => by
        have h2 := HOK.out.us
        have h3 := HOK.out.sp
        have h4 := HOK.out.pl
        have h5 := HOK.out.b2
        have h6 := first_int T
        have h7 := HOK.out.pr x hx
        omega)⟩
  · intro a W hc hsz hold hdep
    have o3 : a.tmps.getD 3 undef = .pointer (some ⟨gb, 0, none⟩) := hold 3 (by kernel_rfl)
    have g25 : a.tmps.getD 36 undef = .bool false := hdep 22 (by kernel_rfl) rfl _ rfl
    clear hsz hold hdep
    refine stepR_do rfl ((wanted_of (want := false) rfl rfl g25).trans rfl) ?_
    clear g25
    refine stepR_val (v := .pointer (some ⟨gb, 3, none⟩)) (Below.refl _ _) rfl fun K hK => ?_
    go_simp
    exact hK
  · intro a W hc hsz hold hdep
    have d25 : a.tmps.getD 39 undef = .pointer (some ⟨gb, 3, none⟩) := hdep 25 (by kernel_rfl) rfl _ rfl
    have g26 : a.tmps.getD 36 undef = .bool false := hdep 22 (by kernel_rfl) rfl _ rfl
    have q3 := (HBX.out W hc).cell (i := 3) rfl
    clear hsz hold hdep
    refine stepR_do rfl ((wanted_of (want := false) rfl rfl g26).trans rfl) ?_
    clear g26
    refine stepR_val (v := .slice ap T.prim.length cp) (Below.refl _ _) rfl fun K hK => ?_
    go_simp
    exact hK
  · intro a W hc hsz hold hdep
    have x24 := hdep 24 (by kernel_rfl) rfl _ rfl
    have d26 : a.tmps.getD 40 undef = .slice ap T.prim.length cp := hdep 26 (by kernel_rfl) rfl _ rfl
    have e26 : a.tmps[40]?.getD undef = .slice ap T.prim.length cp := by rw [← Array.getD_eq_getD_getElem?]; exact d26
    have g27 : a.tmps.getD 36 undef = .bool false := hdep 22 (by kernel_rfl) rfl _ rfl
    clear hsz hold hdep
    refine stepR_do rfl ((wanted_of (want := false) rfl rfl g27).trans rfl) ?_
    obtain ⟨a24, c24, d24, hr24⟩ : ∃ a0 c0, a.tmps.getD 38 undef = .slice a0 T.prim.length c0 ∧ RdI W (a.tmps.getD 38 undef) T.prim := x24
    have e24 : a.tmps[38]?.getD undef = .slice a24 T.prim.length c24 := by rw [← Array.getD_eq_getD_getElem?]; exact d24
    rw [d24] at hr24
    have HCC := Lib.hid (equal13 hr24 (HKR.out W hc).pri)
    clear hr24
    refine stepR_callx fun K hK => ?_
    clear hc
    go_simp
    refine HCC.out.mono ?_
    rintro e w' ⟨rfl, q, rfl⟩
    exact hK _ _ (Below.drewN (Below.refl _ _) q) rfl
  · intro a W hc hsz hold hdep
    have d27 : a.tmps.getD 41 undef = .bool true := hdep 27 (by kernel_rfl) rfl _ rfl
    have g28 : a.tmps.getD 36 undef = .bool false := hdep 22 (by kernel_rfl) rfl _ rfl
    clear hsz hold hdep
    refine stepR_do rfl ((wanted_of (want := false) rfl rfl g28).trans rfl) ?_
    clear g28
    refine stepR_val (v := .bool false) (Below.refl _ _) rfl fun K hK => ?_
    go_simp
    exact hK
  · intro a W hc hsz hold hdep
    have d22 : a.tmps.getD 36 undef = .bool false := hdep 22 (by kernel_rfl) rfl _ rfl
    have d28 : a.tmps.getD 42 undef = .bool false := hdep 28 (by kernel_rfl) rfl _ rfl
    clear hsz hold hdep
    refine stepR_do rfl (wanted_none rfl) ?_
    refine stepR_val (v := .bool false) (Below.refl _ _) rfl fun K hK => ?_
    go_simp
    exact hK
  · intro a W hc hsz hold hdep
    have d29 : a.tmps.getD 43 undef = .bool false := hdep 29 (by kernel_rfl) rfl _ rfl
    clear hsz hold hdep
    refine stepR_do rfl (wanted_none rfl) ?_
    refine stepR_val (v := .bool false) (Below.refl _ _) rfl fun K hK => ?_
    go_simp
    exact hK
  · intro a W hc hsz hold hdep
    have o0 : a.tmps.getD 0 undef = .pointer (some ⟨g, 0, none⟩) := hold 0 (by kernel_rfl)
    have g31 : a.tmps.getD 44 undef = .bool false := hdep 30 (by kernel_rfl) rfl _ rfl
    clear hsz hold hdep
    refine stepR_do rfl ((wanted_of (want := false) rfl rfl g31).trans rfl) ?_
    clear g31
    refine stepR_val (v := .pointer (some ⟨g, 0, none⟩)) (Below.refl _ _) rfl fun K hK => ?_
    go_simp
    exact hK
  · intro a W hc hsz hold hdep
    have d31 : a.tmps.getD 45 undef = .pointer (some ⟨g, 0, none⟩) := hdep 31 (by kernel_rfl) rfl _ rfl
    have e31 : a.tmps[45]?.getD undef = .pointer (some ⟨g, 0, none⟩) := by rw [← Array.getD_eq_getD_getElem?]; exact d31
    have g32 : a.tmps.getD 44 undef = .bool false := hdep 30 (by kernel_rfl) rfl _ rfl
    clear hsz hold hdep
    refine stepR_do rfl ((wanted_of (want := false) rfl rfl g32).trans rfl) ?_
    have HCC := Lib.hid ((replaced_any (HKT.out W hc)).2)
    refine stepR_callx fun K hK => ?_
    have HWK := Lib.hid hc
    clear hc
    go_simp
    refine HCC.out.mono ?_
    rintro e w' ⟨v9, rfl, ho, hb⟩
    obtain ⟨a9, c9, rfl⟩ := ownD_form ho
    exact hK _ w' hb ⟨a9, c9, by rw [T.reps_length]; rfl, rdR_own ho⟩
  · intro a W hc hsz hold hdep
    have o3 : a.tmps.getD 3 undef = .pointer (some ⟨gb, 0, none⟩) := hold 3 (by kernel_rfl)
    have g33 : a.tmps.getD 44 undef = .bool false := hdep 30 (by kernel_rfl) rfl _ rfl
    clear hsz hold hdep
    refine stepR_do rfl ((wanted_of (want := false) rfl rfl g33).trans rfl) ?_
    clear g33
    refine stepR_val (v := .pointer (some ⟨gb, 4, none⟩)) (Below.refl _ _) rfl fun K hK => ?_
    go_simp
    exact hK
  · intro a W hc hsz hold hdep
    have d33 : a.tmps.getD 47 undef = .pointer (some ⟨gb, 4, none⟩) := hdep 33 (by kernel_rfl) rfl _ rfl
    have g34 : a.tmps.getD 44 undef = .bool false := hdep 30 (by kernel_rfl) rfl _ rfl
    have q4 := (HBX.out W hc).cell (i := 4) rfl
    clear hsz hold hdep
    refine stepR_do rfl ((wanted_of (want := false) rfl rfl g34).trans rfl) ?_
    clear g34
    refine stepR_val (v := .slice am T.reps.length cm) (Below.refl _ _) rfl fun K hK => ?_
    go_simp
    exact hK
  · intro a W hc hsz hold hdep
    have x32 := hdep 32 (by kernel_rfl) rfl _ rfl
    have d34 : a.tmps.getD 48 undef = .slice am T.reps.length cm := hdep 34 (by kernel_rfl) rfl _ rfl
    have e34 : a.tmps[48]?.getD undef = .slice am T.reps.length cm := by rw [← Array.getD_eq_getD_getElem?]; exact d34
    have g35 : a.tmps.getD 44 undef = .bool false := hdep 30 (by kernel_rfl) rfl _ rfl
    clear hsz hold hdep
    refine stepR_do rfl ((wanted_of (want := false) rfl rfl g35).trans rfl) ?_
    obtain ⟨a32, c32, d32, hr32⟩ : ∃ a0 c0, a.tmps.getD 46 undef = .slice a0 T.reps.length c0 ∧ RdR W (a.tmps.getD 46 undef) T.reps := x32
    have e32 : a.tmps[46]?.getD undef = .slice a32 T.reps.length c32 := by rw [← Array.getD_eq_getD_getElem?]; exact d32
    rw [d32] at hr32
    have HCC := Lib.hid (rsame13 hr32 (HKR.out W hc).mov (by have := HKL.out; omega))
    clear hr32
    refine stepR_callx fun K hK => ?_
    clear hc
    go_simp
    refine HCC.out.mono ?_
    rintro e w' ⟨rfl, q, rfl⟩
    exact hK _ _ (Below.drewN (Below.refl _ _) q) rfl
  · intro a W hc hsz hold hdep
    have d35 : a.tmps.getD 49 undef = .bool true := hdep 35 (by kernel_rfl) rfl _ rfl
    have g36 : a.tmps.getD 44 undef = .bool false := hdep 30 (by kernel_rfl) rfl _ rfl
    clear hsz hold hdep
    refine stepR_do rfl ((wanted_of (want := false) rfl rfl g36).trans rfl) ?_
    clear g36
    refine stepR_val (v := .bool false) (Below.refl _ _) rfl fun K hK => ?_
    go_simp
    exact hK
  · intro a W hc hsz hold hdep
    have d30 : a.tmps.getD 44 undef = .bool false := hdep 30 (by kernel_rfl) rfl _ rfl
    have d36 : a.tmps.getD 50 undef = .bool false := hdep 36 (by kernel_rfl) rfl _ rfl
    clear hsz hold hdep
    refine stepR_do rfl (wanted_none rfl) ?_
    refine stepR_val (v := .bool false) (Below.refl _ _) rfl fun K hK => ?_
    go_simp
    exact hK
  · intro a W hc hsz hold hdep
    have d37 : a.tmps.getD 51 undef = .bool false := hdep 37 (by kernel_rfl) rfl _ rfl
    clear hsz hold hdep
    refine stepR_do rfl (wanted_none rfl) ?_
    refine stepR_val (v := .bool false) (Below.refl _ _) rfl fun K hK => ?_
    go_simp
    exact hK
  · intro a W hc hsz hold hdep
    have o0 : a.tmps.getD 0 undef = .pointer (some ⟨g, 0, none⟩) := hold 0 (by kernel_rfl)
    have g39 : a.tmps.getD 52 undef = .bool false := hdep 38 (by kernel_rfl) rfl _ rfl
    clear hsz hold hdep
    refine stepR_do rfl ((wanted_of (want := false) rfl rfl g39).trans rfl) ?_
    clear g39
    refine stepR_val (v := .pointer (some ⟨g, 0, none⟩)) (Below.refl _ _) rfl fun K hK => ?_
    go_simp
    exact hK
  · intro a W hc hsz hold hdep
    have d39 : a.tmps.getD 53 undef = .pointer (some ⟨g, 0, none⟩) := hdep 39 (by kernel_rfl) rfl _ rfl
    have e39 : a.tmps[53]?.getD undef = .pointer (some ⟨g, 0, none⟩) := by rw [← Array.getD_eq_getD_getElem?]; exact d39
    have g40 : a.tmps.getD 52 undef = .bool false := hdep 38 (by kernel_rfl) rfl _ rfl
    clear hsz hold hdep
    refine stepR_do rfl ((wanted_of (want := false) rfl rfl g40).trans rfl) ?_
    have HCC := Lib.hid (bad_any (HKT.out W hc))
    refine stepR_callx fun K hK => ?_
    have HWK := Lib.hid hc
    clear hc
    go_simp
    refine HCC.out.mono ?_
    rintro e w' ⟨v9, rfl, ho, hb⟩
    obtain ⟨a9, c9, rfl⟩ := ownD_form ho
    exact hK _ w' hb ⟨a9, c9, rfl, rdI_own ho rfl (by have h1 := HOK.out.us; have h2 := HOK.out.sp; have h4 := HOK.out.pl; have h5 := HOK.out.bad_length; omega) (fun x hx => by
        have h2 := HOK.out.us
        have h3 := HOK.out.sp
        have h4 := HOK.out.pl
        have h5 := HOK.out.b2
        have h6 := first_int T
        have h7 := Tab.mem_bad.1 hx
        omega)⟩
  · intro a W hc hsz hold hdep
    have o3 : a.tmps.getD 3 undef = .pointer (some ⟨gb, 0, none⟩) := hold 3 (by kernel_rfl)
    have g41 : a.tmps.getD 52 undef = .bool false := hdep 38 (by kernel_rfl) rfl _ rfl
    have q0 := (HBX.out W hc).cell (i := 0) rfl
    have q1 := (HBX.out W hc).cell (i := 1) rfl
    have q2 := (HBX.out W hc).cell (i := 2) rfl
    have q3 := (HBX.out W hc).cell (i := 3) rfl
    have q4 := (HBX.out W hc).cell (i := 4) rfl
    clear hsz hold hdep
    refine stepR_do rfl ((wanted_of (want := false) rfl rfl g41).trans rfl) ?_
    clear g41
    refine stepR_val (v := tagg T (.slice ap T.prim.length cp) (.slice am T.reps.length cm)) (Below.refl _ _) rfl fun K hK => ?_
    go_simp
    exact hK
  · intro a W hc hsz hold hdep
    have d41 : a.tmps.getD 55 undef = tagg T (.slice ap T.prim.length cp) (.slice am T.reps.length cm) := hdep 41 (by kernel_rfl) rfl _ rfl
    have e41 : a.tmps[55]?.getD undef = tagg T (.slice ap T.prim.length cp) (.slice am T.reps.length cm) := by rw [← Array.getD_eq_getD_getElem?]; exact d41
    have g42 : a.tmps.getD 52 undef = .bool false := hdep 38 (by kernel_rfl) rfl _ rfl
    clear hsz hold hdep
    refine stepR_do rfl ((wanted_of (want := false) rfl rfl g42).trans rfl) ?_
    have HCC := Lib.hid (rbad13 (HKR.out W hc))
    refine stepR_callx fun K hK => ?_
    have HWK := Lib.hid hc
    clear hc
    go_simp
    refine HCC.out.mono ?_
    rintro e w' ⟨v9, rfl, ho, hb⟩
    obtain ⟨a9, c9, rfl⟩ := ownD_form ho
    exact hK _ w' hb ⟨a9, c9, rfl, rdI_own ho rfl (by have h1 := HOK.out.us; have h2 := HOK.out.sp; have h4 := HOK.out.pl; have h5 := HOK.out.bad_length; omega) (fun x hx => by
        have h2 := HOK.out.us
        have h3 := HOK.out.sp
        have h4 := HOK.out.pl
        have h5 := HOK.out.b2
        have h6 := first_int T
        have h7 := Tab.mem_bad.1 hx
        omega)⟩
  · intro a W hc hsz hold hdep
    have x40 := hdep 40 (by kernel_rfl) rfl _ rfl
    have x42 := hdep 42 (by kernel_rfl) rfl _ rfl
    have g43 : a.tmps.getD 52 undef = .bool false := hdep 38 (by kernel_rfl) rfl _ rfl
    clear hsz hold hdep
    refine stepR_do rfl ((wanted_of (want := false) rfl rfl g43).trans rfl) ?_
    obtain ⟨a40, c40, d40, hr40⟩ : ∃ a0 c0, a.tmps.getD 54 undef = .slice a0 T.bad.length c0 ∧ RdI W (a.tmps.getD 54 undef) T.bad := x40
    have e40 : a.tmps[54]?.getD undef = .slice a40 T.bad.length c40 := by rw [← Array.getD_eq_getD_getElem?]; exact d40
    rw [d40] at hr40
    obtain ⟨a42, c42, d42, hr42⟩ : ∃ a0 c0, a.tmps.getD 56 undef = .slice a0 T.bad.length c0 ∧ RdI W (a.tmps.getD 56 undef) T.bad := x42
    have e42 : a.tmps[56]?.getD undef = .slice a42 T.bad.length c42 := by rw [← Array.getD_eq_getD_getElem?]; exact d42
    rw [d42] at hr42
    have HCC := Lib.hid (equal13 hr40 hr42)
    clear hr40 hr42
    refine stepR_callx fun K hK => ?_
    clear hc
    go_simp
    refine HCC.out.mono ?_
    rintro e w' ⟨rfl, q, rfl⟩
    exact hK _ _ (Below.drewN (Below.refl _ _) q) rfl
  · intro a W hc hsz hold hdep
    have d43 : a.tmps.getD 57 undef = .bool true := hdep 43 (by kernel_rfl) rfl _ rfl
    have g44 : a.tmps.getD 52 undef = .bool false := hdep 38 (by kernel_rfl) rfl _ rfl
    clear hsz hold hdep
    refine stepR_do rfl ((wanted_of (want := false) rfl rfl g44).trans rfl) ?_
    clear g44
    refine stepR_val (v := .bool false) (Below.refl _ _) rfl fun K hK => ?_
    go_simp
    exact hK
  · intro a W hc hsz hold hdep
    have d38 : a.tmps.getD 52 undef = .bool false := hdep 38 (by kernel_rfl) rfl _ rfl
    have d44 : a.tmps.getD 58 undef = .bool false := hdep 44 (by kernel_rfl) rfl _ rfl
    clear hsz hold hdep
    refine stepR_do rfl (wanted_none rfl) ?_
    refine stepR_val (v := .bool false) (Below.refl _ _) rfl fun K hK => ?_
    go_simp
    exact hK
  · intro a W hc hsz hold hdep
    have d45 : a.tmps.getD 59 undef = .bool false := hdep 45 (by kernel_rfl) rfl _ rfl
    clear hsz hold hdep
    refine stepR_do rfl (wanted_none rfl) ?_
    refine stepR_val (v := .bool false) (Below.refl _ _) rfl fun K hK => ?_
    go_simp
    exact hK
  · intro a W hc hsz hold hdep
    have o0 : a.tmps.getD 0 undef = .pointer (some ⟨g, 0, none⟩) := hold 0 (by kernel_rfl)
    have g47 : a.tmps.getD 60 undef = .bool false := hdep 46 (by kernel_rfl) rfl _ rfl
    clear hsz hold hdep
    refine stepR_do rfl ((wanted_of (want := false) rfl rfl g47).trans rfl) ?_
    clear g47
    refine stepR_val (v := .pointer (some ⟨g, 0, none⟩)) (Below.refl _ _) rfl fun K hK => ?_
    go_simp
    exact hK
  · intro a W hc hsz hold hdep
    have d47 : a.tmps.getD 61 undef = .pointer (some ⟨g, 0, none⟩) := hdep 47 (by kernel_rfl) rfl _ rfl
    have e47 : a.tmps[61]?.getD undef = .pointer (some ⟨g, 0, none⟩) := by rw [← Array.getD_eq_getD_getElem?]; exact d47
    have g48 : a.tmps.getD 60 undef = .bool false := hdep 46 (by kernel_rfl) rfl _ rfl
    clear hsz hold hdep
    refine stepR_do rfl ((wanted_of (want := false) rfl rfl g48).trans rfl) ?_
    have HCC := Lib.hid (encode13 (HKT.out W hc))
    have hK' := fun (K : Act → World → Prop) => K
    refine stepR_callx fun K hK => ?_
    clear hc
    go_simp
    refine HCC.out.mono ?_
    rintro e w' ⟨rfl, hb⟩
    exact hK _ _ (hb) rfl
  · intro a W hc hsz hold hdep
    have o3 : a.tmps.getD 3 undef = .pointer (some ⟨gb, 0, none⟩) := hold 3 (by kernel_rfl)
    have g49 : a.tmps.getD 60 undef = .bool false := hdep 46 (by kernel_rfl) rfl _ rfl
    have q0 := (HBX.out W hc).cell (i := 0) rfl
    have q1 := (HBX.out W hc).cell (i := 1) rfl
    have q2 := (HBX.out W hc).cell (i := 2) rfl
    have q3 := (HBX.out W hc).cell (i := 3) rfl
    have q4 := (HBX.out W hc).cell (i := 4) rfl
    clear hsz hold hdep
    refine stepR_do rfl ((wanted_of (want := false) rfl rfl g49).trans rfl) ?_
    clear g49
    refine stepR_val (v := tagg T (.slice ap T.prim.length cp) (.slice am T.reps.length cm)) (Below.refl _ _) rfl fun K hK => ?_
    go_simp
    exact hK
  · intro a W hc hsz hold hdep
    have d49 : a.tmps.getD 63 undef = tagg T (.slice ap T.prim.length cp) (.slice am T.reps.length cm) := hdep 49 (by kernel_rfl) rfl _ rfl
    have e49 : a.tmps[63]?.getD undef = tagg T (.slice ap T.prim.length cp) (.slice am T.reps.length cm) := by rw [← Array.getD_eq_getD_getElem?]; exact d49
    have g50 : a.tmps.getD 60 undef = .bool false := hdep 46 (by kernel_rfl) rfl _ rfl
    clear hsz hold hdep
    refine stepR_do rfl ((wanted_of (want := false) rfl rfl g50).trans rfl) ?_
    have HCC := Lib.hid (rencode13 (HKR.out W hc))
    have hK' := fun (K : Act → World → Prop) => K
    refine stepR_callx fun K hK => ?_
    clear hc
    go_simp
    refine HCC.out.mono ?_
    rintro e w' ⟨rfl, hb⟩
    exact hK _ _ (hb) rfl
  · intro a W hc hsz hold hdep
    have d48 : a.tmps.getD 62 undef = .string (str (enc13 T)) := hdep 48 (by kernel_rfl) rfl _ rfl
    have d50 : a.tmps.getD 64 undef = .string (str (enc13 T)) := hdep 50 (by kernel_rfl) rfl _ rfl
    have g51 : a.tmps.getD 60 undef = .bool false := hdep 46 (by kernel_rfl) rfl _ rfl
    clear hsz hold hdep
    refine stepR_do rfl ((wanted_of (want := false) rfl rfl g51).trans rfl) ?_
    clear g51
    refine stepR_val (v := .bool false) (Below.refl _ _) rfl fun K hK => ?_
    go_simp
    exact hK
  · intro a W hc hsz hold hdep
    have d46 : a.tmps.getD 60 undef = .bool false := hdep 46 (by kernel_rfl) rfl _ rfl
    have d51 : a.tmps.getD 65 undef = .bool false := hdep 51 (by kernel_rfl) rfl _ rfl
    clear hsz hold hdep
    refine stepR_do rfl (wanted_none rfl) ?_
    refine stepR_val (v := .bool false) (Below.refl _ _) rfl fun K hK => ?_
    go_simp
    exact hK
  · intro a W hC hd hsz hold hval
    have d0 : a.tmps.getD 0 undef = .pointer (some ⟨g, 0, none⟩) := hold 0 (by kernel_rfl)
    have d3 : a.tmps.getD 3 undef = .pointer (some ⟨gb, 0, none⟩) := hold 3 (by kernel_rfl)
    have d66 : a.tmps.getD 66 undef = .bool false := hval 52 _ rfl rfl
    clear hold
    obtain ⟨tm, df⟩ := a
    replace hd : df = [] := hd
    replace hsz : tm.size = 115 := hsz
    replace d0 : tm.getD 0 undef = .pointer (some ⟨g, 0, none⟩) := d0
    replace d3 : tm.getD 3 undef = .pointer (some ⟨gb, 0, none⟩) := d3
    replace d66 : tm.getD 66 undef = .bool false := d66
    subst hd
    have e : tm = List.toArray (tm.getD 0 undef :: tm.getD 1 undef :: tm.getD 2 undef :: tm.getD 3 undef :: tm.getD 4 undef :: tm.getD 5 undef :: tm.getD 6 undef :: tm.getD 7 undef :: tm.getD 8 undef :: tm.getD 9 undef :: tm.getD 10 undef :: tm.getD 11 undef :: tm.getD 12 undef :: tm.getD 13 undef :: tm.getD 14 undef :: tm.getD 15 undef :: tm.getD 16 undef :: tm.getD 17 undef :: tm.getD 18 undef :: tm.getD 19 undef :: tm.getD 20 undef :: tm.getD 21 undef :: tm.getD 22 undef :: tm.getD 23 undef :: tm.getD 24 undef :: tm.getD 25 undef :: tm.getD 26 undef :: tm.getD 27 undef :: tm.getD 28 undef :: tm.getD 29 undef :: tm.getD 30 undef :: tm.getD 31 undef :: tm.getD 32 undef :: tm.getD 33 undef :: tm.getD 34 undef :: tm.getD 35 undef :: tm.getD 36 undef :: tm.getD 37 undef :: tm.getD 38 undef :: tm.getD 39 undef :: tm.getD 40 undef :: tm.getD 41 undef :: tm.getD 42 undef :: tm.getD 43 undef :: tm.getD 44 undef :: tm.getD 45 undef :: tm.getD 46 undef :: tm.getD 47 undef :: tm.getD 48 undef :: tm.getD 49 undef :: tm.getD 50 undef :: tm.getD 51 undef :: tm.getD 52 undef :: tm.getD 53 undef :: tm.getD 54 undef :: tm.getD 55 undef :: tm.getD 56 undef :: tm.getD 57 undef :: tm.getD 58 undef :: tm.getD 59 undef :: tm.getD 60 undef :: tm.getD 61 undef :: tm.getD 62 undef :: tm.getD 63 undef :: tm.getD 64 undef :: tm.getD 65 undef :: tm.getD 66 undef :: tm.getD 67 undef :: tm.getD 68 undef :: tm.getD 69 undef :: tm.getD 70 undef :: tm.getD 71 undef :: tm.getD 72 undef :: tm.getD 73 undef :: tm.getD 74 undef :: tm.getD 75 undef :: tm.getD 76 undef :: tm.getD 77 undef :: tm.getD 78 undef :: tm.getD 79 undef :: tm.getD 80 undef :: tm.getD 81 undef :: tm.getD 82 undef :: tm.getD 83 undef :: tm.getD 84 undef :: tm.getD 85 undef :: tm.getD 86 undef :: tm.getD 87 undef :: tm.getD 88 undef :: tm.getD 89 undef :: tm.getD 90 undef :: tm.getD 91 undef :: tm.getD 92 undef :: tm.getD 93 undef :: tm.getD 94 undef :: tm.getD 95 undef :: tm.getD 96 undef :: tm.getD 97 undef :: tm.getD 98 undef :: tm.getD 99 undef :: tm.getD 100 undef :: tm.getD 101 undef :: tm.getD 102 undef :: tm.getD 103 undef :: tm.getD 104 undef :: tm.getD 105 undef :: tm.getD 106 undef :: tm.getD 107 undef :: tm.getD 108 undef :: tm.getD 109 undef :: tm.getD 110 undef :: tm.getD 111 undef :: tm.getD 112 undef :: tm.getD 113 undef :: tm.getD 114 undef :: []) := arr_eq tm 115 hsz
    rw [d0, d3, d66] at e
    clear d0 d3 d66 hsz
    generalize tm.getD 1 undef = v1 at e
    generalize tm.getD 2 undef = v2 at e
    generalize tm.getD 4 undef = v4 at e
    generalize tm.getD 5 undef = v5 at e
    generalize tm.getD 6 undef = v6 at e
    generalize tm.getD 7 undef = v7 at e
    generalize tm.getD 8 undef = v8 at e
    generalize tm.getD 9 undef = v9 at e
    generalize tm.getD 10 undef = v10 at e
    generalize tm.getD 11 undef = v11 at e
    generalize tm.getD 12 undef = v12 at e
    generalize tm.getD 13 undef = v13 at e
    generalize tm.getD 14 undef = v14 at e
    generalize tm.getD 15 undef = v15 at e
    generalize tm.getD 16 undef = v16 at e
    generalize tm.getD 17 undef = v17 at e
    generalize tm.getD 18 undef = v18 at e
    generalize tm.getD 19 undef = v19 at e
    generalize tm.getD 20 undef = v20 at e
    generalize tm.getD 21 undef = v21 at e
    generalize tm.getD 22 undef = v22 at e
    generalize tm.getD 23 undef = v23 at e
    generalize tm.getD 24 undef = v24 at e
    generalize tm.getD 25 undef = v25 at e
    generalize tm.getD 26 undef = v26 at e
    generalize tm.getD 27 undef = v27 at e
    generalize tm.getD 28 undef = v28 at e
    generalize tm.getD 29 undef = v29 at e
    generalize tm.getD 30 undef = v30 at e
    generalize tm.getD 31 undef = v31 at e
    generalize tm.getD 32 undef = v32 at e
    generalize tm.getD 33 undef = v33 at e
    generalize tm.getD 34 undef = v34 at e
    generalize tm.getD 35 undef = v35 at e
    generalize tm.getD 36 undef = v36 at e
    generalize tm.getD 37 undef = v37 at e
    generalize tm.getD 38 undef = v38 at e
    generalize tm.getD 39 undef = v39 at e
    generalize tm.getD 40 undef = v40 at e
    generalize tm.getD 41 undef = v41 at e
    generalize tm.getD 42 undef = v42 at e
    generalize tm.getD 43 undef = v43 at e
    generalize tm.getD 44 undef = v44 at e
    generalize tm.getD 45 undef = v45 at e
    generalize tm.getD 46 undef = v46 at e
    generalize tm.getD 47 undef = v47 at e
    generalize tm.getD 48 undef = v48 at e
    generalize tm.getD 49 undef = v49 at e
    generalize tm.getD 50 undef = v50 at e
    generalize tm.getD 51 undef = v51 at e
    generalize tm.getD 52 undef = v52 at e
    generalize tm.getD 53 undef = v53 at e
    generalize tm.getD 54 undef = v54 at e
    generalize tm.getD 55 undef = v55 at e
    generalize tm.getD 56 undef = v56 at e
    generalize tm.getD 57 undef = v57 at e
    generalize tm.getD 58 undef = v58 at e
    generalize tm.getD 59 undef = v59 at e
    generalize tm.getD 60 undef = v60 at e
    generalize tm.getD 61 undef = v61 at e
    generalize tm.getD 62 undef = v62 at e
    generalize tm.getD 63 undef = v63 at e
    generalize tm.getD 64 undef = v64 at e
    generalize tm.getD 65 undef = v65 at e
    generalize tm.getD 67 undef = v67 at e
    generalize tm.getD 68 undef = v68 at e
    generalize tm.getD 69 undef = v69 at e
    generalize tm.getD 70 undef = v70 at e
    generalize tm.getD 71 undef = v71 at e
    generalize tm.getD 72 undef = v72 at e
    generalize tm.getD 73 undef = v73 at e
    generalize tm.getD 74 undef = v74 at e
    generalize tm.getD 75 undef = v75 at e
    generalize tm.getD 76 undef = v76 at e
    generalize tm.getD 77 undef = v77 at e
    generalize tm.getD 78 undef = v78 at e
    generalize tm.getD 79 undef = v79 at e
    generalize tm.getD 80 undef = v80 at e
    generalize tm.getD 81 undef = v81 at e
    generalize tm.getD 82 undef = v82 at e
    generalize tm.getD 83 undef = v83 at e
    generalize tm.getD 84 undef = v84 at e
    generalize tm.getD 85 undef = v85 at e
    generalize tm.getD 86 undef = v86 at e
    generalize tm.getD 87 undef = v87 at e
    generalize tm.getD 88 undef = v88 at e
    generalize tm.getD 89 undef = v89 at e
    generalize tm.getD 90 undef = v90 at e
    generalize tm.getD 91 undef = v91 at e
    generalize tm.getD 92 undef = v92 at e
    generalize tm.getD 93 undef = v93 at e
    generalize tm.getD 94 undef = v94 at e
    generalize tm.getD 95 undef = v95 at e
    generalize tm.getD 96 undef = v96 at e
    generalize tm.getD 97 undef = v97 at e
    generalize tm.getD 98 undef = v98 at e
    generalize tm.getD 99 undef = v99 at e
    generalize tm.getD 100 undef = v100 at e
    generalize tm.getD 101 undef = v101 at e
    generalize tm.getD 102 undef = v102 at e
    generalize tm.getD 103 undef = v103 at e
    generalize tm.getD 104 undef = v104 at e
    generalize tm.getD 105 undef = v105 at e
    generalize tm.getD 106 undef = v106 at e
    generalize tm.getD 107 undef = v107 at e
    generalize tm.getD 108 undef = v108 at e
    generalize tm.getD 109 undef = v109 at e
    generalize tm.getD 110 undef = v110 at e
    generalize tm.getD 111 undef = v111 at e
    generalize tm.getD 112 undef = v112 at e
    generalize tm.getD 113 undef = v113 at e
    generalize tm.getD 114 undef = v114 at e
    subst e
    have HC := Lib.hid hC
    have hfi : T.first ≤ 5000 := by have := HOK.out.pl; have := HOK.out.b2; unfold Tab.first; omega
    have hsp := HOK.out.sp
    obtain ⟨N, hN⟩ : ∃ N : Nat, N = T.first + T.spares := ⟨_, rfl⟩
    have HN : Hid ((T.first : Int) + T.spares = (N : Int)) := Lib.hid (by omega)
    have hNb : N ≤ 6000 := by omega
    clear hC hval hN hfi hsp
    go_wp2_with fail
    go_loopw [5] (fun vi wr => ∃ i : Int, -1 ≤ i ∧ i ≤ (N : Int) + 1 ∧ vi = .int .i64 i ∧ Below w2.heap.size w2 wr) (fun vi _ => ((N : Int) + 1 - RowKit.intOf vi).toNat)
    case atStart => exact ⟨-1, by omega, by omega, rfl, HC.out⟩
    case round =>
      obtain ⟨i, hi1, hi2, rfl, hB⟩ := hrel
      have HB := Lib.hid hB
      have q0 := (HBX.out _ hB).cell (i := 0) rfl
      have q1 := (HBX.out _ hB).cell (i := 1) rfl
      have q2 := (HBX.out _ hB).cell (i := 2) rfl
      have q3 := (HBX.out _ hB).cell (i := 3) rfl
      have q4 := (HBX.out _ hB).cell (i := 4) rfl
      have HSR := Lib.hid (rsectors13 (HKR.out _ hB))
      rw [HN.out] at HSR
      clear hB
      go_wp2_with fail
      refine HSR.out.mono ?_
      rintro e w5 ⟨rfl, hb5⟩
      have HB5 := Lib.hid (HB.out.trans (hb5.mono HB.out.size))
      clear hb5 q0 q1 q2 q3 q4
      by_cases hlt : i ≤ (N : Int)
      · have HPT := Lib.hid (physical_any (HKT.out _ HB5.out) i (by unfold In64; omega))
        have HPR := Lib.hid (fun W hW => rphysical13 (HKR.out W hW) i (by unfold In64; omega))
        have HBT := Lib.hid (fun W hW => block_any (HKT.out W hW) i (by omega) (by omega))
        have HBR := Lib.hid (fun W hW => rblock13 (HKR.out W hW) i)
        generalize physR T i = pr at *
        generalize blkR T i = br at *
        obtain ⟨pa, pb⟩ := pr
        obtain ⟨ba, bb⟩ := br
        go_wp2_with fail
        refine HPT.out.mono ?_
        rintro e wx ⟨rfl, q6, rfl⟩
        have HB6 := Lib.hid (Below.drewN HB5.out q6)
        generalize w5.drewN q6 = w6 at *
        have q0 := (HBX.out _ HB6.out).cell (i := 0) rfl
        have q1 := (HBX.out _ HB6.out).cell (i := 1) rfl
        have q2 := (HBX.out _ HB6.out).cell (i := 2) rfl
        have q3 := (HBX.out _ HB6.out).cell (i := 3) rfl
        have q4 := (HBX.out _ HB6.out).cell (i := 4) rfl
        go_wp2_with fail
        refine (HPR.out _ HB6.out).mono ?_
        rintro e w7 ⟨rfl, hb7⟩
        have HB7 := Lib.hid (HB6.out.trans (hb7.mono HB6.out.size))
        clear hb7 q0 q1 q2 q3 q4
        go_wp2_with fail
        refine (HBT.out _ HB7.out).mono ?_
        rintro e w8 ⟨rfl, hb8⟩
        have HB8 := Lib.hid (HB7.out.trans (hb8.mono HB7.out.size))
        have q0 := (HBX.out _ HB8.out).cell (i := 0) rfl
        have q1 := (HBX.out _ HB8.out).cell (i := 1) rfl
        have q2 := (HBX.out _ HB8.out).cell (i := 2) rfl
        have q3 := (HBX.out _ HB8.out).cell (i := 3) rfl
        have q4 := (HBX.out _ HB8.out).cell (i := 4) rfl
        clear hb8
        go_wp2_with fail
        refine (HBR.out _ HB8.out).mono ?_
        rintro e w9 ⟨rfl, hb9⟩
        have HB9 := Lib.hid (HB8.out.trans (hb9.mono HB8.out.size))
        clear hb9 q0 q1 q2 q3 q4
        go_wp2_with fail
        go_roundw
        case rel => exact ⟨i + 1, by omega, by omega, by go_num, HB9.out⟩
        case measure => simp [RowKit.intOf]; omega
      · go_wp2_with fail
        go_ret
        exact ⟨rfl, HA.out.trans (HB5.out.mono HA.out.size)⟩
end Go.Proofs.Ytjnedcncfdpjoaa.D13
/- Chapter 13: the law DefectCalls walked. -/
namespace Go.Proofs.Ytjnedcncfdpjoaa.D13
open Go.RowKit Go.Maps
set_option linter.unusedVariables false

set_option maxRecDepth 100000 in
set_option maxHeartbeats 4000000 in
theorem new_badC (b s : Int) (hb : In64 b) (hs : In64 s) (v : Value) (l : List Int) (w : World) (hv : CameI w v l) (h : ¬ (1 ≤ b ∧ b ≤ 4096 ∧ 0 ≤ s ∧ s ≤ 64 ∧ l.length ≤ 256)) :
    Calls Try.prog 10 #[.int .i64 b, .int .i64 s, v] w (NewP b s l w) := by
  have HS : Hid (¬ shp b s l) := Lib.hid fun e => h e.1
  obtain ⟨_, hl, a, c, rfl⟩ := hv
  obtain ⟨b1, b2⟩ := hb
  obtain ⟨s1, s2⟩ := hs
  have hcase : b < 1 ∨ (¬ b < 1 ∧ 4096 < b) ∨ (¬ b < 1 ∧ ¬ 4096 < b ∧ s < 0) ∨ (¬ b < 1 ∧ ¬ 4096 < b ∧ ¬ s < 0 ∧ 64 < s) ∨ (¬ b < 1 ∧ ¬ 4096 < b ∧ ¬ s < 0 ∧ ¬ 64 < s ∧ 256 < l.length) := by omega
  clear h
  generalize l.length = n at *
  rcases hcase with g1 | ⟨g1, g2⟩ | ⟨g1, g2, g3⟩ | ⟨g1, g2, g3, g4⟩ | ⟨g1, g2, g3, g4, g5⟩
  all_goals
    go_enter Try.func10, Try.ntmps10
    go_wp2_with fail
    go_ret2
    exact ⟨Below.refl _ _, .inr ⟨HS.out, rfl⟩⟩
set_option maxRecDepth 100000 in
set_option maxHeartbeats 4000000 in
theorem rnew_badC (b s : Int) (hb : In64 b) (hs : In64 s) (v : Value) (l : List Int) (w : World) (hv : CameI w v l) (h : ¬ (1 ≤ b ∧ b ≤ 4096 ∧ 0 ≤ s ∧ s ≤ 64 ∧ l.length ≤ 256)) :
    Calls Try.prog 19 #[.int .i64 b, .int .i64 s, v] w (RNewP b s l w) := by
  have HS : Hid (¬ shp b s l) := Lib.hid fun e => h e.1
  obtain ⟨_, hl, a, c, rfl⟩ := hv
  obtain ⟨b1, b2⟩ := hb
  obtain ⟨s1, s2⟩ := hs
  have hcase : b < 1 ∨ (¬ b < 1 ∧ 4096 < b) ∨ (¬ b < 1 ∧ ¬ 4096 < b ∧ s < 0) ∨ (¬ b < 1 ∧ ¬ 4096 < b ∧ ¬ s < 0 ∧ 64 < s) ∨ (¬ b < 1 ∧ ¬ 4096 < b ∧ ¬ s < 0 ∧ ¬ 64 < s ∧ 256 < l.length) := by omega
  have hz := zeroTab13
  have HX := Lib.hid (Bx.new w 42 tzero)
  have HL := Lib.hid ((Below.refl w.heap.size w).alloc (Nat.le_refl _) (.cells tzero.toArray 42))
  clear h
  generalize l.length = n at *
  rcases hcase with g1 | ⟨g1, g2⟩ | ⟨g1, g2, g3⟩ | ⟨g1, g2, g3, g4⟩ | ⟨g1, g2, g3, g4, g5⟩
  all_goals
    go_enter Try.func19, Try.ntmps19
    go_wp2_with fail
    have q0 := HX.out.cell (i := 0) rfl
    have q1 := HX.out.cell (i := 1) rfl
    have q2 := HX.out.cell (i := 2) rfl
    have q3 := HX.out.cell (i := 3) rfl
    have q4 := HX.out.cell (i := 4) rfl
    refine bodyPost_ret (v := .tuple #[.agg #[.int .i64 0, .int .i64 0, .int .i64 0, .slice none 0 0, .slice none 0 0], .int .i64 1]) (by simp [results, Try.results19, go_sem, q0, q1, q2, q3, q4]) rfl ⟨HL.out, .inr ⟨HS.out, rfl⟩⟩
theorem CameI.keep {w w' : World} {v : Value} {l : List Int} (h : CameI w v l) (hb : Below w.heap.size w w') : CameI w' v l := ⟨fun hl => (h.1 hl).keep hb, h.2⟩
set_option maxRecDepth 100000 in
set_option maxHeartbeats 4000000 in
theorem dcalls_skip (w : World) (b s : Int) (hb : In64 b) (hs : In64 s) (v1 : Value) (l1 : List Int) (h1 : CameI w v1 l1) (v2 : Value) (l2 : List Int) (h2 : CameI w v2 l2) (hno : (40 < b ∧ b ≤ 4096) ∨ (20 < l1.length ∧ l1.length ≤ 256) ∨ 80 < l2.length) :
    Calls Try.prog 7 #[.int .i64 b, .int .i64 s, v1, v2] w fun e w' => e = .returned (.bool true) ∧ Below w.heap.size w w' := by
  obtain ⟨_, hl1, a1, c1, rfl⟩ := h1
  obtain ⟨_, hl2, a2, c2, rfl⟩ := h2
  obtain ⟨b1, b2⟩ := hb
  have hcase : (40 < b ∧ b ≤ 4096) ∨ (¬ 40 < b ∧ 20 < l1.length ∧ l1.length ≤ 256) ∨ (40 < b ∧ 4096 < b ∧ 20 < l1.length ∧ l1.length ≤ 256) ∨ (¬ 40 < b ∧ ¬ 20 < l1.length ∧ 80 < l2.length) ∨ (¬ 40 < b ∧ 20 < l1.length ∧ 256 < l1.length ∧ 80 < l2.length) ∨ (40 < b ∧ 4096 < b ∧ ¬ 20 < l1.length ∧ 80 < l2.length) ∨ (40 < b ∧ 4096 < b ∧ 20 < l1.length ∧ 256 < l1.length ∧ 80 < l2.length) := by omega
  clear hno
  rcases hcase with ⟨g1, g2⟩ | ⟨g1, g2, g3⟩ | ⟨g1, g2, g3, g4⟩ | ⟨g1, g2, g3⟩ | ⟨g1, g2, g3, g4⟩ | ⟨g1, g2, g3, g4⟩ | ⟨g1, g2, g3, g4, g5⟩
  all_goals
    go_enter Try.func7, Try.ntmps7
    go_wp2_with fail
    refine (awake13_any _).mono ?_
    rintro e w1 ⟨rfl, hb1⟩
    go_wp2_with fail
    go_ret
    exact ⟨rfl, hb1⟩
set_option maxRecDepth 100000 in
set_option maxHeartbeats 8000000 in
/-- neither New takes the arguments -/
theorem dcalls_bad (w : World) (b s : Int) (hb : In64 b) (hs : In64 s) (v1 : Value) (l1 : List Int) (h1 : CameI w v1 l1) (v2 : Value) (l2 : List Int) (h2 : CameI w v2 l2) (hno : ¬ ((40 < b ∧ b ≤ 4096) ∨ (20 < l1.length ∧ l1.length ≤ 256) ∨ 80 < l2.length)) (hsh : ¬ shp b s l1)
    (HN1 : ∀ W, Below w.heap.size w W → Calls Try.prog 10 #[.int .i64 b, .int .i64 s, v1] W (NewP b s l1 W))
    (HN2 : ∀ W, Below w.heap.size w W → Calls Try.prog 19 #[.int .i64 b, .int .i64 s, v1] W (RNewP b s l1 W)) :
    Calls Try.prog 7 #[.int .i64 b, .int .i64 s, v1, v2] w fun e w' => e = .returned (.bool true) ∧ Below w.heap.size w w' := by
  obtain ⟨_, hl1, a1, c1, rfl⟩ := h1
  obtain ⟨_, hl2, a2, c2, rfl⟩ := h2
  obtain ⟨b1, b2⟩ := hb
  have HNW := Lib.hid HN1
  have HRN := Lib.hid HN2
  have HS := Lib.hid hsh
  have hcase : (¬ 40 < b ∧ ¬ 20 < l1.length ∧ ¬ 80 < l2.length) ∨ (¬ 40 < b ∧ 20 < l1.length ∧ 256 < l1.length ∧ ¬ 80 < l2.length) ∨ (40 < b ∧ 4096 < b ∧ ¬ 20 < l1.length ∧ ¬ 80 < l2.length) ∨ (40 < b ∧ 4096 < b ∧ 20 < l1.length ∧ 256 < l1.length ∧ ¬ 80 < l2.length) := by omega
  clear hno hsh HN1 HN2
  rcases hcase with ⟨g1, g2, g3⟩ | ⟨g1, g2, g3, g4⟩ | ⟨g1, g2, g3, g4⟩ | ⟨g1, g2, g3, g4, g5⟩
  all_goals
    go_enter Try.func7, Try.ntmps7
    go_wp2_with fail
    refine (awake13_any _).mono ?_
    rintro e w1 ⟨rfl, hb1⟩
    have HB1 := Lib.hid hb1
    have HNW1 := Lib.hid (HNW.out _ hb1)
    clear hb1
    go_wp2_with fail
    refine HNW1.out.mono ?_
    rintro e w2 ⟨hb2, h2'⟩
    have HB2 := Lib.hid (HB1.out.trans (hb2.mono HB1.out.size))
    have HRN2 := Lib.hid (HRN.out _ HB2.out)
    clear hb2
    rcases h2' with ⟨hn, _⟩ | ⟨_, rfl⟩
    · exact absurd hn HS.out
    go_wp2_with fail
    refine HRN2.out.mono ?_
    rintro e w3 ⟨hb3, h3'⟩
    have HB3 := Lib.hid (HB2.out.trans (hb3.mono HB2.out.size))
    clear hb3
    rcases h3' with ⟨hn, _⟩ | ⟨_, rfl⟩
    · exact absurd hn HS.out
    go_wp2_with fail
    go_ret
    exact ⟨rfl, HB3.out.alloc HB3.out.size _⟩
set_option maxRecDepth 100000 in
set_option maxHeartbeats 8000000 in
theorem dcalls_main (w : World) (b s : Int) (hb : In64 b) (hs : In64 s) (v1 : Value) (l1 : List Int) (h1 : RdI w v1 l1) (v2 : Value) (l2 : List Int) (h2 : RdI w v2 l2) (g1 : b ≤ 40) (g2 : l1.length ≤ 20) (g3 : l2.length ≤ 80) (hsh : shp b s l1) :
    Calls Try.prog 7 #[.int .i64 b, .int .i64 s, v1, v2] w fun e w' => e = .returned (.bool true) ∧ Below w.heap.size w w' := by
  have HNW := Lib.hid (fun W hv => new_any b s hb hs v1 l1 W hv)
  have HRN := Lib.hid (fun W hv => rnew13 b s hb hs v1 l1 W hv)
  have H1 := Lib.hid h1
  have H2 := Lib.hid h2
  obtain ⟨a1, c1, rfl⟩ := RdI.formD h1
  obtain ⟨a2, c2, rfl⟩ := RdI.formD h2
  have HS := Lib.hid hsh
  clear h1 h2 hsh hb hs
  go_enter Try.func7, Try.ntmps7
  go_wp2_with fail
  refine (awake13_any _).mono ?_
  rintro e w1 ⟨rfl, hb1⟩
  have HB1 := Lib.hid hb1
  have HN1 := Lib.hid (HNW.out w1 (H1.out.keep hb1))
  have hb1s := hb1.size
  clear hb1
  go_wp2_with fail
  refine HN1.out.mono ?_
  rintro e w2 ⟨hb2, h2'⟩
  have HB2 := Lib.hid (HB1.out.trans (hb2.mono HB1.out.size))
  clear hb2
  rcases h2' with ⟨_, g, gm, vp, rfl, hT, hg, hgm⟩ | ⟨hn, _⟩
  rotate_left
  · exact absurd HS.out hn
  have HT2 := Lib.hid hT
  have HG : Hid (w.heap.size ≤ g ∧ w.heap.size ≤ gm) := Lib.hid ⟨by omega, by omega⟩
  have HR2 := Lib.hid (HRN.out w2 (H1.out.keep HB2.out))
  clear hT hg hgm hb1s
  go_wp2_with fail
  refine HR2.out.mono ?_
  rintro e w3 ⟨hb3, h3'⟩
  rcases h3' with ⟨_, vp2, rfl, hrf, hvo⟩ | ⟨hn, _⟩
  rotate_left
  · exact absurd HS.out hn
  obtain ⟨ap, cp, rfl⟩ := RdI.formD hrf.pri
  have HT3 := Lib.hid (HT2.out.below hb3)
  have HB3 := Lib.hid (HB2.out.trans (hb3.mono HB2.out.size))
  have HRF := Lib.hid hrf
  have HVO := Lib.hid hvo
  obtain ⟨B2, hB2⟩ : ∃ B2, B2 = w2.heap.size := ⟨_, rfl⟩
  rw [← hB2] at HVO
  have HGB2 : Hid (g < B2 ∧ gm < B2) := Lib.hid (by have h1 := HT2.out.box.lt; have h2 := HT2.out.map.lt; omega)
  have hpe : (tab0 b s l1).prim = l1 := rfl
  rw [← hpe] at HVO
  clear hB2 hvo hpe
  have HGL : Hid (g < w3.heap.size ∧ gm < w3.heap.size) := Lib.hid ⟨HT3.out.box.lt, HT3.out.map.lt⟩
  clear hb3 hrf HT2 HB2 HR2 HN1
  have HLZ := Lib.hid (Left.zero HS.out)
  have hT0 : (tab0 b s l1).keys = [] := tab0_keys b s l1
  have HRE : Hid ((tab0 b s l1).reps = []) := Lib.hid (by unfold Tab.reps; rw [hT0]; rfl)
  have HTK : Hid (reps (tab0 b s l1) (l2.take 0) = tab0 b s l1) := Lib.hid rfl
  have HTS := Lib.hid (fun k hk => reps_take (tab0 b s l1) l2 k hk)
  have hpl : (tab0 b s l1).prim.length = l1.length := rfl
  clear hT0 hpl
  generalize tab0 b s l1 = T0 at *
  obtain ⟨gB, hgB⟩ : ∃ gB, gB = w3.heap.size := ⟨_, rfl⟩
  have hAl := (Below.refl w3.heap.size w3).alloc (Nat.le_refl _) (.cells (tcell T0 (.slice ap T0.prim.length cp) (.slice none 0 0)).toArray 42)
  have HX3 := Lib.hid (Bx.new w3 42 (tcell T0 (.slice ap T0.prim.length cp) (.slice none 0 0)))
  have HL3 := Lib.hid hAl
  have HTA := Lib.hid (HT3.out.below hAl)
  rw [← hgB] at HX3 HGL
  go_wp2_with fail
  obtain ⟨w4, hw4⟩ : ∃ w4, w4 = w3.alloc (.cells (tcell T0 (.slice ap T0.prim.length cp) (.slice none 0 0)).toArray 42) := ⟨_, rfl⟩
  rw [show (w3.alloc (.cells #[.int .i64 T0.blocks, .int .i64 T0.spares, .int .i64 T0.used, .slice ap T0.prim.length cp, .slice none 0 0] 42)) = w4 from hw4.symm, ← hgB]
  rw [← hw4] at HX3 HL3 HTA
  have HGB := Lib.hid hgB
  clear hw4 hgB hAl
  go_loopw [71] (fun vk wr => ∃ (k : Nat) (T : Tab) (vm : Value) (N : Nat), k ≤ l2.length ∧ vk = .int .i64 k ∧ T = reps T0 (l2.take k) ∧ Hid (T.prim = T0.prim) ∧ TabW wr g gm vp T ∧ T.keys.length ≤ T.used ∧ wr.ownsRow (gB + 1) 53 2 vm N (flD dRep T.reps) ∧ Bx wr gB 42 (tcell T (.slice ap T0.prim.length cp) vm) ∧ wr.ownsRow B2 3 1 (.slice ap T0.prim.length cp) T0.prim.length (is T0.prim) ∧ Below w.heap.size w wr) (fun vk _ => l2.length - (RowKit.intOf vk).toNat)
  case atStart =>
    refine ⟨0, T0, .slice none 0 0, 0, by omega, rfl, HTK.out.symm, Lib.hid rfl, HTA.out, HRF.out.kl, ?_, HX3.out, ownD_keep HVO.out HL3.out, HB3.out.trans (HL3.out.mono HB3.out.size)⟩
    rw [HRE.out]
    exact ⟨rfl, .inl ⟨rfl, rfl⟩⟩
  case round =>
    obtain ⟨k, T, vm, N, hk, rfl, hTr, HPR, hT, hkl, hO, hX, hP, hB⟩ := hrel
    have HTr := Lib.hid hTr
    have HTT := Lib.hid hT
    have HKL := Lib.hid hkl
    have HO := Lib.hid hO
    have HX := Lib.hid hX
    have HP := Lib.hid hP
    have HB := Lib.hid hB
    clear hTr
    by_cases hlt : k < l2.length
    · obtain ⟨bl, off, hcell⟩ := RdI.at (H2.out.keep hB)
      obtain ⟨ha, hcl⟩ := hcell k hlt
      have hix := fun w' => run_idxS Try.underlying22 Try.sizeInt13 (cap := c2) ha hlt (k : Int) rfl w'
      simp only [Nat.mul_one] at hix
      have hxr : In64 (ixI l2 k) := H2.out.2.2 k hlt
      have HX2 := Lib.hid (HTS.out k hlt)
      generalize ixI l2 k = x at *
      have HXR := Lib.hid hxr
      have HA := Lib.hid ha
      have HRT := Lib.hid (replace_any hT x hxr)
      obtain ⟨am, cm, rfl⟩ := ownD_form hO
      clear ha hcell hxr hT hkl hO hX hP hB
      go_wp2_with fail
      refine HRT.out.mono ?_
      rintro e w5 ⟨rfl, hT5, htu⟩
      have HT5 := Lib.hid hT5
      have hne : gB ≠ g ∧ gB ≠ gm := by have := HGL.out; omega
      have HX5 := Lib.hid ((htu.block gB HX.out.lt hne.1 hne.2).trans HX.out)
      have HX5 := Lib.hid (show Bx w5 gB 42 (tcell T (.slice ap T0.prim.length cp) (.slice am N cm)) from HX5.out)
      have HO5 := Lib.hid (htu.own HO.out (fun e => by have := ownD_block HO.out _ e; have := HGL.out; omega) (fun e => by have := ownD_block HO.out _ e; have := HGL.out; omega))
      have HP5 := Lib.hid (htu.own HP.out (fun e => by have := ownD_block HP.out _ e; have := HGB2.out; omega) (fun e => by have := ownD_block HP.out _ e; have := HGB2.out; omega))
      have HB5 := Lib.hid (HB.out.trans (htu.below HG.out.1 HG.out.2 HB.out.size))
      have hok := HTT.out.ok
      have HRW5 : Hid (RfW w5 (.slice ap T0.prim.length cp) (.slice am N cm) T) := Lib.hid ⟨hok, HKL.out, by rw [HPR.out]; exact rdI_own HP5.out rfl (by rw [← HPR.out]; have := hok.pl; omega) (fun z hz => by rw [← HPR.out] at hz; have h1 := hok.pr z hz; have h2 := first_int T; have h3 := hok.b2; have h4 := hok.pl; omega), rdR_own HO5.out⟩
      have HRR := Lib.hid (rreplace13 HRW5.out x HXR.out)
      have q0 := HX5.out.cell (i := 0) rfl
      have q1 := HX5.out.cell (i := 1) rfl
      have q2 := HX5.out.cell (i := 2) rfl
      have q3 := HX5.out.cell (i := 3) rfl
      have q4 := HX5.out.cell (i := 4) rfl
      have hgl5 : gB < w5.heap.size := HX5.out.lt
      clear hT5 htu hne hok HO HX HP HB HTT
      have HXN : Hid (reps T0 (l2.take (k + 1)) = (replR T x).2) := Lib.hid (by rw [HX2.out, ← HTr.out])
      have HPN : Hid ((replR T x).2.prim = T0.prim) := Lib.hid (by rw [(replR_same T x).2.2]; exact HPR.out)
      obtain ⟨R, hR⟩ : ∃ R, R = replR T x := ⟨_, rfl⟩
      rw [← hR] at HRR HT5 HXN HPN ⊢
      obtain ⟨⟨r1, r2⟩, T'⟩ := R
      clear hR
      go_wp2_with fail
      refine HRR.out.mono ?_
      rintro e w6 ⟨vm', rfl, hrf6, hb6, hvm⟩
      have HRF6 := Lib.hid hrf6
      have HB6 := Lib.hid (HB5.out.trans (hb6.mono HB5.out.size))
      have HX6 := Lib.hid (HX5.out.call hb6)
      have HT6 := Lib.hid (HT5.out.below hb6)
      have HP6 := Lib.hid (ownD_keep HP5.out hb6)
      have HO6 : Hid (∃ N', w6.ownsRow (gB + 1) 53 2 vm' N' (flD dRep T'.reps)) := Lib.hid (by
        rcases hvm with ⟨rfl, hTe⟩ | ⟨N', ho⟩
        · have hTe' : T' = T := hTe
          rw [hTe']
          exact ⟨N, ownD_keep HO5.out hb6⟩
        · exact ⟨N', own_mono ho (by omega)⟩)
      obtain ⟨N', ho6⟩ := HO6.out
      have HO6' := Lib.hid ho6
      obtain ⟨am', cm', rfl⟩ := ownD_form ho6
      have hgl6 : gB < w6.heap.size := HX6.out.lt
      have hgg : g ≠ gB ∧ gm ≠ gB := by have := HGL.out; omega
      have hgw : w.heap.size ≤ gB := by have := HGB.out; have := HB3.out.size; omega
      have ht5 := turn5 gB w6 (.int .i64 T'.blocks) (.int .i64 T'.spares) (.int .i64 T'.used) (.slice ap T0.prim.length cp) (.slice am' N' cm')
      have HX8 := Lib.hid (((((HX6.out.set 0 (.int .i64 T'.blocks)).set 1 (.int .i64 T'.spares)).set 2 (.int .i64 T'.used)).set 3 (.slice ap T0.prim.length cp)).set 4 (.slice am' N' cm'))
      have HT8 := Lib.hid (HT6.out.turnS ht5 hgg.1 hgg.2 HX6.out (by decide))
      have HP8 := Lib.hid (own_turn1 ht5 HP6.out (block13 HP6.out HX6.out (by decide)))
      have HO8 := Lib.hid (ht5.own HO6'.out (Nat.lt_succ_self _))
      have HB8 := Lib.hid (HB6.out.trans (ht5.below hgw HB6.out.size))
      clear hrf6 hb6 hvm ho6 q0 q1 q2 q3 q4 ht5 hgg
      have q0 := HX6.out.cell (i := 0) rfl
      have q1 := HX6.out.cell (i := 1) rfl
      have q2 := HX6.out.cell (i := 2) rfl
      have q3 := HX6.out.cell (i := 3) rfl
      have q4 := HX6.out.cell (i := 4) rfl
      have qf := HX6.out.free
      have HX7 := Lib.hid (Bx.new w6 42 (tcell T' (.slice ap T0.prim.length cp) (.slice am' N' cm')))
      have p0 := HX7.out.cell (i := 0) rfl
      have p1 := HX7.out.cell (i := 1) rfl
      have p2 := HX7.out.cell (i := 2) rfl
      have p3 := HX7.out.cell (i := 3) rfl
      have p4 := HX7.out.cell (i := 4) rfl
      rw [show (tcell T' (.slice ap T0.prim.length cp) (.slice am' N' cm')).toArray = #[.int .i64 T'.blocks, .int .i64 T'.spares, .int .i64 T'.used, .slice ap T0.prim.length cp, .slice am' N' cm'] from rfl] at p0 p1 p2 p3 p4
      go_wp2_with fail
      obtain ⟨w8, hw8⟩ : ∃ w8, w8 = ((((w6.setCell ⟨gB, 0, none⟩ (.int .i64 T'.blocks)).setCell ⟨gB, 1, none⟩ (.int .i64 T'.spares)).setCell ⟨gB, 2, none⟩ (.int .i64 T'.used)).setCell ⟨gB, 3, none⟩ (.slice ap T0.prim.length cp)).setCell ⟨gB, 4, none⟩ (.slice am' N' cm') := ⟨_, rfl⟩
      rw [← hw8] at HX8 HT8 HP8 HO8 HB8 ⊢
      have hAl := (Below.refl w8.heap.size w8).alloc (Nat.le_refl _) (.cells #[.int .i64 T'.blocks, .int .i64 T'.spares, .int .i64 T'.used, .slice ap T0.prim.length cp, .slice am' N' cm'] 42)
      have HX9 := Lib.hid (HX8.out.call hAl)
      have HT9 := Lib.hid (HT8.out.below hAl)
      have HP9 := Lib.hid (ownD_keep HP8.out hAl)
      have HO9 := Lib.hid (ownD_keep HO8.out hAl)
      have HB9 := Lib.hid (HB8.out.trans (hAl.mono HB8.out.size))
      clear hAl hw8
      go_roundw
      case rel => exact ⟨k + 1, T', .slice am' N' cm', N', by omega, by go_num, HXN.out.symm, Lib.hid HPN.out, HT9.out, HRF6.out.kl, HO9.out, HX9.out, HP9.out, HB9.out⟩
      case measure => simp [RowKit.intOf]; omega
    · obtain rfl : k = l2.length := by omega
      obtain ⟨am, cm, rfl⟩ := ownD_form hO
      have HRW : Hid (RfW wr (.slice ap T0.prim.length cp) (.slice am N cm) T) := Lib.hid ⟨hT.ok, hkl, by rw [HPR.out]; exact rdI_own hP rfl (by rw [← HPR.out]; have := hT.ok.pl; omega) (fun z hz => by rw [← HPR.out] at hz; have h1 := hT.ok.pr z hz; have h2 := first_int T; have h3 := hT.ok.b2; have h4 := hT.ok.pl; omega), rdR_own hO⟩
      have HSM := Lib.hid (same13 hT HRW.out)
      have q0 := hX.cell (i := 0) rfl
      have q1 := hX.cell (i := 1) rfl
      have q2 := hX.cell (i := 2) rfl
      have q3 := hX.cell (i := 3) rfl
      have q4 := hX.cell (i := 4) rfl
      clear hT hkl hO hX hP hB
      go_wp2_with fail
      refine HSM.out.mono ?_
      rintro e w9 ⟨rfl, hb9⟩
      have hle := HB.out.trans (hb9.mono HB.out.size)
      go_wp2_with fail
      go_ret
      exact ⟨rfl, hle⟩
theorem dcalls_law (w : World) (b : Int) (hb : (Lit.int .i64 b).wf = true) (s : Int) (hs : (Lit.int .i64 s).wf = true) (v1 : Value) (l1 : List Int) (h1 : CameI w v1 l1) (v2 : Value) (l2 : List Int) (h2 : CameI w v2 l2) :
    Calls Try.prog 7 #[.int .i64 b, .int .i64 s, v1, v2] w fun e w' => e = .returned (.bool true) ∧ Below w.heap.size w w' := by
  by_cases hno : (40 < b ∧ b ≤ 4096) ∨ (20 < l1.length ∧ l1.length ≤ 256) ∨ 80 < l2.length
  · exact dcalls_skip w b s (in64_of hb) (in64_of hs) v1 l1 h1 v2 l2 h2 hno
  · by_cases hr : 1 ≤ b ∧ b ≤ 4096 ∧ 0 ≤ s ∧ s ≤ 64 ∧ l1.length ≤ 256
    · by_cases hsh : shp b s l1
      · exact dcalls_main w b s (in64_of hb) (in64_of hs) v1 l1 (h1.1 (by omega)) v2 l2 (h2.1 (by omega)) (by omega) (by omega) (by omega) hsh
      · exact dcalls_bad w b s (in64_of hb) (in64_of hs) v1 l1 h1 v2 l2 h2 hno hsh (fun W hW => new_any b s (in64_of hb) (in64_of hs) v1 l1 W ((h1.1 (by omega)).keep hW)) (fun W hW => rnew13 b s (in64_of hb) (in64_of hs) v1 l1 W ((h1.1 (by omega)).keep hW))
    · exact dcalls_bad w b s (in64_of hb) (in64_of hs) v1 l1 h1 v2 l2 h2 hno (fun h => hr h.1) (fun W hW => new_badC b s (in64_of hb) (in64_of hs) v1 l1 W (h1.keep hW) hr) (fun W hW => rnew_badC b s (in64_of hb) (in64_of hs) v1 l1 W (h1.keep hW) hr)
end Go.Proofs.Ytjnedcncfdpjoaa.D13
namespace Go.Proofs.Ytjnedcncfdpjoaa.defectCalls
open Go.ChangeShapes Go.WideShapes Go.ChangeAt Go.RowKit
open Go.ChangeMaps (open_string shut_string)
open D13
set_option linter.unusedVariables false
theorem own : ownKnob Try.prog.godebug = none := by kernel_rfl
theorem laidOut : laidOutB Try.prog = true := by kernel_rfl

set_option maxRecDepth 100000 in
set_option maxHeartbeats 1000000 in
theorem lifted (os : Os) (started : os.Started) (H : Type) (enc : TypeId × Value → H) :
    ReturnsInHanded {} Try.checked os 7 .any (Rows.defectCallsSpec.pre6 enc Try.prog Try.f7 Rows.defectCallsRow.domain false) (Rows.defectCallsSpec.post enc Try.prog Try.f7 false true false false) := by
  refine returnsInHanded_of_change (C := Try.checked) own started (by kernel_rfl) Try.func7
    (ChangeSpec.witness6 (enc := enc) (C := Try.checked) false ⟨#[], #[.int .i64 0, .int .i64 0, .slice none 0 0, .slice none 0 0], []⟩ 8 (by kernel_rfl) (by kernel_rfl) (by kernel_rfl) (by kernel_rfl)) ?_
  intro W base args ds gs before hval0 hW hcnd _
  have hval : ∀ (j : Nat) t v, Try.f7.params[j]? = some t → args[j]? = some v → Value.okWide Try.prog W .any base t v := hval0
  have hW' := hW
  obtain ⟨p, q, hA0, hV, rfl, hfz, hnd⟩ := hW
  have hA : DataW.TrodAll enc Try.prog W 0 (fun _ => true) true Try.f7.params.toList args.toList ds p := hA0
  rw [Try.params7] at hA hval
  obtain ⟨v0, vs0, d0, ds0, p0, q0, hargs, rfl, rfl, h0, r0⟩ := trodAll_cons hA
  obtain ⟨v1, vs1, d1, ds1, p1, q1, rfl, rfl, rfl, h1, r1⟩ := trodAll_cons r0
  obtain ⟨v2, vs2, d2, ds2, p2, q2, rfl, rfl, rfl, h2, r2⟩ := trodAll_cons r1
  obtain ⟨v3, vs3, d3, ds3, p3, q3, rfl, rfl, rfl, h3, r3⟩ := trodAll_cons r2
  obtain ⟨rfl, rfl, rfl⟩ := trodAll_nil r3
  obtain rfl : args = #[v0, v1, v2, v3] := by cases args; simp_all
  obtain ⟨rfl, rfl⟩ := trodVars_none hV
  have k0 := h0
  have lt0 : ∀ x ∈ p0, x.block < W.heap.size := by obtain ⟨m, hm⟩ := k0; exact DataW.trod_lt m _ _ _ hm
  obtain ⟨a0, rfl, _, _, w0⟩ := open_int Try.underlying3 (hval 0 3 v0 rfl rfl) h0
  have k1 := h1
  have lt1 : ∀ x ∈ p1, x.block < W.heap.size := by obtain ⟨m, hm⟩ := k1; exact DataW.trod_lt m _ _ _ hm
  obtain ⟨a1, rfl, _, _, w1⟩ := open_int Try.underlying3 (hval 1 3 v1 rfl rfl) h1
  have k2 := h2
  have lt2 : ∀ x ∈ p2, x.block < W.heap.size := by obtain ⟨m, hm⟩ := k2; exact DataW.trod_lt m _ _ _ hm
  obtain ⟨a2, w2⟩ := open_cints (hval 2 22 v2 rfl rfl) h2
  have k3 := h3
  have lt3 : ∀ x ∈ p3, x.block < W.heap.size := by obtain ⟨m, hm⟩ := k3; exact DataW.trod_lt m _ _ _ hm
  obtain ⟨a3, w3⟩ := open_cints (hval 3 22 v3 rfl rfl) h3
  refine (dcalls_law W a0 w0 a1 w1 v2 a2 w2 v3 a3 w3).mono fun e W' ⟨he, bel⟩ => ?_
  subst he
  exact ⟨_, rfl, _, _, _, [], _, [], hW', trodAll_mk1 (shut_bool Try.underlying4 _), (trodAll_cons_mk (Below.trod laidOut (by kernel_rfl) (of_decide_eq_true (by kernel_rfl)) k0 bel lt0) (trodAll_cons_mk (Below.trod laidOut (by kernel_rfl) (of_decide_eq_true (by kernel_rfl)) k1 bel lt1) (trodAll_cons_mk (Below.trod laidOut (by kernel_rfl) (of_decide_eq_true (by kernel_rfl)) k2 bel lt2) (trodAll_cons_mk (Below.trod laidOut (by kernel_rfl) (of_decide_eq_true (by kernel_rfl)) k3 bel lt3) trodAll_mk0)))), rfl, bel.frame _, fun h => by cases h⟩

theorem over : Rows.defectCallsRow.holds Try.pinned (OpenSpec.ofChange Rows.defectCallsSpec) :=
  OpenClaim.holds_of_wide 7 Try.f7 rfl rfl rfl rfl rfl rfl rfl ⟨rfl, rfl, rfl, rfl, rfl⟩ rfl rfl rfl rfl rfl (by kernel_rfl) Try.func7 (by kernel_rfl)
    (of_decide_eq_true (by kernel_rfl)) (by unfold Func.isWrapper; first | (rw [if_pos (by decide +kernel)]; kernel_rfl) | (rw [if_neg (by decide +kernel)]; exact ⟨rfl, rfl⟩))
    (fun os started H enc _ => lifted os started H enc)

/-- The statement. -/
theorem proved : Rows.DefectCallsSaid := over
end Go.Proofs.Ytjnedcncfdpjoaa.defectCalls
