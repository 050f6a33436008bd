/- Parts: XWy XGiv XWs XWx XWn -/
import Derived.Test.YtflmjdjkfognjaaGreatTe15
import Derived.Test.YtflmjdjkfognjaaGreatTe16
import Derived.RangeFuncNested
import Derived.RangeFuncBox
import Derived.RangeFuncLeaves
import Derived.RangeFuncWrites
import Derived.RangeFuncCalls
import Derived.Test.YtflmjdjkfognjaaGreatTe05
import Derived.Shelf.Abstract
import Derived.WalkKit
import Derived.OwnWalkIn
import Derived.TacticsInMore
import Derived.LoopNIn
import Derived.LoopIn
import Derived.Test.YtflmjdjkfognjaaGreatTe13
import Derived.Test.YtflmjdjkfognjaaGreatTe01
import Derived.Test.YtflmjdjkfognjaaGreatTe14
import Derived.Test.YtflmjdjkfognjaaGreatTe11
namespace Go.Proofs.YtflmjdjkfognjaaGreat.W8
open Go.RowKit
set_option linter.unusedVariables false
section
variable {P : Program} {Q : Exit → Act → World → Prop} {n l₀ : Nat}
theorem wpIn_region_ind {id : Nat} {l : List Oper} {a0 : Act} {w : World} (hQ : ¬ LetsOut Q) (hd : l.all plainOp = true) (hm : P.follows .mixedOrders = true) (R : World → World → Prop) (C : World → Prop) (V : Nat → Value → (Nat → Value) → World → Prop) (sk : Nat → Bool) (hf : formR l a0.tmps.size = true)
    (hC : ∀ w w', R w w' → C w → C w') (hV : ∀ i v d w w', R w w' → V i v d w → V i v d w') (h0 : C w.drew)
    (hstep : StepsD P Q R C V sk l a0 0 l)
    (hend : ∀ a w, C w → a.defers = a0.defers → a.tmps.size = a0.tmps.size → (∀ t, freeB l t = true → a.tmps.getD t undef = a0.tmps.getD t undef) →
      (∀ (i : Nat) (o : Oper), l[i]? = some o → sk i = false → V i (slotV o.dst a) (depV l i a) w) → Q .normal a w) : (Code.region id l.toArray true).wpIn (Fence.wide.inRound l₀) n P Q a0 w := by
  refine wpIn_region_any hm (wpAny_in hd hQ _ _ _ _ ?_)
  have hn : (Array.replicate l.toArray.size false).size = l.length := by simp
  refine wpAny_ind hf hC hV hstep hend _ _ _ _ hn ?_ ⟨h0, rfl, rfl, fun t _ => rfl, fun i o ho hl => ?_, fun i o ho _ hl => ?_⟩
  · have := List.length_filter_le (fun i => !(Array.replicate l.toArray.size false).getD i true) (List.range l.length)
    unfold left
    simpa using this
  · exfalso
    have hi := (List.getElem?_eq_some_iff.1 ho).1
    simp [Array.getD, hi] at hl
  · exfalso
    have hi := (List.getElem?_eq_some_iff.1 ho).1
    simp [Array.getD, hi] at hl
end
def insN (ws : List Int) (f : Int) (c : List UInt8) : Nat → Bool
  | 0 => true
  | k + 1 => insN ws f c k && (decide (f ≤ ixI ws k) || decide (G.ix c k = 0))
def insB (ws : List Int) (f : Int) (c : List UInt8) : Bool := insN ws f c ws.length
theorem insN_false {ws : List Int} {f : Int} {c : List UInt8} {k : Nat} (h : (decide (f ≤ ixI ws k) || decide (G.ix c k = 0)) = false) : ∀ n, k < n → insN ws f c n = false
  | 0, hk => by omega
  | n + 1, hk => by
    unfold insN
    by_cases e : k = n
    · subst e; rw [h, Bool.and_false]
    · rw [insN_false h n (by omega), Bool.false_and]
set_option maxRecDepth 100000 in
set_option maxHeartbeats 2000000 in
theorem inside_any (k b10 b4 b11 : Nat) (wv : Value) (ws : List Int) (f : Int) (c : List UInt8) (w : World) (h10 : Bx w b10 53 [wv]) (h4 : Bx w b4 3 [.int .i64 f]) (h11 : Bx w b11 9 [.string (str c)]) (hw : RdI w wv ws) (hk : k < ws.length) (hc : k < c.length) :
    Calls Tryz.prog 216 #[.int .i64 (k : Int), .pointer (some ⟨b10, 0, none⟩), .pointer (some ⟨b4, 0, none⟩), .pointer (some ⟨b11, 0, none⟩)] w fun e w' => e = .returned (.bool (decide (f ≤ ixI ws k) || decide (G.ix c k = 0))) ∧ ∃ q, w' = w.drewN q := by
  obtain ⟨hw0, ⟨wa, wc, wb, wo, rfl, hwc, hwcell⟩, hwr⟩ := hw
  have c10 := h10.cell (i := 0) rfl
  have c4 := h4.cell (i := 0) rfl
  have c11 := h11.cell (i := 0) rfl
  obtain ⟨ha, hcw⟩ := hwcell k hk
  have hix := fun wx => run_idx (P := Tryz.prog) Tryz.underlying53 Tryz.sizeInt (cap := wc) ha hk _ rfl wx
  have hi1 := fun wx => run_sidx (P := Tryz.prog) Tryz.underlying9 c k hc _ rfl wx
  have hz := byte_beq0 (G.ix c k)
  clear ha hwcell hwr h10 h4 h11
  generalize ixI ws k = x at *
  by_cases h1 : f ≤ x
  · have hd : decide (f ≤ x) = true := by simpa using h1
    rw [hd, Bool.true_or]
    clear h1
    go_enter Tryz.func216, Tryz.ntmps216
    go_wp2_with fail
    go_quiet (fail)
    go_wp2_with fail
    go_ret
    exact ⟨rfl, nq, rfl⟩
  · have hd : decide (f ≤ x) = false := by simpa using h1
    rw [hd, Bool.false_or]
    generalize decide (G.ix c k = 0) = zz at *
    clear h1
    go_enter Tryz.func216, Tryz.ntmps216
    go_wp2_with fail
    go_quiet (fail)
    go_wp2_with fail
    go_ret
    exact ⟨rfl, nq, rfl⟩
set_option maxRecDepth 100000 in
set_option maxHeartbeats 2000000 in
theorem all_any (n : Nat) (b10 b4 b11 : Nat) (wv : Value) (ws : List Int) (f : Int) (c : List UInt8) (w : World) (h10 : Bx w b10 53 [wv]) (h4 : Bx w b4 3 [.int .i64 f]) (h11 : Bx w b11 9 [.string (str c)]) (hw : RdI w wv ws) (hn : n = ws.length) (hc : ws.length ≤ c.length) (hl : ws.length ≤ 1000) :
    Calls Tryz.prog 217 #[.int .i64 (n : Int), .func (.func 216) #[] #[.pointer (some ⟨b10, 0, none⟩), .pointer (some ⟨b4, 0, none⟩), .pointer (some ⟨b11, 0, none⟩)]] w fun e w' => e = .returned (.bool (insB ws f c)) ∧ ∃ q, w' = w.drewN q := by
  have HI : Hid (∀ k, k < n → ∀ q, Calls Tryz.prog 216 #[.int .i64 (k : Int), .pointer (some ⟨b10, 0, none⟩), .pointer (some ⟨b4, 0, none⟩), .pointer (some ⟨b11, 0, none⟩)] (w.drewN q) fun e w' => e = .returned (.bool (decide (f ≤ ixI ws k) || decide (G.ix c k = 0))) ∧ ∃ q, w' = w.drewN q) := Lib.hid fun k hk q =>
    (inside_any k b10 b4 b11 wv ws f c (w.drewN q) h10 h4 h11 (hw.keepW fun _ _ => rfl) (by omega) (by omega)).mono fun e w' ⟨h1, q2, h2⟩ => ⟨h1, q + q2, by rw [h2]; simp [World.drewN, Nat.add_assoc]⟩
  have hn2 : n ≤ 1000 := by omega
  have HN := Lib.hid hn
  clear h10 h4 h11 hw hc hl hn
  go_enter Tryz.func217, Tryz.ntmps217
  go_wp2_with fail
  go_loopw [7] (fun vk wr => ∃ k q : Nat, k ≤ n ∧ vk = .int .i64 k ∧ Hid (insN ws f c k = true) ∧ wr = w.drewN q) (fun vk _ => n - (intOf vk).toNat)
  case atStart => exact ⟨0, 0, by omega, rfl, Lib.hid rfl, rfl⟩
  case round =>
    obtain ⟨k, q, hk, rfl, HK, rfl⟩ := hrel
    by_cases hlt : k < n
    · have hlt' : (k : Int) < n := by omega
      have hS : insN ws f c (k + 1) = (insN ws f c k && (decide (f ≤ ixI ws k) || decide (G.ix c k = 0))) := rfl
      rw [HK.out, Bool.true_and] at hS
      have hF : (decide (f ≤ ixI ws k) || decide (G.ix c k = 0)) = false → insB ws f c = false := fun h => by
        unfold insB
        rw [← HN.out]
        exact insN_false h n hlt
      have HC := Lib.hid (HI.out k hlt q)
      generalize (decide (f ≤ ixI ws k) || decide (G.ix c k = 0)) = bb at *
      have HS := Lib.hid hS
      clear hS
      go_wp2_with fail
      refine HC.out.mono ?_
      rintro e w' ⟨rfl, q2, rfl⟩
      cases bb with
      | false =>
        have HX := Lib.hid (hF rfl)
        clear hF
        go_wp2_with fail
        go_ret
        exact ⟨by rw [HX.out]; rfl, q2, rfl⟩
      | true =>
        clear hF
        go_wp2_with fail
        go_roundw
        case rel => exact ⟨k + 1, q2, by omega, by go_num, Lib.hid HS.out, rfl⟩
        case measure => simp [intOf]; omega
    · obtain rfl : k = n := by omega
      have HX : Hid (insB ws f c = true) := Lib.hid (by unfold insB; rw [← HN.out]; exact HK.out)
      go_wp2_with fail
      go_ret
      exact ⟨by rw [HX.out]; rfl, q, rfl⟩
end Go.Proofs.YtflmjdjkfognjaaGreat.W8
namespace Go.Proofs.YtflmjdjkfognjaaGreat
open Go Go.RowKit
set_option linter.unusedVariables false
section
variable {F : Fence} {n : Nat} {P : Program}
def Gives (F : Fence) (n : Nat) (P : Program) (gf : Nat) (lb : Array Value) (N : Nat) (G : Nat → Value → World → Prop) (w : World) : Prop :=
  ∀ (l : Nat) (J : Nat → World → Prop) (Jx : World → Prop) (W : World), Below w.heap.size w W → (∀ k A A', J k A → Below A.heap.size A A' → J k A') →
    (∀ k v A, k < N → J k A → G k v A → YieldAt F (n - 1) P l #[v] A fun e A' => (e = .returned (.bool true) ∧ J (k + 1) A' ∧ A.heap.size ≤ A'.heap.size) ∨ (e = .returned (.bool false) ∧ Jx A')) →
    J 0 W → CallsIn F n P gf (#[.func (.yield l) #[] #[]] ++ lb) W fun e W' => (∃ v, e = .returned v) ∧ (J N W' ∨ Jx W')
theorem size_putObj (W : World) (l : Nat) (o : Obj) : (W.putObj l o).heap.size = W.heap.size := by simp [World.putObj]
def leftBy (B : Nat) (I : Nat → World → Prop) (Ix : Code → World → Prop) (k : Nat) (W : World) : Exit → Act → World → Prop
  | .normal, _, W' => KeepsFrom B W W' ∧ I (k + 1) W'
  | .ret, _, W' => KeepsFrom B W W' ∧ Ix .ret W'
  | .exit id, _, W' => KeepsFrom B W W' ∧ Ix (.exit id) W'
  | .goto t, _, W' => KeepsFrom B W W' ∧ Ix (.goto t) W'
  | _, _, _ => False
def Stays (B : Nat) (p : World → Prop) : Prop := OwnFrom B fun (_ : Unit) W => p W
theorem Stays.grown {B : Nat} {p : World → Prop} (h : Stays B p) {W W' : World} {row : Option Nat} (hp : p W) (hg : W.grownBy W' row) (hr : ∀ r, row = some r → B ≤ r ∧ ∃ o : Obj, W.heap[r]? = some o ∧ o.isCells = false) : p W' := h () W W' row hp hg hr
theorem Stays.below {B : Nat} {p : World → Prop} (h : Stays B p) {W W' : World} (hp : p W) (hb : Below W.heap.size W W') : p W' :=
  h.grown hp (row := none) ⟨hb.os, hb.tape, hb.output, hb.size, fun k hk _ => hb.block k hk⟩ (fun r e => by cases e)
theorem Stays.putObj {B l : Nat} {p : World → Prop} (h : Stays B p) {W : World} {o : Obj} (o' : Obj) (hp : p W) (hB : B ≤ l) (hl : W.heap[l]? = some o) (ho : o.isCells = false) : p (W.putObj l o') := OwnFrom.putObj (s := ()) h o' hp hB hl ho
theorem Stays.and {B : Nat} {p q : World → Prop} (h : Stays B p) (h' : Stays B q) : Stays B fun W => p W ∧ q W := OwnFrom.and h h'
theorem Stays.const (B : Nat) (p : Prop) : Stays B fun _ => p := fun _ _ _ _ h _ _ => h
theorem wpIn_range_gives {g : Operand} {ps : Array Tmp} {assign body : Code} {Q : Exit → Act → World → Prop} {a : Act} {w : World}
    (hro : F.round = none) (h1 : 1 ≤ n) {gf : Nat} {lb : Array Value} (hg : a.eval g = .func (.func gf) #[] lb) (hFg : F.fn gf) (eg : ∀ args w, (callFunc gf args).run P w = .ok (.enter gf args) w)
    {N : Nat} {G : Nat → Value → World → Prop} (hseq : Gives F (n - 1) P gf lb N G w) (hps : ps.size = 1)
    (I : Nat → World → Prop) (Ix : Code → World → Prop) (A : Nat → Value → Act → World → Prop)
    (hI : ∀ k, Stays w.heap.size (I k)) (hIx : ∀ c, Stays w.heap.size (Ix c)) (hA : ∀ k v a', Stays w.heap.size (A k v a')) (h0 : I 0 w)
    (hassign : ∀ (l k : Nat) (v : Value) (W : World) (K : Act → World → Prop), k < N → I k W → G k v W → (∀ a' W', KeepsFrom w.heap.size W W' → I k W' → A k v a' W' → K a' W') →
      assign.wpIn (F.inRound l) (n - 1 - 1) P (Exit.then K (fun _ _ _ => False)) { tmps := (ps.zip #[v]).foldl (fun t (p, v) => t.setIfInBounds p v) a.tmps, defers := [] } W)
    (hbody : ∀ (l k : Nat) (v : Value) (a' : Act) (W : World), w.heap.size ≤ l → (∃ r, W.heap[l]? = some (.loop r)) → k < N → I k W → A k v a' W → body.wpIn (F.inRound l) (n - 1 - 1) P (leftBy w.heap.size I Ix k W) a' W)
    (hdone : ∀ (D : Nat) (W : World), w.heap.size ≤ D → I N W → W.heap[D]? = some (.deferred (some [])) → Q .normal { a with defers := { target := .collected D, args := #[] } :: a.defers } W)
    (hstop : ∀ (D : Nat) (c : Code) (W : World), w.heap.size ≤ D → Ix c W → W.heap[D]? = some (.deferred (some [])) → c.wpIn F n P Q { a with defers := { target := .collected D, args := #[] } :: a.defers } W) :
    (Code.rangeFunc g ps assign body).wpIn F n P Q a w := by
  refine wpIn_rangeFunc fun fn hfn => ?_
  rw [hro]
  obtain ⟨B, hB⟩ : ∃ B, B = w.heap.size := ⟨_, rfl⟩
  obtain ⟨rec, hrec⟩ : ∃ rec : LoopState → Option Code → Loop, rec = fun st pe => { state := st, pending := pe, fn, tmps := a.tmps, params := ps, assign, body, defers := w.heap.size } := ⟨_, rfl⟩
  have hs1 : ∀ st pe, (rec st pe).state = st := fun _ _ => by rw [hrec]
  have hs2 : ∀ st pe, (rec st pe).pending = pe := fun _ _ => by rw [hrec]
  have hs3 : ∀ st pe st' pe', { rec st pe with state := st', pending := pe' } = rec st' pe' := fun _ _ _ _ => by rw [hrec]
  have hs4 : ∀ st pe st', { rec st pe with state := st' } = rec st' pe := fun _ _ _ => by rw [hrec]
  obtain ⟨W1, hW1⟩ : ∃ W1, W1 = (w.alloc (.deferred (some []))).alloc (.loop (rec .ready none)) := ⟨_, rfl⟩
  have hbw : Below w.heap.size w W1 := by rw [hW1]; exact ((Below.refl _ w).alloc (Nat.le_refl _) _).alloc (by simp) _
  have hL1 : W1.heap[B + 1]? = some (.loop (rec .ready none)) := by
    have := World.alloc_heap_new (w.alloc (.deferred (some []))) (.loop (rec .ready none))
    rw [World.size_alloc] at this
    rw [hW1, hB]; exact this
  have hD1 : W1.heap[B]? = some (.deferred (some [])) := by
    rw [hW1, hB]; exact (Below.heap_alloc _ _ _ (by simp)).trans (World.alloc_heap_new w _)
  -- a store of the loop's record
  have hput : ∀ (r : Loop) (W : World), B + 1 < W.heap.size → (W.putObj (B + 1) (.loop r)).heap[B + 1]? = some (.loop r) ∧ (∀ k, k ≠ B + 1 → (W.putObj (B + 1) (.loop r)).heap[k]? = W.heap[k]?) :=
    fun r W h => ⟨World.putObj_heap_same h, fun k hk => World.putObj_heap_other hk⟩
  refine ⟨B + 1, [{ target := .collected B, args := #[] }], W1, { target := .fn (.func gf) lb, args := #[.func (.yield (B + 1)) #[] #[]] }, W1, gf, #[.func (.yield (B + 1)) #[] #[]] ++ lb, W1, ?_, ?_, ?_, ?_, fun _ => h1, ?_⟩
  · rw [hW1, hrec, hB]; exact run_enterLoop_outer _ _ _ _ _
  · simp only [resolve, hg]
    simp [go_sem]
  · intro f' hf'
    simp [Target.leads] at hf'
    exact hf' ▸ hFg
  · simp [invoke, go_sem, eg]
  · refine (hseq (B + 1) (fun k W => I k W ∧ W.heap[B + 1]? = some (.loop (rec .ready none)) ∧ W.heap[B]? = some (.deferred (some [])))
      (fun W => ∃ c, Ix c W ∧ W.heap[B + 1]? = some (.loop (rec .done (some c))) ∧ W.heap[B]? = some (.deferred (some []))) W1 hbw ?_ ?_ ⟨(hI 0).below h0 hbw, hL1, hD1⟩).mono ?_
    · rintro k X Y ⟨hi, hl, hd⟩ hb
      exact ⟨(hI k).below hi hb, (hb.block _ (Array.getElem?_eq_some_iff.1 hl).1).trans hl, (hb.block _ (Array.getElem?_eq_some_iff.1 hd).1).trans hd⟩
    · rintro k v W hk ⟨hi, hl, hd⟩ hgv
      have hy := run_yield (P := P) (args := #[v]) hl (by rw [hrec]; exact hps.symm)
      rw [hrec] at hy
      refine ⟨fn, _, assign, body, hy, roundIn_of_wpIn hfn (hassign _ k v W _ hk hi hgv ?_)⟩
      intro a' Wa hka hia hax
      have hla := hka.same _ _ (by omega) hl rfl
      have hda := hka.same _ _ (by omega) hd rfl
      have hlt := (Array.getElem?_eq_some_iff.1 hla).1
      refine ⟨_, run_beginRound hla (hs1 _ _), ?_⟩
      rw [hs4]
      obtain ⟨p1, p2⟩ := hput (rec .busy none) Wa hlt
      refine wpIn_mono (hbody _ k v a' _ (by omega) ⟨_, p1⟩ hk ((hI k).putObj _ hia (by omega) hla rfl) ((hA k v a').putObj _ hax (by omega) hla rfl)) ?_
      -- the end of a round
      have fin : ∀ (jump : Option Code) (W3 : World), KeepsFrom w.heap.size (Wa.putObj (B + 1) (.loop (rec .busy none))) W3 →
          (Instr.endRound (B + 1) jump).run P W3 = .ok (.bool jump.isNone) (W3.putObj (B + 1) (.loop (rec (if jump.isNone then .ready else .done) jump))) ∧ W3.heap[B + 1]? = some (.loop (rec .busy none)) ∧
          (W3.putObj (B + 1) (.loop (rec (if jump.isNone then .ready else .done) jump))).heap[B + 1]? = some (.loop (rec (if jump.isNone then .ready else .done) jump)) ∧
          (W3.putObj (B + 1) (.loop (rec (if jump.isNone then .ready else .done) jump))).heap[B]? = some (.deferred (some [])) := fun jump W3 hk3 => by
        have hl3 := hk3.same _ _ (by omega) p1 rfl
        have hd3 := hk3.same _ _ (by omega) ((p2 B (by omega)).trans hda) rfl
        have hr := run_endRound (P := P) jump hl3
        rw [hs3] at hr
        obtain ⟨q1, q2⟩ := hput (rec (if jump.isNone then .ready else .done) jump) W3 (Array.getElem?_eq_some_iff.1 hl3).1
        exact ⟨hr, hl3, q1, (q2 B (by omega)).trans hd3⟩
      have jmp : ∀ (c : Code) (W3 : World), KeepsFrom w.heap.size (Wa.putObj (B + 1) (.loop (rec .busy none))) W3 → Ix c W3 → ∃ v w', (Instr.endRound (B + 1) (some c)).run P W3 = .ok v w' ∧
          ((Ending.returned v = .returned (.bool true) ∧ (I (k + 1) w' ∧ w'.heap[B + 1]? = some (.loop (rec .ready none)) ∧ w'.heap[B]? = some (.deferred (some []))) ∧ W.heap.size ≤ w'.heap.size) ∨
            (Ending.returned v = .returned (.bool false) ∧ ∃ c, Ix c w' ∧ w'.heap[B + 1]? = some (.loop (rec .done (some c))) ∧ w'.heap[B]? = some (.deferred (some [])))) := fun c W3 hk3 hx => by
        obtain ⟨hr, hl3, hl4, hd4⟩ := fin (some c) W3 hk3
        exact ⟨_, _, hr, .inr ⟨rfl, c, (hIx c).putObj _ hx (by omega) hl3 rfl, hl4, hd4⟩⟩
      intro e a3 W3 hp
      cases e with
      | normal =>
        obtain ⟨hr, hl3, hl4, hd4⟩ := fin none W3 hp.1
        have z1 := hka.size
        have z2 := hp.1.size
        rw [size_putObj] at z2
        exact ⟨_, _, hr, .inl ⟨rfl, ⟨(hI (k + 1)).putObj _ hp.2 (by omega) hl3 rfl, hl4, hd4⟩, by rw [size_putObj]; omega⟩⟩
      | ret => exact jmp _ W3 hp.1 hp.2
      | exit id => exact jmp _ W3 hp.1 hp.2
      | goto t => exact jmp _ W3 hp.1 hp.2
      | panic ch => exact hp.elim
      | outgrown => exact hp.elim
    · rintro e W2 ⟨⟨v, rfl⟩, (⟨hi, hl, hd⟩ | ⟨c, hx, hl, hd⟩)⟩
      · have hr := run_endLoop (P := P) hl (by rw [hs1]; simp)
        rw [hs2] at hr
        refine ⟨none, _, hr, ?_⟩
        rw [hB] at hd hl ⊢
        exact hdone _ _ (Nat.le_refl _) ((hI N).putObj _ hi (by omega) hl rfl) ((World.putObj_heap_other (by omega)).trans hd)
      · have hr := run_endLoop (P := P) hl (by rw [hs1]; simp)
        rw [hs2] at hr
        refine ⟨some c, _, hr, ?_⟩
        rw [hB] at hd hl ⊢
        exact hstop _ c _ (Nat.le_refl _) ((hIx c).putObj _ hx (by omega) hl rfl) ((World.putObj_heap_other (by omega)).trans hd)
theorem wpIn_range_gives1 {g : Operand} {ps : Array Tmp} {assign body : Code} {Q : Exit → Act → World → Prop} {a : Act} {w : World}
    (hro : F.round = none) (h1 : 1 ≤ n) {gf : Nat} {lb : Array Value} (hg : a.eval g = .func (.func gf) #[] lb) (hFg : F.fn gf) (eg : ∀ args w, (callFunc gf args).run P w = .ok (.enter gf args) w)
    {N : Nat} {G : Nat → Value → World → Prop} (hseq : Gives F (n - 1) P gf lb N G w) (hps : ps.size = 1)
    (I : Nat → World → Prop) (Ix : Code → World → Prop) (a₁ : Value → Act)
    (hI : ∀ k, Stays w.heap.size (I k)) (hIx : ∀ c, Stays w.heap.size (Ix c)) (hG : ∀ k v, Stays w.heap.size (G k v)) (h0 : I 0 w)
    (hassign : ∀ (l : Nat) (v : Value) (W : World) (K : Act → World → Prop), (∃ k, G k v W) → K (a₁ v) W →
      assign.wpIn (F.inRound l) (n - 1 - 1) P (Exit.then K (fun _ _ _ => False)) { tmps := (ps.zip #[v]).foldl (fun t (p, v) => t.setIfInBounds p v) a.tmps, defers := [] } W)
    (hbody : ∀ (l k : Nat) (v : Value) (W : World), k < N → I k W → G k v W → body.wpIn (F.inRound l) (n - 1 - 1) P (leftBy w.heap.size I Ix k W) (a₁ v) W)
    (hdone : ∀ (D : Nat) (W : World), w.heap.size ≤ D → I N W → W.heap[D]? = some (.deferred (some [])) → Q .normal { a with defers := { target := .collected D, args := #[] } :: a.defers } W)
    (hstop : ∀ (D : Nat) (c : Code) (W : World), w.heap.size ≤ D → Ix c W → W.heap[D]? = some (.deferred (some [])) → c.wpIn F n P Q { a with defers := { target := .collected D, args := #[] } :: a.defers } W) :
    (Code.rangeFunc g ps assign body).wpIn F n P Q a w :=
  wpIn_range_gives hro h1 hg hFg eg hseq hps I Ix (fun k v a' W => a' = a₁ v ∧ G k v W) hI hIx (fun k v a' => (Stays.const _ (a' = a₁ v)).and (hG k v)) h0
    (fun l k v W K _ hi hgv hK => hassign l v W K ⟨k, hgv⟩ (hK _ _ (KeepsFrom.refl _ _) hi ⟨rfl, hgv⟩))
    (fun l k v a' W _ _ hk hi ⟨e, hgv⟩ => by subst e; exact hbody l k v W hk hi hgv) hdone hstop
end
end Go.Proofs.YtflmjdjkfognjaaGreat
namespace Go.Proofs.YtflmjdjkfognjaaGreat.W8
open Go.RowKit Go.Shelf
set_option linter.unusedVariables false
attribute [local go_sem] Oper.semAt_some
theorem keeps_cells {W W' : World} {row : Option Nat} {g : Nat} {cs : Array Value} {t : TypeId} {fz : Nat × Nat} (h : W.heap[g]? = some (.cells cs t fz)) (hg : W.grownBy W' row) (hr : ∀ r, row = some r → ∃ o : Obj, W.heap[r]? = some o ∧ o.isCells = false) : W'.heap[g]? = some (.cells cs t fz) :=
  (hg.block g (Array.getElem?_eq_some_iff.1 h).1 (fun e => by
    obtain ⟨o, ho, hc⟩ := hr g e.symm
    rw [h] at ho
    obtain rfl := Option.some.inj ho
    cases hc)).trans h
theorem stays_own (B base e sz n : Nat) (v : Value) (xs : List Value) : Stays B fun W => W.ownsRow base e sz v n xs := fun _ W W' row h hg hr => by
  refine ⟨h.1, ?_⟩
  rcases h.2 with h2 | ⟨b, cap, cur, h1, h2, h3, h4⟩
  · exact .inl h2
  · exact .inr ⟨b, cap, cur, h1, h2, keeps_cells h3 hg (fun r e => (hr r e).2), h4⟩
theorem stays_row (B e g cap : Nat) (l : List UInt8) : Stays B fun W => Row W e g cap l := fun _ W W' row h hg hr => by
  obtain ⟨cur, fz, h1, h2⟩ := h
  exact ⟨cur, fz, keeps_cells h1 hg (fun r e => (hr r e).2), h2⟩
theorem stays_bx (B g t : Nat) (cs : List Value) : Stays B fun W => Bx W g t cs := fun _ W W' row h hg hr => keeps_cells h hg (fun r e => (hr r e).2)
theorem stays_below {n₀ B : Nat} {w₀ : World} (hn : n₀ ≤ w₀.heap.size) (hB : n₀ ≤ B) : Stays B fun W => Below n₀ w₀ W := ownFrom_below hn hB
theorem kf_below {B : Nat} {W W' : World} (hb : Below W.heap.size W W') : KeepsFrom B W W' := ⟨hb.size, fun k o _ hk _ => (hb.block k (Array.getElem?_eq_some_iff.1 hk).1).trans hk⟩
theorem kf_set (B : Nat) (W : World) (p : Addr) (v : Value) : KeepsFrom B W (W.setCell p v) := (KeepsOthers.setCell W p v).from B
def GW (B : Nat) (k : Nat) (v : Value) (W : World) : Prop := W.ownsRow B 3 1 v (wd k).length (is (wd k))
theorem GW.stays (B0 B k : Nat) (v : Value) : Stays B0 (GW B k v) := stays_own _ _ _ _ _ _ _
set_option maxRecDepth 100000 in
set_option maxHeartbeats 2000000 in
theorem words_gives (n : Nat) (hn : 2 ≤ n) (w : World) : Gives Fence.wide n Tryz.prog 122 #[] 138 (GW w.heap.size) w := fun l J Jx W hW hJ hY h0 => by
  refine callsIn_of_wp Tryz.func122 rfl trivial ?_ rfl
  simp only [Tryz.ntmps122, List.size_toArray, List.length_cons, List.length_nil, Nat.reduceAdd, Nat.reduceSub, Array.replicate_succ, Array.replicate_zero, List.push_toArray, List.append_toArray, List.nil_append, List.cons_append]
  have hW0 := hW.size
  have hn1 : 1 ≤ n := by omega
  have hn2 : 1 ≤ n - 1 := by omega
  clear hW
  gi_wp2
  gi_loopw [8] (fun i wr => ∃ k : Nat, k ≤ 86 ∧ i = .int .i64 k ∧ J k wr ∧ w.heap.size ≤ wr.heap.size) (fun i _ => 86 - (intOf i).toNat)
  case atStart => exact ⟨0, by omega, rfl, h0, hW0⟩
  case round =>
    obtain ⟨k, hk, rfl, hJk, hs⟩ := hrel
    clear h0 hW0
    by_cases hlt : k < 86
    · have hlt' : (k : Int) < 86 := by omega
      have hG : ∀ (v : Value) (w1 : World), w1.ownsRow wr.heap.size 3 1 v 26 (is (pw k)) → GW w.heap.size k v w1 := fun v w1 ho => by
        have e : wd k = pw k := if_pos hlt
        unfold GW
        rw [e, pw_length]
        exact own_mono ho hs
      have HG := Lib.hid hG; clear hG
      gi_wp2_with (refine ⟨trivial, ?_⟩; gi_at_call 123; refine (callsIn_wide.2 (pword_ok k _ _ rfl hlt)).mono ?_; rintro e w1 ⟨v, rfl, ho, hb⟩; have hs1 := hb.size; obtain ⟨fn, tmps, assign, body, hy, hR⟩ := hY k v w1 (by omega) (hJ k wr w1 hJk hb) (HG.out v w1 ho); clear ho hb)
      refine hR.mono ?_
      rintro e W3 (⟨rfl, hJ3, hs3⟩ | ⟨rfl, hJx3⟩)
      · gi_wp2
        go_roundw
        case rel => exact ⟨k + 1, by omega, by go_num, hJ3, by omega⟩
        case measure => simp [intOf]; omega
      · gi_wp2
        exact bodyPost_ret (results_none rfl _ _ _) rfl ⟨⟨_, rfl⟩, .inr hJx3⟩
    · obtain rfl : k = 86 := by omega
      rw [show ((86 : Nat) : Int) = 86 from rfl]
      gi_wp2
      gi_loopw [21] (fun i wr => ∃ k : Nat, k ≤ 52 ∧ i = .int .i64 k ∧ J (86 + k) wr ∧ w.heap.size ≤ wr.heap.size) (fun i _ => 52 - (intOf i).toNat)
      case atStart => exact ⟨0, by omega, rfl, hJk, hs⟩
      case round =>
        clear hJk hs hlt
        obtain ⟨k, hk, rfl, hJk, hs⟩ := hrel
        by_cases hlt : k < 52
        · have hlt' : (k : Int) < 52 := by omega
          have hG : ∀ (v : Value) (w1 : World), w1.ownsRow wr.heap.size 3 1 v 45 (is (qw k)) → GW w.heap.size (86 + k) v w1 := fun v w1 ho => by
            have e : wd (86 + k) = qw k := by unfold wd; rw [if_neg (by omega)]; congr 1; omega
            unfold GW
            rw [e, qw_length]
            exact own_mono ho hs
          have HG := Lib.hid hG; clear hG
          gi_wp2_with (refine ⟨trivial, ?_⟩; gi_at_call 124; refine (callsIn_wide.2 (qword_ok k _ _ rfl hlt)).mono ?_; rintro e w1 ⟨v, rfl, ho, hb⟩; have hs1 := hb.size; obtain ⟨fn, tmps, assign, body, hy, hR⟩ := hY (86 + k) v w1 (by omega) (hJ _ _ w1 hJk hb) (HG.out v w1 ho); clear ho hb)
          refine hR.mono ?_
          rintro e W3 (⟨rfl, hJ3, hs3⟩ | ⟨rfl, hJx3⟩)
          · gi_wp2
            go_roundw
            case rel => exact ⟨k + 1, by omega, by go_num, hJ3, by omega⟩
            case measure => simp [intOf]; omega
          · gi_wp2
            exact bodyPost_ret (results_none rfl _ _ _) rfl ⟨⟨_, rfl⟩, .inr hJx3⟩
        · obtain rfl : k = 52 := by omega
          gi_wp2
          go_end0
          exact ⟨⟨_, rfl⟩, .inl hJk⟩
end Go.Proofs.YtflmjdjkfognjaaGreat.W8
namespace Go.Proofs.YtflmjdjkfognjaaGreat.W8
open Go.RowKit
set_option linter.unusedVariables false
def passS (f : Int) (st : List UInt8 × List Int × Bool) (k : Nat) : List UInt8 × List Int × Bool :=
  let d := G.decode (takeL st.1 (wd k) f) 2 (posS (wd k) st.2.1)
  if d.2.2 = 0 ∧ insB (wd k) f d.1 = true then (putL st.1 (wd k) f d.1, rel st.2.1 (wd k), putB st.1 (wd k) f d.1 || st.2.2) else st
def passN (f : Int) (raw : List UInt8) (S : List Int) : Nat → List UInt8 × List Int × Bool
  | 0 => (raw, S, false)
  | k + 1 => passS f (passN f raw S k) k
theorem passS_length (f : Int) (st : List UInt8 × List Int × Bool) (k : Nat) : (passS f st k).1.length = st.1.length := by
  unfold passS
  dsimp only
  split
  · rw [putL_length]
  · rfl
theorem passN_length (f : Int) (raw : List UInt8) (S : List Int) : ∀ k, (passN f raw S k).1.length = raw.length
  | 0 => rfl
  | k + 1 => by rw [passN, passS_length, passN_length f raw S k]
theorem stays_ms {B b n : Nat} (hb : b < B) (S : List Int) : Stays B fun W => MS W b n S := fun _ W W' row h hg hr =>
  MS.kept h (hg.block b h.lt (fun e => by have := (hr b e.symm).1; omega))
theorem Stays.ex {α : Type} {B : Nat} {p : α → World → Prop} (h : ∀ x, Stays B (p x)) : Stays B fun W => ∃ x, p x W := fun _ W W' row ⟨x, hx⟩ hg hr => ⟨x, (h x).grown hx hg hr⟩
theorem row_ne_ms {w : World} {e g cap b n : Nat} {l : List UInt8} {S : List Int} (h : Row w e g cap l) (hm : MS w b n S) : g ≠ b := by
  rintro rfl
  obtain ⟨cur, fz, h1, _⟩ := h
  obtain ⟨D, ⟨es, clock, h2, _⟩, _⟩ := hm
  rw [h1] at h2
  cases h2
def RegT (B : Nat) (t : TypeId) (cs0 : List Value) (w W : World) : Prop :=
  RegN B t cs0 w W ∧ ∀ (k : Nat) (cs : Array Value) (t' : TypeId) (fz : Nat × Nat), w.heap[k]? = some (Obj.cells cs t' fz) → t' ≠ t → W.heap[k]? = w.heap[k]?
section
variable {B : Nat} {t : TypeId} {cs0 : List Value} {w W : World}
theorem RegT.refl : RegT B t cs0 w w := ⟨RegN.refl, fun _ _ _ _ _ _ => rfl⟩
theorem RegT.call (hB : B ≤ w.heap.size) (hb : Below w.heap.size w W) : RegT B t cs0 w W := ⟨RegN.call hB hb, fun k _ _ _ h _ => hb.block k (Array.getElem?_eq_some_iff.1 h).1⟩
theorem RegT.alloc (hB : B ≤ w.heap.size) (o : Obj) : RegT B t cs0 w (w.alloc o) := RegT.call hB ((Below.refl _ _).alloc (Nat.le_refl _) o)
theorem RegT.store {g : Nat} (hg : B ≤ g) (ho : ∃ cs : List Value, cs.length = cs0.length ∧ Bx w g t cs) : RegT B t cs0 w (setN w g 0 cs0) := by
  refine ⟨RegN.store hg ho, fun k cs t' fz h hne => ?_⟩
  obtain ⟨cs', _, hb⟩ := ho
  refine (KeptR.setN cs0 0 (KeptR.refl (some g) w)).2 k (Array.getElem?_eq_some_iff.1 h).1 (fun e => ?_)
  obtain rfl := Option.some.inj e
  unfold Bx at hb
  rw [hb] at h
  simp only [Option.some.injEq, Obj.cells.injEq] at h
  exact hne h.2.1.symm
theorem RegT.own {b e sz n : Nat} {v : Value} {xs : List Value} (h : RegT B t cs0 w W) (ho : w.ownsRow b e sz v n xs) (hne : e ≠ t) : W.ownsRow b e sz v n xs := by
  refine ⟨ho.1, ?_⟩
  rcases ho.2 with h2 | ⟨g, cap, cur, h1, h2, h3, h4⟩
  · exact .inl h2
  · exact .inr ⟨g, cap, cur, h1, h2, (h.2 _ _ _ _ h3 hne).trans h3, h4⟩
end
section
variable {P : Program} {Q : Exit → Act → World → Prop}
theorem stepD_any {R : World → World → Prop} {V : Nat → Value → (Nat → Value) → World → Prop} {d : Nat → Value} {i : Nat} {o : Oper} {a : Act} {w : World} (h : ∀ K : Act → World → Prop, (∀ v w', R w w' → V i (kept o.dst v) d w' → K (a.put o.dst v) w') → o.wp P a w K Q) :
    o.wp P a w (fun a' w' => ∃ v, a' = a.put o.dst v ∧ R w w' ∧ V i (kept o.dst v) d w') Q := h _ fun v w' hr hv => ⟨v, rfl, hr, hv⟩
end
structure PX (W : World) (b3 b4 b5 b8 g cap mb : Nat) (f : Int) (c : Bool) : Prop where
  x3 : Bx W b3 123 [.slice (some ⟨g, 0, none⟩) 2352 cap]
  x4 : Bx W b4 3 [.int .i64 f]
  x5 : Bx W b5 52 [.map (some mb)]
  x8 : Bx W b8 4 [.bool c]
theorem PX.stays (B b3 b4 b5 b8 g cap mb : Nat) (f : Int) (c : Bool) : Stays B fun W => PX W b3 b4 b5 b8 g cap mb f c := fun _ W W' row h hg hr =>
  ⟨(stays_bx B _ _ _).grown h.x3 hg hr, (stays_bx B _ _ _).grown h.x4 hg hr, (stays_bx B _ _ _).grown h.x5 hg hr, (stays_bx B _ _ _).grown h.x8 hg hr⟩
theorem PX.keep {W W' : World} {b3 b4 b5 b8 g cap mb : Nat} {f : Int} {c : Bool} (h : PX W b3 b4 b5 b8 g cap mb f c) {B : Nat} (hb : Below B W W') (hB : W.heap.size ≤ B) : PX W' b3 b4 b5 b8 g cap mb f c :=
  ⟨h.x3.keepB hb (Nat.lt_of_lt_of_le h.x3.lt hB), h.x4.keepB hb (Nat.lt_of_lt_of_le h.x4.lt hB), h.x5.keepB hb (Nat.lt_of_lt_of_le h.x5.lt hB), h.x8.keepB hb (Nat.lt_of_lt_of_le h.x8.lt hB)⟩
theorem PX.grown {W W' : World} {b3 b4 b5 b8 g cap mb r : Nat} {f : Int} {c : Bool} (h : PX W b3 b4 b5 b8 g cap mb f c) (hg : W.grownBy W' (some r)) (hr : r < b3 ∧ b3 < b4 ∧ b4 < b5 ∧ b5 < b8) : PX W' b3 b4 b5 b8 g cap mb f c :=
  ⟨(hg.block _ h.x3.lt (fun e => by cases e; omega)).trans h.x3, (hg.block _ h.x4.lt (fun e => by cases e; omega)).trans h.x4, (hg.block _ h.x5.lt (fun e => by cases e; omega)).trans h.x5, (hg.block _ h.x8.lt (fun e => by cases e; omega)).trans h.x8⟩
def PassP (e0 g cap mb n0 B0 : Nat) (f : Int) (raw : List UInt8) (S : List Int) (w : World) (e : Ending) (w' : World) : Prop :=
  e = .returned (.tuple #[.bool (passN f raw S 138).2.2, .bool (decide ((passN f raw S 138).2.1.length < S.length))]) ∧ Row w' e0 g cap (passN f raw S 138).1 ∧ MS w' mb n0 (passN f raw S 138).2.1 ∧ Below B0 w w'
end Go.Proofs.YtflmjdjkfognjaaGreat.W8
namespace Go.Proofs.YtflmjdjkfognjaaGreat.W8
set_option linter.unusedVariables false
theorem ixI_pw (m i : Nat) (h : i < 26) : ixI (pw m) i = pf m i := by simp [ixI, pw, pl, h]
theorem ixI_qw (m i : Nat) (h : i < 43) : ixI (qw m) i = qf m i := by
  have : i < (ql m 43).length := by rw [ql_length]; exact h
  unfold ixI qw
  rw [List.getD_eq_getElem?_getD, List.getElem?_append_left this]
  simp [ql, h]
theorem ixI_qw43 (m : Nat) : ixI (qw m) 43 = 12 + 2 * (1118 + (m : Int) / 2) + m % 2 := by
  have h : (ql m 43).length = 43 := ql_length _ _
  unfold ixI qw
  rw [List.getD_eq_getElem?_getD, List.getElem?_append_right (by omega), h]
  rfl
theorem ixI_qw44 (m : Nat) : ixI (qw m) 44 = 12 + 2 * (1144 + (m : Int) / 2) + m % 2 := by
  have h : (ql m 43).length = 43 := ql_length _ _
  unfold ixI qw
  rw [List.getD_eq_getElem?_getD, List.getElem?_append_right (by omega), h]
  rfl
theorem q_solve (k i j : Nat) (hk : k < 1118) (hi : i < 43) (hj : j < 26) : (44 * i + 43 * j) % 1118 = k ↔ i = k % 43 ∧ j = (k / 43 + 26 * 43 - k % 43) % 26 := by
  obtain ⟨a, r, hr, ha, rfl⟩ : ∃ a r, r < 43 ∧ a < 26 ∧ k = 43 * a + r := ⟨k / 43, k % 43, by omega, by omega, by omega⟩
  have e1 : (43 * a + r) % 43 = r := by omega
  have e2 : (43 * a + r) / 43 = a := by omega
  rw [e1, e2]
  constructor
  · intro h
    have e : (44 * i + 43 * j) % 1118 % 43 = (44 * i + 43 * j) % 43 := Nat.mod_mod_of_dvd _ ⟨26, rfl⟩
    rw [h] at e
    have hir : i = r := by omega
    subst hir
    refine ⟨rfl, ?_⟩
    obtain ⟨q, hq⟩ : ∃ q, 44 * i + 43 * j = 1118 * q + (43 * a + i) := ⟨(44 * i + 43 * j) / 1118, by omega⟩
    have h3 : i + j = a + 26 * q := by omega
    have hq2 : q < 4 := by omega
    omega
  · rintro ⟨rfl, hj2⟩
    obtain ⟨t, ht⟩ : ∃ t, a + 26 * 43 - i = 26 * t + j := ⟨(a + 26 * 43 - i) / 26, by omega⟩
    have h4 : 44 * i + 43 * j + 1118 * t = 43 * a + i + 1118 * 43 := by omega
    have ht2 : t ≤ 43 := by omega
    obtain ⟨u, hu⟩ : ∃ u, 43 = t + u := ⟨43 - t, by omega⟩
    have h5 : 44 * i + 43 * j = 43 * a + i + 1118 * u := by omega
    rw [h5, Nat.add_mul_mod_self_left]
    exact Nat.mod_eq_of_lt hk
end Go.Proofs.YtflmjdjkfognjaaGreat.W8
