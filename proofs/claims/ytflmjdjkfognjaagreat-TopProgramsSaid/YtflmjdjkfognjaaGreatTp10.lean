/- Shaken out of XGiv XGiw XStep -/
import Derived.RangeFuncNested
import Derived.RangeFuncBox
import Derived.RangeFuncLeaves
import Derived.RangeFuncWrites
import Derived.RangeFuncCalls
import Derived.Test.YtflmjdjkfognjaaGreatTp07
import Derived.Test.YtflmjdjkfognjaaGreatTp08
import Derived.Deep.RegionHeld3
namespace Go.Proofs.YtflmjdjkfognjaaGreat
open Go Go.RowKit
set_option linter.unusedVariables false
section
variable {F : Fence} {n : Nat} {P : Program}
/-- the function 'gf', called with the yield of any loop: 'N' rounds at most; of the value that the round 'k' is handed 'G k' holds -/
def Gives (F : Fence) (n : Nat) (P : Program) (gf : Nat) (lb : Array Value) (N : Nat) (G : Nat → Value → World → Prop) (w : World) : Prop :=
  ∀ (l : Nat) (J : Nat → World → Prop) (Jx : World → Prop) (W : World), Below w.heap.size w W → (∀ k A A', J k A → Below A.heap.size A A' → J k A') →
    (∀ k v A, k < N → J k A → G k v A → YieldAt F (n - 1) P l #[v] A fun e A' => (e = .returned (.bool true) ∧ J (k + 1) A' ∧ A.heap.size ≤ A'.heap.size) ∨ (e = .returned (.bool false) ∧ Jx A')) →
    J 0 W → CallsIn F n P gf (#[.func (.yield l) #[] #[]] ++ lb) W fun e W' => (∃ v, e = .returned v) ∧ (J N W' ∨ Jx W')
theorem size_putObj (W : World) (l : Nat) (o : Obj) : (W.putObj l o).heap.size = W.heap.size := by simp [World.putObj]
/-- how a round may be left -/
def leftBy (B : Nat) (I : Nat → World → Prop) (Ix : Code → World → Prop) (k : Nat) (W : World) : Exit → Act → World → Prop
  | .normal, _, W' => KeepsFrom B W W' ∧ I (k + 1) W'
  | .ret, _, W' => KeepsFrom B W W' ∧ Ix .ret W'
  | .exit id, _, W' => KeepsFrom B W W' ∧ Ix (.exit id) W'
  | .goto t, _, W' => KeepsFrom B W W' ∧ Ix (.goto t) W'
  | _, _, _ => False
/-- a fact of one world that the book-keeping of a loop leaves alone -/
def Stays (B : Nat) (p : World → Prop) : Prop := OwnFrom B fun (_ : Unit) W => p W
theorem Stays.grown {B : Nat} {p : World → Prop} (h : Stays B p) {W W' : World} {row : Option Nat} (hp : p W) (hg : W.grownBy W' row) (hr : ∀ r, row = some r → B ≤ r ∧ ∃ o : Obj, W.heap[r]? = some o ∧ o.isCells = false) : p W' := h () W W' row hp hg hr
theorem Stays.below {B : Nat} {p : World → Prop} (h : Stays B p) {W W' : World} (hp : p W) (hb : Below W.heap.size W W') : p W' :=
  h.grown hp (row := none) ⟨hb.os, hb.tape, hb.output, hb.size, fun k hk _ => hb.block k hk⟩ (fun r e => by cases e)
theorem Stays.putObj {B l : Nat} {p : World → Prop} (h : Stays B p) {W : World} {o : Obj} (o' : Obj) (hp : p W) (hB : B ≤ l) (hl : W.heap[l]? = some o) (ho : o.isCells = false) : p (W.putObj l o') := OwnFrom.putObj (s := ()) h o' hp hB hl ho
theorem Stays.and {B : Nat} {p q : World → Prop} (h : Stays B p) (h' : Stays B q) : Stays B fun W => p W ∧ q W := OwnFrom.and h h'
theorem Stays.const (B : Nat) (p : Prop) : Stays B fun _ => p := fun _ _ _ _ h _ _ => h
/-- the loop over what 'Gives' says; 'A k v a' W': the round's frame when the left sides are assigned to -/
theorem wpIn_range_gives {g : Operand} {ps : Array Tmp} {assign body : Code} {Q : Exit → Act → World → Prop} {a : Act} {w : World}
    (hro : F.round = none) (h1 : 1 ≤ n) {gf : Nat} {lb : Array Value} (hg : a.eval g = .func (.func gf) #[] lb) (hFg : F.fn gf) (eg : ∀ args w, (callFunc gf args).run P w = .ok (.enter gf args) w)
    {N : Nat} {G : Nat → Value → World → Prop} (hseq : Gives F (n - 1) P gf lb N G w) (hps : ps.size = 1)
    (I : Nat → World → Prop) (Ix : Code → World → Prop) (A : Nat → Value → Act → World → Prop)
    (hI : ∀ k, Stays w.heap.size (I k)) (hIx : ∀ c, Stays w.heap.size (Ix c)) (hA : ∀ k v a', Stays w.heap.size (A k v a')) (h0 : I 0 w)
    (hassign : ∀ (l k : Nat) (v : Value) (W : World) (K : Act → World → Prop), k < N → I k W → G k v W → (∀ a' W', KeepsFrom w.heap.size W W' → I k W' → A k v a' W' → K a' W') →
      assign.wpIn (F.inRound l) (n - 1 - 1) P (Exit.then K (fun _ _ _ => False)) { tmps := (ps.zip #[v]).foldl (fun t (p, v) => t.setIfInBounds p v) a.tmps, defers := [] } W)
    (hbody : ∀ (l k : Nat) (v : Value) (a' : Act) (W : World), w.heap.size ≤ l → (∃ r, W.heap[l]? = some (.loop r)) → k < N → I k W → A k v a' W → body.wpIn (F.inRound l) (n - 1 - 1) P (leftBy w.heap.size I Ix k W) a' W)
    (hdone : ∀ (D : Nat) (W : World), w.heap.size ≤ D → I N W → W.heap[D]? = some (.deferred (some [])) → Q .normal { a with defers := { target := .collected D, args := #[] } :: a.defers } W)
    (hstop : ∀ (D : Nat) (c : Code) (W : World), w.heap.size ≤ D → Ix c W → W.heap[D]? = some (.deferred (some [])) → c.wpIn F n P Q { a with defers := { target := .collected D, args := #[] } :: a.defers } W) :
    (Code.rangeFunc g ps assign body).wpIn F n P Q a w := by
  refine wpIn_rangeFunc fun fn hfn => ?_
  rw [hro]
  obtain ⟨B, hB⟩ : ∃ B, B = w.heap.size := ⟨_, rfl⟩
  obtain ⟨rec, hrec⟩ : ∃ rec : LoopState → Option Code → Loop, rec = fun st pe => { state := st, pending := pe, fn, tmps := a.tmps, params := ps, assign, body, defers := w.heap.size } := ⟨_, rfl⟩
  have hs1 : ∀ st pe, (rec st pe).state = st := fun _ _ => by rw [hrec]
  have hs2 : ∀ st pe, (rec st pe).pending = pe := fun _ _ => by rw [hrec]
  have hs3 : ∀ st pe st' pe', { rec st pe with state := st', pending := pe' } = rec st' pe' := fun _ _ _ _ => by rw [hrec]
  have hs4 : ∀ st pe st', { rec st pe with state := st' } = rec st' pe := fun _ _ _ => by rw [hrec]
  obtain ⟨W1, hW1⟩ : ∃ W1, W1 = (w.alloc (.deferred (some []))).alloc (.loop (rec .ready none)) := ⟨_, rfl⟩
  have hbw : Below w.heap.size w W1 := by rw [hW1]; exact ((Below.refl _ w).alloc (Nat.le_refl _) _).alloc (by simp) _
  have hL1 : W1.heap[B + 1]? = some (.loop (rec .ready none)) := by
    have := World.alloc_heap_new (w.alloc (.deferred (some []))) (.loop (rec .ready none))
    rw [World.size_alloc] at this
    rw [hW1, hB]; exact this
  have hD1 : W1.heap[B]? = some (.deferred (some [])) := by
    rw [hW1, hB]; exact (Below.heap_alloc _ _ _ (by simp)).trans (World.alloc_heap_new w _)
  -- a store of the loop's record
  have hput : ∀ (r : Loop) (W : World), B + 1 < W.heap.size → (W.putObj (B + 1) (.loop r)).heap[B + 1]? = some (.loop r) ∧ (∀ k, k ≠ B + 1 → (W.putObj (B + 1) (.loop r)).heap[k]? = W.heap[k]?) :=
    fun r W h => ⟨World.putObj_heap_same h, fun k hk => World.putObj_heap_other hk⟩
  refine ⟨B + 1, [{ target := .collected B, args := #[] }], W1, { target := .fn (.func gf) lb, args := #[.func (.yield (B + 1)) #[] #[]] }, W1, gf, #[.func (.yield (B + 1)) #[] #[]] ++ lb, W1, ?_, ?_, ?_, ?_, fun _ => h1, ?_⟩
  · rw [hW1, hrec, hB]; exact run_enterLoop_outer _ _ _ _ _
  · simp only [resolve, hg]
    simp [go_sem]
  · intro f' hf'
    simp [Target.leads] at hf'
    exact hf' ▸ hFg
  · simp [invoke, go_sem, eg]
  · refine (hseq (B + 1) (fun k W => I k W ∧ W.heap[B + 1]? = some (.loop (rec .ready none)) ∧ W.heap[B]? = some (.deferred (some [])))
      (fun W => ∃ c, Ix c W ∧ W.heap[B + 1]? = some (.loop (rec .done (some c))) ∧ W.heap[B]? = some (.deferred (some []))) W1 hbw ?_ ?_ ⟨(hI 0).below h0 hbw, hL1, hD1⟩).mono ?_
    · rintro k X Y ⟨hi, hl, hd⟩ hb
      exact ⟨(hI k).below hi hb, (hb.block _ (Array.getElem?_eq_some_iff.1 hl).1).trans hl, (hb.block _ (Array.getElem?_eq_some_iff.1 hd).1).trans hd⟩
    · rintro k v W hk ⟨hi, hl, hd⟩ hgv
      have hy := run_yield (P := P) (args := #[v]) hl (by rw [hrec]; exact hps.symm)
      rw [hrec] at hy
      refine ⟨fn, _, assign, body, hy, roundIn_of_wpIn hfn (hassign _ k v W _ hk hi hgv ?_)⟩
      intro a' Wa hka hia hax
      have hla := hka.same _ _ (by omega) hl rfl
      have hda := hka.same _ _ (by omega) hd rfl
      have hlt := (Array.getElem?_eq_some_iff.1 hla).1
      refine ⟨_, run_beginRound hla (hs1 _ _), ?_⟩
      rw [hs4]
      obtain ⟨p1, p2⟩ := hput (rec .busy none) Wa hlt
      refine wpIn_mono (hbody _ k v a' _ (by omega) ⟨_, p1⟩ hk ((hI k).putObj _ hia (by omega) hla rfl) ((hA k v a').putObj _ hax (by omega) hla rfl)) ?_
      -- the end of a round
      have fin : ∀ (jump : Option Code) (W3 : World), KeepsFrom w.heap.size (Wa.putObj (B + 1) (.loop (rec .busy none))) W3 →
          (Instr.endRound (B + 1) jump).run P W3 = .ok (.bool jump.isNone) (W3.putObj (B + 1) (.loop (rec (if jump.isNone then .ready else .done) jump))) ∧ W3.heap[B + 1]? = some (.loop (rec .busy none)) ∧
          (W3.putObj (B + 1) (.loop (rec (if jump.isNone then .ready else .done) jump))).heap[B + 1]? = some (.loop (rec (if jump.isNone then .ready else .done) jump)) ∧
          (W3.putObj (B + 1) (.loop (rec (if jump.isNone then .ready else .done) jump))).heap[B]? = some (.deferred (some [])) := fun jump W3 hk3 => by
        have hl3 := hk3.same _ _ (by omega) p1 rfl
        have hd3 := hk3.same _ _ (by omega) ((p2 B (by omega)).trans hda) rfl
        have hr := run_endRound (P := P) jump hl3
        rw [hs3] at hr
        obtain ⟨q1, q2⟩ := hput (rec (if jump.isNone then .ready else .done) jump) W3 (Array.getElem?_eq_some_iff.1 hl3).1
        exact ⟨hr, hl3, q1, (q2 B (by omega)).trans hd3⟩
      have jmp : ∀ (c : Code) (W3 : World), KeepsFrom w.heap.size (Wa.putObj (B + 1) (.loop (rec .busy none))) W3 → Ix c W3 → ∃ v w', (Instr.endRound (B + 1) (some c)).run P W3 = .ok v w' ∧
          ((Ending.returned v = .returned (.bool true) ∧ (I (k + 1) w' ∧ w'.heap[B + 1]? = some (.loop (rec .ready none)) ∧ w'.heap[B]? = some (.deferred (some []))) ∧ W.heap.size ≤ w'.heap.size) ∨
            (Ending.returned v = .returned (.bool false) ∧ ∃ c, Ix c w' ∧ w'.heap[B + 1]? = some (.loop (rec .done (some c))) ∧ w'.heap[B]? = some (.deferred (some [])))) := fun c W3 hk3 hx => by
        obtain ⟨hr, hl3, hl4, hd4⟩ := fin (some c) W3 hk3
        exact ⟨_, _, hr, .inr ⟨rfl, c, (hIx c).putObj _ hx (by omega) hl3 rfl, hl4, hd4⟩⟩
      intro e a3 W3 hp
      cases e with
      | normal =>
        obtain ⟨hr, hl3, hl4, hd4⟩ := fin none W3 hp.1
        have z1 := hka.size
        have z2 := hp.1.size
        rw [size_putObj] at z2
        exact ⟨_, _, hr, .inl ⟨rfl, ⟨(hI (k + 1)).putObj _ hp.2 (by omega) hl3 rfl, hl4, hd4⟩, by rw [size_putObj]; omega⟩⟩
      | ret => exact jmp _ W3 hp.1 hp.2
      | exit id => exact jmp _ W3 hp.1 hp.2
      | goto t => exact jmp _ W3 hp.1 hp.2
      | panic ch => exact hp.elim
      | outgrown => exact hp.elim
    · rintro e W2 ⟨⟨v, rfl⟩, (⟨hi, hl, hd⟩ | ⟨c, hx, hl, hd⟩)⟩
      · have hr := run_endLoop (P := P) hl (by rw [hs1]; simp)
        rw [hs2] at hr
        refine ⟨none, _, hr, ?_⟩
        rw [hB] at hd hl ⊢
        exact hdone _ _ (Nat.le_refl _) ((hI N).putObj _ hi (by omega) hl rfl) ((World.putObj_heap_other (by omega)).trans hd)
      · have hr := run_endLoop (P := P) hl (by rw [hs1]; simp)
        rw [hs2] at hr
        refine ⟨some c, _, hr, ?_⟩
        rw [hB] at hd hl ⊢
        exact hstop _ c _ (Nat.le_refl _) ((hIx c).putObj _ hx (by omega) hl rfl) ((World.putObj_heap_other (by omega)).trans hd)
/-- the same, where the left side is one variable that is kept in no box -/
theorem wpIn_range_gives1 {g : Operand} {ps : Array Tmp} {assign body : Code} {Q : Exit → Act → World → Prop} {a : Act} {w : World}
    (hro : F.round = none) (h1 : 1 ≤ n) {gf : Nat} {lb : Array Value} (hg : a.eval g = .func (.func gf) #[] lb) (hFg : F.fn gf) (eg : ∀ args w, (callFunc gf args).run P w = .ok (.enter gf args) w)
    {N : Nat} {G : Nat → Value → World → Prop} (hseq : Gives F (n - 1) P gf lb N G w) (hps : ps.size = 1)
    (I : Nat → World → Prop) (Ix : Code → World → Prop) (a₁ : Value → Act)
    (hI : ∀ k, Stays w.heap.size (I k)) (hIx : ∀ c, Stays w.heap.size (Ix c)) (hG : ∀ k v, Stays w.heap.size (G k v)) (h0 : I 0 w)
    (hassign : ∀ (l : Nat) (v : Value) (W : World) (K : Act → World → Prop), (∃ k, G k v W) → K (a₁ v) W →
      assign.wpIn (F.inRound l) (n - 1 - 1) P (Exit.then K (fun _ _ _ => False)) { tmps := (ps.zip #[v]).foldl (fun t (p, v) => t.setIfInBounds p v) a.tmps, defers := [] } W)
    (hbody : ∀ (l k : Nat) (v : Value) (W : World), k < N → I k W → G k v W → body.wpIn (F.inRound l) (n - 1 - 1) P (leftBy w.heap.size I Ix k W) (a₁ v) W)
    (hdone : ∀ (D : Nat) (W : World), w.heap.size ≤ D → I N W → W.heap[D]? = some (.deferred (some [])) → Q .normal { a with defers := { target := .collected D, args := #[] } :: a.defers } W)
    (hstop : ∀ (D : Nat) (c : Code) (W : World), w.heap.size ≤ D → Ix c W → W.heap[D]? = some (.deferred (some [])) → c.wpIn F n P Q { a with defers := { target := .collected D, args := #[] } :: a.defers } W) :
    (Code.rangeFunc g ps assign body).wpIn F n P Q a w :=
  wpIn_range_gives hro h1 hg hFg eg hseq hps I Ix (fun k v a' W => a' = a₁ v ∧ G k v W) hI hIx (fun k v a' => (Stays.const _ (a' = a₁ v)).and (hG k v)) h0
    (fun l k v W K _ hi hgv hK => hassign l v W K ⟨k, hgv⟩ (hK _ _ (KeepsFrom.refl _ _) hi ⟨rfl, hgv⟩))
    (fun l k v a' W _ _ hk hi ⟨e, hgv⟩ => by subst e; exact hbody l k v W hk hi hgv) hdone hstop
end
end Go.Proofs.YtflmjdjkfognjaaGreat
namespace Go.Proofs.YtflmjdjkfognjaaGreat
open Go Go.RowKit
set_option linter.unusedVariables false
section
variable {F : Fence} {n : Nat} {P : Program}
/-- the function 'gf', called with the yield of any loop: 'N' rounds at most; who calls it stops it before the round 'N'; of the value that the round 'k' is handed 'G k' holds -/
def GivesN (F : Fence) (n : Nat) (P : Program) (gf : Nat) (lb : Array Value) (N : Nat) (G : Nat → Value → World → Prop) (w : World) : Prop :=
  ∀ (l : Nat) (J : Nat → World → Prop) (Jx : World → Prop) (W : World), Below w.heap.size w W → (∀ A, ¬ J N A) → (∀ k A A', J k A → Below A.heap.size A A' → J k A') →
    (∀ k v A, k < N → J k A → G k v A → YieldAt F (n - 1) P l #[v] A fun e A' => (e = .returned (.bool true) ∧ J (k + 1) A' ∧ A.heap.size ≤ A'.heap.size) ∨ (e = .returned (.bool false) ∧ Jx A')) →
    J 0 W → CallsIn F n P gf (#[.func (.yield l) #[] #[]] ++ lb) W fun e W' => (∃ v, e = .returned v) ∧ Jx W'
/-- the loop over what 'GivesN' says; 'A k v a' W': the round's frame when the left sides are assigned to -/
theorem wpIn_range_givesN {g : Operand} {ps : Array Tmp} {assign body : Code} {Q : Exit → Act → World → Prop} {a : Act} {w : World}
    (hro : F.round = none) (h1 : 1 ≤ n) {gf : Nat} {lb : Array Value} (hg : a.eval g = .func (.func gf) #[] lb) (hFg : F.fn gf) (eg : ∀ args w, (callFunc gf args).run P w = .ok (.enter gf args) w)
    {N : Nat} {G : Nat → Value → World → Prop} (hseq : GivesN F (n - 1) P gf lb N G w) (hps : ps.size = 1)
    (I : Nat → World → Prop) (Ix : Code → World → Prop) (A : Nat → Value → Act → World → Prop)
    (hI : ∀ k, Stays w.heap.size (I k)) (hIx : ∀ c, Stays w.heap.size (Ix c)) (hA : ∀ k v a', Stays w.heap.size (A k v a')) (h0 : I 0 w) (hN : ∀ W, ¬ I N W)
    (hassign : ∀ (l k : Nat) (v : Value) (W : World) (K : Act → World → Prop), k < N → I k W → G k v W → (∀ a' W', KeepsFrom w.heap.size W W' → I k W' → A k v a' W' → K a' W') →
      assign.wpIn (F.inRound l) (n - 1 - 1) P (Exit.then K (fun _ _ _ => False)) { tmps := (ps.zip #[v]).foldl (fun t (p, v) => t.setIfInBounds p v) a.tmps, defers := [] } W)
    (hbody : ∀ (l k : Nat) (v : Value) (a' : Act) (W : World), w.heap.size ≤ l → (∃ r, W.heap[l]? = some (.loop r)) → k < N → I k W → A k v a' W → body.wpIn (F.inRound l) (n - 1 - 1) P (leftBy w.heap.size I Ix k W) a' W)
    (hstop : ∀ (D : Nat) (c : Code) (W : World), w.heap.size ≤ D → Ix c W → W.heap[D]? = some (.deferred (some [])) → c.wpIn F n P Q { a with defers := { target := .collected D, args := #[] } :: a.defers } W) :
    (Code.rangeFunc g ps assign body).wpIn F n P Q a w := by
  refine wpIn_rangeFunc fun fn hfn => ?_
  rw [hro]
  obtain ⟨B, hB⟩ : ∃ B, B = w.heap.size := ⟨_, rfl⟩
  obtain ⟨rec, hrec⟩ : ∃ rec : LoopState → Option Code → Loop, rec = fun st pe => { state := st, pending := pe, fn, tmps := a.tmps, params := ps, assign, body, defers := w.heap.size } := ⟨_, rfl⟩
  have hs1 : ∀ st pe, (rec st pe).state = st := fun _ _ => by rw [hrec]
  have hs2 : ∀ st pe, (rec st pe).pending = pe := fun _ _ => by rw [hrec]
  have hs3 : ∀ st pe st' pe', { rec st pe with state := st', pending := pe' } = rec st' pe' := fun _ _ _ _ => by rw [hrec]
  have hs4 : ∀ st pe st', { rec st pe with state := st' } = rec st' pe := fun _ _ _ => by rw [hrec]
  obtain ⟨W1, hW1⟩ : ∃ W1, W1 = (w.alloc (.deferred (some []))).alloc (.loop (rec .ready none)) := ⟨_, rfl⟩
  have hbw : Below w.heap.size w W1 := by rw [hW1]; exact ((Below.refl _ w).alloc (Nat.le_refl _) _).alloc (by simp) _
  have hL1 : W1.heap[B + 1]? = some (.loop (rec .ready none)) := by
    have := World.alloc_heap_new (w.alloc (.deferred (some []))) (.loop (rec .ready none))
    rw [World.size_alloc] at this
    rw [hW1, hB]; exact this
  have hD1 : W1.heap[B]? = some (.deferred (some [])) := by
    rw [hW1, hB]; exact (Below.heap_alloc _ _ _ (by simp)).trans (World.alloc_heap_new w _)
  -- a store of the loop's record
  have hput : ∀ (r : Loop) (W : World), B + 1 < W.heap.size → (W.putObj (B + 1) (.loop r)).heap[B + 1]? = some (.loop r) ∧ (∀ k, k ≠ B + 1 → (W.putObj (B + 1) (.loop r)).heap[k]? = W.heap[k]?) :=
    fun r W h => ⟨World.putObj_heap_same h, fun k hk => World.putObj_heap_other hk⟩
  refine ⟨B + 1, [{ target := .collected B, args := #[] }], W1, { target := .fn (.func gf) lb, args := #[.func (.yield (B + 1)) #[] #[]] }, W1, gf, #[.func (.yield (B + 1)) #[] #[]] ++ lb, W1, ?_, ?_, ?_, ?_, fun _ => h1, ?_⟩
  · rw [hW1, hrec, hB]; exact run_enterLoop_outer _ _ _ _ _
  · simp only [resolve, hg]
    simp [go_sem]
  · intro f' hf'
    simp [Target.leads] at hf'
    exact hf' ▸ hFg
  · simp [invoke, go_sem, eg]
  · refine (hseq (B + 1) (fun k W => I k W ∧ W.heap[B + 1]? = some (.loop (rec .ready none)) ∧ W.heap[B]? = some (.deferred (some [])))
      (fun W => ∃ c, Ix c W ∧ W.heap[B + 1]? = some (.loop (rec .done (some c))) ∧ W.heap[B]? = some (.deferred (some []))) W1 hbw (fun A h => hN A h.1) ?_ ?_ ⟨(hI 0).below h0 hbw, hL1, hD1⟩).mono ?_
    · rintro k X Y ⟨hi, hl, hd⟩ hb
      exact ⟨(hI k).below hi hb, (hb.block _ (Array.getElem?_eq_some_iff.1 hl).1).trans hl, (hb.block _ (Array.getElem?_eq_some_iff.1 hd).1).trans hd⟩
    · rintro k v W hk ⟨hi, hl, hd⟩ hgv
      have hy := run_yield (P := P) (args := #[v]) hl (by rw [hrec]; exact hps.symm)
      rw [hrec] at hy
      refine ⟨fn, _, assign, body, hy, roundIn_of_wpIn hfn (hassign _ k v W _ hk hi hgv ?_)⟩
      intro a' Wa hka hia hax
      have hla := hka.same _ _ (by omega) hl rfl
      have hda := hka.same _ _ (by omega) hd rfl
      have hlt := (Array.getElem?_eq_some_iff.1 hla).1
      refine ⟨_, run_beginRound hla (hs1 _ _), ?_⟩
      rw [hs4]
      obtain ⟨p1, p2⟩ := hput (rec .busy none) Wa hlt
      refine wpIn_mono (hbody _ k v a' _ (by omega) ⟨_, p1⟩ hk ((hI k).putObj _ hia (by omega) hla rfl) ((hA k v a').putObj _ hax (by omega) hla rfl)) ?_
      -- the end of a round
      have fin : ∀ (jump : Option Code) (W3 : World), KeepsFrom w.heap.size (Wa.putObj (B + 1) (.loop (rec .busy none))) W3 →
          (Instr.endRound (B + 1) jump).run P W3 = .ok (.bool jump.isNone) (W3.putObj (B + 1) (.loop (rec (if jump.isNone then .ready else .done) jump))) ∧ W3.heap[B + 1]? = some (.loop (rec .busy none)) ∧
          (W3.putObj (B + 1) (.loop (rec (if jump.isNone then .ready else .done) jump))).heap[B + 1]? = some (.loop (rec (if jump.isNone then .ready else .done) jump)) ∧
          (W3.putObj (B + 1) (.loop (rec (if jump.isNone then .ready else .done) jump))).heap[B]? = some (.deferred (some [])) := fun jump W3 hk3 => by
        have hl3 := hk3.same _ _ (by omega) p1 rfl
        have hd3 := hk3.same _ _ (by omega) ((p2 B (by omega)).trans hda) rfl
        have hr := run_endRound (P := P) jump hl3
        rw [hs3] at hr
        obtain ⟨q1, q2⟩ := hput (rec (if jump.isNone then .ready else .done) jump) W3 (Array.getElem?_eq_some_iff.1 hl3).1
        exact ⟨hr, hl3, q1, (q2 B (by omega)).trans hd3⟩
      have jmp : ∀ (c : Code) (W3 : World), KeepsFrom w.heap.size (Wa.putObj (B + 1) (.loop (rec .busy none))) W3 → Ix c W3 → ∃ v w', (Instr.endRound (B + 1) (some c)).run P W3 = .ok v w' ∧
          ((Ending.returned v = .returned (.bool true) ∧ (I (k + 1) w' ∧ w'.heap[B + 1]? = some (.loop (rec .ready none)) ∧ w'.heap[B]? = some (.deferred (some []))) ∧ W.heap.size ≤ w'.heap.size) ∨
            (Ending.returned v = .returned (.bool false) ∧ ∃ c, Ix c w' ∧ w'.heap[B + 1]? = some (.loop (rec .done (some c))) ∧ w'.heap[B]? = some (.deferred (some [])))) := fun c W3 hk3 hx => by
        obtain ⟨hr, hl3, hl4, hd4⟩ := fin (some c) W3 hk3
        exact ⟨_, _, hr, .inr ⟨rfl, c, (hIx c).putObj _ hx (by omega) hl3 rfl, hl4, hd4⟩⟩
      intro e a3 W3 hp
      cases e with
      | normal =>
        obtain ⟨hr, hl3, hl4, hd4⟩ := fin none W3 hp.1
        have z1 := hka.size
        have z2 := hp.1.size
        rw [size_putObj] at z2
        exact ⟨_, _, hr, .inl ⟨rfl, ⟨(hI (k + 1)).putObj _ hp.2 (by omega) hl3 rfl, hl4, hd4⟩, by rw [size_putObj]; omega⟩⟩
      | ret => exact jmp _ W3 hp.1 hp.2
      | exit id => exact jmp _ W3 hp.1 hp.2
      | goto t => exact jmp _ W3 hp.1 hp.2
      | panic ch => exact hp.elim
      | outgrown => exact hp.elim
    · rintro e W2 ⟨⟨v, rfl⟩, c, hx, hl, hd⟩
      have hr := run_endLoop (P := P) hl (by rw [hs1]; simp)
      rw [hs2] at hr
      refine ⟨some c, _, hr, ?_⟩
      rw [hB] at hd hl ⊢
      exact hstop _ c _ (Nat.le_refl _) ((hIx c).putObj _ hx (by omega) hl rfl) ((World.putObj_heap_other (by omega)).trans hd)
/-- the same, where the left side is one variable that is kept in no box -/
theorem wpIn_range_givesN1 {g : Operand} {ps : Array Tmp} {assign body : Code} {Q : Exit → Act → World → Prop} {a : Act} {w : World}
    (hro : F.round = none) (h1 : 1 ≤ n) {gf : Nat} {lb : Array Value} (hg : a.eval g = .func (.func gf) #[] lb) (hFg : F.fn gf) (eg : ∀ args w, (callFunc gf args).run P w = .ok (.enter gf args) w)
    {N : Nat} {G : Nat → Value → World → Prop} (hseq : GivesN F (n - 1) P gf lb N G w) (hps : ps.size = 1)
    (I : Nat → World → Prop) (Ix : Code → World → Prop) (a₁ : Value → Act)
    (hI : ∀ k, Stays w.heap.size (I k)) (hIx : ∀ c, Stays w.heap.size (Ix c)) (hG : ∀ k v, Stays w.heap.size (G k v)) (h0 : I 0 w) (hN : ∀ W, ¬ I N W)
    (hassign : ∀ (l : Nat) (v : Value) (W : World) (K : Act → World → Prop), (∃ k, G k v W) → K (a₁ v) W →
      assign.wpIn (F.inRound l) (n - 1 - 1) P (Exit.then K (fun _ _ _ => False)) { tmps := (ps.zip #[v]).foldl (fun t (p, v) => t.setIfInBounds p v) a.tmps, defers := [] } W)
    (hbody : ∀ (l k : Nat) (v : Value) (W : World), k < N → I k W → G k v W → body.wpIn (F.inRound l) (n - 1 - 1) P (leftBy w.heap.size I Ix k W) (a₁ v) W)
    (hstop : ∀ (D : Nat) (c : Code) (W : World), w.heap.size ≤ D → Ix c W → W.heap[D]? = some (.deferred (some [])) → c.wpIn F n P Q { a with defers := { target := .collected D, args := #[] } :: a.defers } W) :
    (Code.rangeFunc g ps assign body).wpIn F n P Q a w :=
  wpIn_range_givesN hro h1 hg hFg eg hseq hps I Ix (fun k v a' W => a' = a₁ v ∧ G k v W) hI hIx (fun k v a' => (Stays.const _ (a' = a₁ v)).and (hG k v)) h0 hN
    (fun l k v W K _ hi hgv hK => hassign l v W K ⟨k, hgv⟩ (hK _ _ (KeepsFrom.refl _ _) hi ⟨rfl, hgv⟩))
    (fun l k v a' W _ _ hk hi ⟨e, hgv⟩ => by subst e; exact hbody l k v W hk hi hgv) hstop
end
end Go.Proofs.YtflmjdjkfognjaaGreat
namespace Go.Proofs.YtflmjdjkfognjaaGreat
open Go.RowKit
set_option linter.unusedVariables false
section
variable {α : Type} {d : α} {D : α → List Value} {sz : Nat}
end
/-- every block but 'r' is as it was -/
def KeptR (r : Option Nat) (w W : World) : Prop := w.heap.size ≤ W.heap.size ∧ ∀ k, k < w.heap.size → some k ≠ r → W.heap[k]? = w.heap[k]?
section
variable {r : Option Nat} {w W W' : World}
theorem KeptR.refl (r : Option Nat) (w : World) : KeptR r w w := ⟨Nat.le_refl _, fun _ _ _ => rfl⟩
theorem KeptR.drew (h : KeptR r w W) : KeptR r w W.drew := h
theorem KeptR.drewN (h : KeptR r w W) (n : Nat) : KeptR r w (W.drewN n) := h
theorem KeptR.call (h : KeptR r w W) (hb : Below W.heap.size W W') : KeptR r w W' := ⟨Nat.le_trans h.1 hb.size, fun k h1 h2 => (hb.block k (Nat.lt_of_lt_of_le h1 h.1)).trans (h.2 k h1 h2)⟩
theorem KeptR.alloc (h : KeptR r w W) (o : Obj) : KeptR r w (W.alloc o) := h.call ((Below.refl _ _).alloc (Nat.le_refl _) o)
theorem KeptR.grown (h : KeptR r w W) (hg : W.grownBy W' r) : KeptR r w W' := ⟨Nat.le_trans h.1 hg.size, fun k h1 h2 => (hg.block k (Nat.lt_of_lt_of_le h1 h.1) h2).trans (h.2 k h1 h2)⟩
theorem KeptR.cell (h : KeptR r w W) {p : Addr} (hp : p.block < w.heap.size) (hg : some p.block ≠ r) : W.cell? p = w.cell? p := World.cell?_of_block (w := w) (h.2 p.block hp hg)
theorem KeptR.below (h : KeptR r w W) {B : Nat} (h0 : W.os = w.os ∧ W.tape = w.tape ∧ W.output = w.output) (hB : B ≤ w.heap.size) (hr : ∀ k, r = some k → B ≤ k) : Below B w W :=
  ⟨h0.1, h0.2.1, h0.2.2, h.1, fun k hk => h.2 k (by omega) (fun e => by have := hr k e.symm; omega)⟩
end
end Go.Proofs.YtflmjdjkfognjaaGreat
