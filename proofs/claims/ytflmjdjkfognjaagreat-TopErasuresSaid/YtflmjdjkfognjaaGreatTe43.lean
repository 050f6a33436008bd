/- Parts: XGi XWpe -/
import Derived.Test.YtflmjdjkfognjaaGreatTe34
import Derived.Test.YtflmjdjkfognjaaGreatTe29
import Derived.Outline
import Derived.Test.YtflmjdjkfognjaaGreatTe41
import Derived.Test.YtflmjdjkfognjaaGreatTe19
import Derived.Test.YtflmjdjkfognjaaGreatTe28
import Derived.Test.YtflmjdjkfognjaaGreatTe40
namespace Go.Proofs.YtflmjdjkfognjaaGreat.D12
open Go.ChangeShapes Go.WideShapes Go.RowKit Go.Deep Go.Joins C9
open W8 (is)
set_option linter.unusedVariables false
def CameI1 (w : World) (v : Value) (l : List Int) : Prop := RdS w 1 v l.length (fun i => [.int .i64 (ixI l i)]) ∧ l.length ≤ 9223372036854775807 ∧ ∀ i, i < l.length → In64 (ixI l i)
theorem CameI1.rd {w : World} {v : Value} {l : List Int} (h : CameI1 w v l) (hl : l.length ≤ 17592186044416) : RdI w v l := by
  obtain ⟨⟨a, c, b, off, hv, hc, hcell⟩, _, hw⟩ := h
  refine ⟨hl, ⟨a, c, b, off, hv, hc, fun i hi => ⟨(hcell i hi).1, ?_⟩⟩, hw⟩
  have := (hcell i hi).2 0 _ rfl
  rwa [Nat.mul_one, Nat.add_zero] at this
theorem CameI1.keep {w w' : World} {v : Value} {l : List Int} (h : CameI1 w v l) (hb : Below w.heap.size w w') : CameI1 w' v l := ⟨h.1.keep hb, h.2⟩
def CameCh (w : World) (v : Value) (l : List (Int × Int)) : Prop := RdCh w v l ∧ l.length ≤ 9223372036854775807 ∧ ∀ i, i < l.length → In64 (chA l i).1 ∧ In64 (chA l i).2
theorem CameCh.keep {w w' : World} {v : Value} {l : List (Int × Int)} (h : CameCh w v l) (hb : Below w.heap.size w w') : CameCh w' v l := ⟨RdD.keep h.1 hb, h.2⟩
structure CameD (w : World) (vE vC : Value) (d : Dam) : Prop where
  er : CameI1 w vE d.er
  ch : CameCh w vC d.ch
  lba : In64 d.lba
theorem CameD.keep {w w' : World} {vE vC : Value} {d : Dam} (h : CameD w vE vC d) (hb : Below w.heap.size w w') : CameD w' vE vC d := ⟨h.er.keep hb, h.ch.keep hb, h.lba⟩
theorem CameD.dam {w : World} {vE vC : Value} {d : Dam} (h : CameD w vE vC d) (h1 : d.er.length ≤ 200) (h2 : d.ch.length ≤ 200) : DamV w vE vC d := ⟨h.er.rd (by omega), h.ch.1, h.lba, by omega, h.ch.2.2⟩
structure DV where
  d : Dam
  vE : Value
  vC : Value
structure AV where
  a : AC
  vs : Value
  vE : Value
  vC : Value
def avz : AV := ⟨⟨0, 0, 0, false, [], ⟨0, [], []⟩⟩, .slice none 0 0, .slice none 0 0, .slice none 0 0⟩
def avD (x : AV) : List Value := [.int .i64 x.a.kind, .int .i64 x.a.at_, .int .i64 x.a.byte, .bool x.a.short, x.vs, .int .i64 x.a.dam.lba, x.vE, x.vC]
structure CameAV (w : World) (x : AV) : Prop where
  k : In64 x.a.kind
  a : In64 x.a.at_
  b : In64 x.a.byte
  s : CameSc w x.vs x.a.scr
  d : CameD w x.vE x.vC x.a.dam
theorem CameAV.keep {w w' : World} {x : AV} (h : CameAV w x) (hb : Below w.heap.size w w') : CameAV w' x := ⟨h.k, h.a, h.b, h.s.keep hb, h.d.keep hb⟩
def CameActs (w : World) (v : Value) (l : List AV) : Prop := RdD avz avD 8 w v l ∧ l.length ≤ 9223372036854775807 ∧ ∀ i, i < l.length → CameAV w (atD avz l i)
theorem CameActs.keep {w w' : World} {v : Value} {l : List AV} (h : CameActs w v l) (hb : Below w.heap.size w w') : CameActs w' v l := ⟨RdD.keep h.1 hb, h.2.1, fun i hi => (h.2.2 i hi).keep hb⟩
section
variable {H : Type} {enc : TypeId × Value → H} {w : World} {base b0 : Nat} {sp : Nat → Bool} {held : Bool}
theorem Tryz.cells12i : Tryz.prog.cellsOf 3 = 1 := by kernel_rfl
theorem Tryz.cells12n : Tryz.prog.cellsOf 53 = 1 := by kernel_rfl
theorem Tryz.cells12h : Tryz.prog.cellsOf 54 = 1 := by kernel_rfl
theorem Tryz.cells12c : Tryz.prog.cellsOf 221 = 2 := by kernel_rfl
theorem Tryz.cells12d : Tryz.prog.cellsOf 56 = 3 := by kernel_rfl
set_option maxRecDepth 100000 in
theorem chg_cells (n : Nat) (cs : List Value) (x : DataW H × List MemPlace) (h : DataW.trod enc Tryz.prog w base sp held n 221 cs = some x) : ∃ t : Int × Int, cs = chc t ∧ In64 t.1 ∧ In64 t.2 := by
  obtain ⟨ys, n', _, _, hlen, hyl, hf⟩ := DataW.trod_struct Tryz.underlying221 h
  rw [Tryz.cells12c] at hlen
  match cs, hlen with
  | [c0, c1], _ =>
    have g0 : DataW.trod enc Tryz.prog w base sp held n' 3 (([c0, c1].drop 0).take (Tryz.prog.cellsOf 3)) = ys[0]? := hf 0 _ rfl
    have g1 : DataW.trod enc Tryz.prog w base sp held n' 3 (([c0, c1].drop 1).take (Tryz.prog.cellsOf 3)) = ys[1]? := hf 1 _ rfl
    rw [Tryz.cells12i] at g0 g1
    simp only [List.drop, List.take] at g0 g1
    obtain ⟨a0, e0, w0⟩ := leaf_int Tryz.underlying3 g0 (some_at hyl (by decide))
    obtain ⟨a1, e1, w1⟩ := leaf_int Tryz.underlying3 g1 (some_at hyl (by decide))
    simp only [List.cons.injEq, and_true] at e0 e1
    subst e0 e1
    exact ⟨(a0, a1), rfl, w0, w1⟩
theorem leafI {n : Nat} {v : Value} {x : DataW H × List MemPlace} (hd : DataW.trod enc Tryz.prog w base sp held n 53 [v] = some x) : ∃ l, CameI1 w v l := by
  obtain ⟨l, h1, h2, h3⟩ := open_rdS (0 : Int) (fun x => [.int .i64 x]) In64 Tryz.underlying53 Tryz.cells12i (by omega) (fun n cs x h => leaf_int Tryz.underlying3 h (by simp)) hd
  have e : ∀ i, (l[i]?).getD 0 = ixI l i := fun i => by unfold ixI; rw [List.getD_eq_getElem?_getD]
  simp only [e] at h1 h3
  exact ⟨l, h1, h2, h3⟩
theorem leafCh {n : Nat} {v : Value} {x : DataW H × List MemPlace} (hd : DataW.trod enc Tryz.prog w base sp held n 54 [v] = some x) : ∃ l, CameCh w v l := by
  obtain ⟨l, h1, h2, h3⟩ := open_rdS ((0, 0) : Int × Int) chc (fun t => In64 t.1 ∧ In64 t.2) Tryz.underlying54 Tryz.cells12c (by omega) (fun n cs x h => chg_cells n cs x h) hd
  exact ⟨l, h1, h2, h3⟩
theorem some_of {α : Type} {x : Option α} (h : x ≠ none) : ∃ y, x = some y := by cases x with
  | none => exact absurd rfl h
  | some y => exact ⟨y, rfl⟩
set_option maxRecDepth 100000 in
theorem dam_cells (n : Nat) (cs : List Value) (x : DataW H × List MemPlace) (h : DataW.trod enc Tryz.prog w base sp held n 56 cs = some x) : ∃ t : DV, cs = [.int .i64 t.d.lba, t.vE, t.vC] ∧ CameD w t.vE t.vC t.d := by
  obtain ⟨ys, n', _, _, hlen, hyl, hf⟩ := DataW.trod_struct Tryz.underlying56 h
  rw [Tryz.cells12d] at hlen
  match cs, hlen with
  | [c0, c1, c2], _ =>
    have g0 : DataW.trod enc Tryz.prog w base sp held n' 3 (([c0, c1, c2].drop 0).take (Tryz.prog.cellsOf 3)) = ys[0]? := hf 0 _ rfl
    have g1 : DataW.trod enc Tryz.prog w base sp held n' 53 (([c0, c1, c2].drop 1).take (Tryz.prog.cellsOf 53)) = ys[1]? := hf 1 _ rfl
    have g2 : DataW.trod enc Tryz.prog w base sp held n' 54 (([c0, c1, c2].drop 2).take (Tryz.prog.cellsOf 54)) = ys[2]? := hf 2 _ rfl
    rw [Tryz.cells12i] at g0
    rw [Tryz.cells12n] at g1
    rw [Tryz.cells12h] at g2
    simp only [List.drop, List.take] at g0 g1 g2
    obtain ⟨a0, e0, w0⟩ := leaf_int Tryz.underlying3 g0 (some_at hyl (by decide))
    obtain ⟨y1, hy1⟩ := some_of (some_at hyl (i := 1) (by decide))
    obtain ⟨y2, hy2⟩ := some_of (some_at hyl (i := 2) (by decide))
    rw [hy1] at g1
    rw [hy2] at g2
    obtain ⟨l1, w1⟩ := leafI g1
    obtain ⟨l2, w2⟩ := leafCh g2
    simp only [List.cons.injEq, and_true] at e0
    subst e0
    exact ⟨⟨⟨a0, l1, l2⟩, c1, c2⟩, rfl, w1, w2, w0⟩
end
end Go.Proofs.YtflmjdjkfognjaaGreat.D12
namespace Go.Proofs.YtflmjdjkfognjaaGreat.W8
open Go.RowKit Go.Shelf
set_option linter.unusedVariables false
attribute [local go_sem] Oper.semAt_some
def Mk (B B1 : Nat) (w : World) (ds : List Deferred) : Prop := ∃ Ds : List Nat, ds = Ds.map (fun D => { target := .collected D, args := #[] }) ∧ Ds.Nodup ∧ ∀ D ∈ Ds, B ≤ D ∧ D < B1 ∧ w.heap[D]? = some (.deferred (some []))
def PeelP (m : Int) (l : List Int) (w : World) (e : Ending) (w' : World) : Prop :=
  ((¬ (fstB m = true ∧ ersB (fstI m) l = true) ∧ e = .returned (.tuple #[.slice none 0 0, .int .i64 1])) ∨
   ((fstB m = true ∧ ersB (fstI m) l = true) ∧ ∃ (v : Value) (i : Nat), e = .returned (.tuple #[v, .int .i64 0]) ∧ RdI w' v (keepL (itP l i) l) ∧ FixP (itP l i))) ∧ Below w.heap.size w w'
theorem cell_cells {w : World} {b o : Nat} {v : Value} (h : w.cell? ⟨b, o, none⟩ = some v) {x : Option (List Deferred)} (hk : w.heap[b]? = some (.deferred x)) : False := by
  simp [World.cell?, hk] at h
theorem rdI_put {W : World} {v : Value} {l : List Int} {D : Nat} {x : Option (List Deferred)} (h : RdI W v l) (hk : W.heap[D]? = some (.deferred x)) (o : Obj) : RdI (W.putObj D o) v l := by
  obtain ⟨h0, ⟨a, cap, b, off, e, hc, hcell⟩, hr⟩ := h
  refine ⟨h0, ⟨a, cap, b, off, e, hc, fun i hi => ⟨(hcell i hi).1, ?_⟩⟩, hr⟩
  have h2 := (hcell i hi).2
  have hne : b ≠ D := fun e => by subst e; exact cell_cells h2 hk
  exact (World.cell?_of_block (World.putObj_heap_other hne)).trans h2
theorem leaves_marks {F : Fence} {n : Nat} {P : Program} {fn : Func} {tmps : Array Value} {R : Ending → World → Prop} {v : Value} {l : List Int} {n0 : Nat} {w0 : World} (hn : n0 ≤ w0.heap.size)
    (hend : ∀ W, RdI W v l → Below n0 w0 W → LeavesInM F n P fn tmps R [] .returning W) : ∀ (Ds : List Nat) (W : World), Ds.Nodup → (∀ D ∈ Ds, n0 ≤ D ∧ W.heap[D]? = some (.deferred (some []))) → RdI W v l → Below n0 w0 W →
    LeavesInM F n P fn tmps R (Ds.map fun D => { target := .collected D, args := #[] }) .returning W
  | [], W, _, _, hv, hb => hend W hv hb
  | D :: Ds, W, hnd, hD, hv, hb => by
    obtain ⟨h1, hK⟩ := hD D (List.mem_cons_self ..)
    have hn2 := List.nodup_cons.1 hnd
    refine ⟨by simp, .inl ⟨D, _, rfl, run_takeDeferred hK, ?_⟩⟩
    refine leaves_marks hn hend Ds _ hn2.2 (fun D' hD' => ?_) (rdI_put hv hK _) ((stays_below hn (Nat.le_refl _)).putObj (.deferred none) hb h1 hK rfl)
    obtain ⟨h3, h4⟩ := hD D' (List.mem_cons_of_mem _ hD')
    exact ⟨h3, (World.putObj_heap_other (fun e => hn2.1 (by rw [← e]; exact hD'))).trans h4⟩
structure PeS (W : World) (b8 b9 mb n0 B0 B1 : Nat) (S : List Int) (c : Bool) (ds : List Deferred) (w : World) : Prop where
  x8 : Bx W b8 52 [.map (some mb)]
  x9 : Bx W b9 4 [.bool c]
  ms : MS W mb n0 S
  mks : Mk (b8 + 1) B1 W ds
  bl : Below B0 w W
theorem Mk.kept {B B1 B2 : Nat} {W W' : World} {ds : List Deferred} (h : Mk B B1 W ds) (hk : ∀ D, B ≤ D → D < B1 → W.heap[D]? = some (.deferred (some [])) → W'.heap[D]? = W.heap[D]?) (hB : B1 ≤ B2) : Mk B B2 W' ds := by
  obtain ⟨Ds, h1, h2, h3⟩ := h
  refine ⟨Ds, h1, h2, fun D hD => ?_⟩
  obtain ⟨h4, h5, h6⟩ := h3 D hD
  exact ⟨h4, by omega, (hk D h4 h5 h6).trans h6⟩
theorem bx_ne {W : World} {b t D : Nat} {cs : List Value} {x : Option (List Deferred)} (h : Bx W b t cs) (hk : W.heap[D]? = some (.deferred x)) : b ≠ D := fun e => by
  subst e
  have h2 : W.heap[b]? = _ := h
  rw [hk] at h2
  cases h2
section
variable {W W' : World} {b8 b9 mb n0 B0 B1 : Nat} {S : List Int} {c : Bool} {ds : List Deferred} {w : World}
theorem PeS.call (h : PeS W b8 b9 mb n0 B0 B1 S c ds w) (hb : Below W.heap.size W W') (hB : B0 ≤ W.heap.size) : PeS W' b8 b9 mb n0 B0 B1 S c ds w :=
  ⟨h.x8.call hb, h.x9.call hb, h.ms.below hb, h.mks.kept (fun D _ _ hk => hb.block D (Array.getElem?_eq_some_iff.1 hk).1) (Nat.le_refl _), h.bl.trans (hb.mono hB)⟩
theorem PeS.rel {S' : List Int} (h : PeS W b8 b9 mb n0 B0 B1 S c ds w) (hm : MS W' mb n0 S') (hg : W.grownBy W' (some mb)) (h1 : mb < b8) (h2 : b8 < b9) (h3 : B0 ≤ mb) (hB : B0 ≤ W.heap.size) : PeS W' b8 b9 mb n0 B0 B1 S' c ds w :=
  ⟨(hg.block _ h.x8.lt (fun e => by have := Option.some.inj e; omega)).trans h.x8, (hg.block _ h.x9.lt (fun e => by have := Option.some.inj e; omega)).trans h.x9, hm,
    h.mks.kept (fun D hD _ hk => hg.block D (Array.getElem?_eq_some_iff.1 hk).1 (fun e => by have := Option.some.inj e; omega)) (Nat.le_refl _), h.bl.grown hg hB (fun j e => by have := Option.some.inj e; omega)⟩
theorem PeS.flag (h : PeS W b8 b9 mb n0 B0 B1 S c ds w) (c' : Bool) (h1 : mb < b8) (h2 : b8 < b9) (h3 : B0 ≤ mb) : PeS (W.setCell ⟨b9, 0, none⟩ (.bool c')) b8 b9 mb n0 B0 B1 S c' ds w :=
  ⟨h.x8.far (p := ⟨b9, 0, none⟩) (show b9 ≠ b8 by omega) _, h.x9.set 0 (.bool c'), h.ms.kept (Below.heap_setCell W ⟨b9, 0, none⟩ _ mb (show mb ≠ b9 by omega)),
    h.mks.kept (fun D _ _ hk => Below.heap_setCell W ⟨b9, 0, none⟩ _ D (fun e => bx_ne h.x9 hk e.symm)) (Nat.le_refl _), h.bl.setCell (p := ⟨b9, 0, none⟩) (show B0 ≤ b9 by omega) _⟩
theorem PeS.wide {B2 : Nat} (h : PeS W b8 b9 mb n0 B0 B1 S c ds w) (hB : B1 ≤ B2) : PeS W b8 b9 mb n0 B0 B2 S c ds w := ⟨h.x8, h.x9, h.ms, h.mks.kept (fun _ _ _ _ => rfl) hB, h.bl⟩
theorem PeS.stays {B : Nat} (hB0 : B0 ≤ w.heap.size) (hB : B0 ≤ B) (h1 : B1 ≤ B) (h2 : mb < B) : Stays B fun W => PeS W b8 b9 mb n0 B0 B1 S c ds w := fun _ W W' row h hg hr =>
  ⟨(stays_bx B _ _ _).grown h.x8 hg hr, (stays_bx B _ _ _).grown h.x9 hg hr, (stays_ms h2 S).grown h.ms hg hr,
    h.mks.kept (fun D _ hD hk => hg.block D (Array.getElem?_eq_some_iff.1 hk).1 (fun e => by have := (hr D e.symm).1; omega)) (Nat.le_refl _), (stays_below hB0 hB).grown h.bl hg hr⟩
end
def flagAt (W : World) (v : Value) : Nat := match v with
  | .pointer (some p) => match W.cell? p with
    | some (.bool true) => 1
    | _ => 0
  | _ => 0
theorem delfunc_nil (a : Option Addr) (cap b8 mb n0 : Nat) (S : List Int) (w : World) (h : PB w b8 mb n0 S) :
    Calls Tryz.prog 16 #[.slice a 0 cap, .func (.func 64) #[] #[.pointer (some ⟨b8, 0, none⟩)]] w fun e w' => e = .returned (.slice a 0 cap) ∧ w = w' := by
  have hrd : RdI w (.slice a 0 cap) [] := ⟨by simp, ⟨a, cap, 0, 0, rfl, by simp, fun i hi => by simp at hi⟩, fun i hi => by simp at hi⟩
  have HI := Lib.hid (indexf_any _ [] b8 mb n0 S w hrd h)
  clear hrd h
  go_enter Tryz.func16, Tryz.ntmps16
  go_wp2_with fail
  refine HI.out.mono ?_
  rintro e w' ⟨r, rfl, (⟨rfl, hall⟩ | ⟨k, rfl, hk, hbefore, hno⟩), rfl⟩
  · clear hall
    go_wp2_with fail
    go_ret
    exact ⟨rfl, rfl⟩
  · simp at hk
theorem clone8_any (v : Value) (l : List Int) (w : World) (hv : RdI w v l) (hl : l.length ≤ 100000) :
    Calls Tryz.prog 17 #[v] w fun e w' => (∃ v', e = .returned v' ∧ ((l = [] ∧ ∃ a c, v' = .slice a 0 c) ∨ ∃ g c, v' = .slice (some ⟨g, 0, none⟩) l.length c ∧ RowI w' 3 g c l ∧ w.heap.size ≤ g)) ∧ Below w.heap.size w w' := by
  obtain ⟨h0, ⟨a, cap, b, off, rfl, hcap, hcell⟩, hrng⟩ := hv
  by_cases hn : l = []
  · subst hn
    cases a with
    | none =>
      refine (Tryz.slices_Clone_int_nil _ cap w).mono ?_
      rintro e w' ⟨rfl, rfl⟩
      exact ⟨⟨_, rfl, .inl ⟨rfl, _, _, rfl⟩⟩, Below.refl _ _⟩
    | some a =>
      refine (Tryz.slices_Clone_int_zero a cap w).mono ?_
      rintro e w' ⟨v', rfl, ho, _, hb⟩
      obtain ⟨a6, c6, rfl⟩ := ownD_form ho
      exact ⟨⟨_, rfl, .inl ⟨rfl, _, _, rfl⟩⟩, hb⟩
  · have hpos : 0 < l.length := by
      rcases l with _ | ⟨x, r⟩
      · exact absurd rfl hn
      · simp
    obtain ⟨rfl, _⟩ := hcell 0 hpos
    refine (Tryz.slices_Clone_int b off l.length cap l w (Nat.le_refl _) (by omega) (fun j hj => (hcell j hj).2)).mono ?_
    rintro e w' ⟨v', rfl, ho, _, hb⟩
    have ho2 : w'.ownsRow w.heap.size 3 1 v' l.length (is l) := by
      have e : (l.take l.length).map (Value.int .i64) = is l := by rw [List.take_length]; rfl
      rw [← e]; exact ho
    obtain ⟨g, c, rfl, _⟩ := own_int0 ho2 hpos
    obtain ⟨h1, _, h2⟩ := RowI.of_own ho2
    exact ⟨⟨_, rfl, .inr ⟨g, c, rfl, h1, h2⟩⟩, hb⟩
theorem flag_bx {W : World} {b : Nat} {c : Bool} (h : Bx W b 4 [.bool c]) : flagAt W (.pointer (some ⟨b, 0, none⟩)) = if c = true then 1 else 0 := by
  unfold flagAt
  dsimp only
  rw [h.cell (i := 0) rfl]
  cases c <;> rfl
set_option maxRecDepth 100000 in
set_option maxHeartbeats 8000000 in
theorem peel_ok (m : Int) (ev : Value) (l : List Int) (w : World) (hv : RdI w ev l) (hl : l.length ≤ 100000) (hm : fstB m = true) :
    Calls Tryz.prog 19 #[.int .i64 m, ev] w (PeelP m l w) := by
  have HF := Lib.hid (fun W => first_any m W)
  rw [hm] at HF
  have HSet := Lib.hid (fun W (hb : Below w.heap.size w W) => set_any (fstI m) ev l W (hv.keep hb) hl)
  have HV := Lib.hid hv
  obtain ⟨hw0, ⟨ea, ec, eb, eo, rfl, hec, hecell⟩, hwr⟩ := hv
  have HM := Lib.hid hm
  unfold PeelP
  generalize fstI m = f at *
  clear hm hecell hwr
  refine (callsIn_wide (n := 5)).1 ?_
  refine callsIn_of_wp_marks Tryz.func19 rfl trivial ?_ rfl
  simp only [Tryz.ntmps19, List.size_toArray, List.length_cons, List.length_nil, Nat.reduceAdd, Nat.reduceSub, Array.replicate_succ, Array.replicate_zero, List.push_toArray, List.append_toArray, List.nil_append, List.cons_append]
  gi_wp2_with (first | (refine ⟨trivial, ?_⟩; gi_at_call 59; refine (callsIn_wide.2 (HF.out _)).mono ?_; rintro e w' ⟨rfl, rfl⟩))
  refine ⟨trivial, ?_⟩
  refine (callsIn_wide.2 (HSet.out _ (Below.refl _ _))).mono ?_
  rintro e w1 (⟨he, rfl, hb1⟩ | ⟨he, rfl, hms, hb1⟩)
  · have HE := Lib.hid he
    clear he
    gi_wp2
    refine ⟨_, results_tmp2 rfl _ _ _, ?_⟩
    exact ⟨.inl ⟨fun h => (by rw [HE.out] at h; cases h.2), rfl⟩, hb1.alloc hb1.size _⟩
  · have HE := Lib.hid he
    obtain ⟨mb, hmb⟩ : ∃ mb, mb = w.heap.size := ⟨_, rfl⟩
    rw [← hmb] at hms
    rw [← hmb]
    have HMB := Lib.hid hmb
    have hmlt := hms.lt
    have hHM := Lib.hid hms
    clear he hmb hms
    gi_wp2
    obtain ⟨b8, hb8⟩ : ∃ b8, b8 = w1.heap.size := ⟨_, rfl⟩
    have X8 := (Bx.new w1 52 [.map (some mb)]).alloc (.cells #[.bool true] 4)
    have X9 := Bx.new (w1.alloc (.cells #[.map (some mb)] 52)) 4 [.bool true]
    rw [World.size_alloc] at X9
    have hbb : Below w1.heap.size w1 ((w1.alloc (.cells #[.map (some mb)] 52)).alloc (.cells #[.bool true] 4)) := ((Below.refl _ w1).alloc (Nat.le_refl _) _).alloc (by simp) _
    have hms0 := hHM.out.below hbb
    have hb0 := hb1.trans (hbb.mono hb1.size)
    rw [← hb8] at X8 X9 ⊢
    have HB8 := Lib.hid hb8
    have hP0 : PeS ((w1.alloc (.cells #[.map (some mb)] 52)).alloc (.cells #[.bool true] 4)) b8 (b8 + 1) mb l.length w.heap.size 0 (itP l 0) true [] w := ⟨X8, X9, hms0, ⟨[], rfl, List.nodup_nil, fun D hD => by cases hD⟩, hb0⟩
    have hmb8 : mb < b8 := by rw [HB8.out]; exact hmlt
    have hwb : w.heap.size ≤ mb := by rw [HMB.out]; exact Nat.le_refl _
    clear X8 X9 hms0 hb0 hbb hb1 hb8 hmlt hHM
    refine wpIn_loop (fun a W => ∃ (i : Nat) (c : Bool) (b9 : Nat) (u27 u28 u43 : Value) (ds : List Deferred), a = { tmps := List.toArray (.int .i64 m :: .slice ea l.length ec :: undef :: undef :: .slice none 0 0 :: .int .i64 0 :: .int .i64 f :: .bool true :: .pointer (some ⟨b8, 0, none⟩) :: .pointer (some ⟨b9, 0, none⟩) :: undef :: undef :: .tuple #[.int .i64 f, .bool true] :: .int .i64 m :: .tuple #[.int .i64 f, .bool true] :: .int .i64 f :: .bool true :: .bool true :: .bool false :: .tuple #[.map (some mb), .bool true] :: .int .i64 f :: .slice ea l.length ec :: .tuple #[.map (some mb), .bool true] :: .map (some mb) :: .bool true :: .bool true :: .bool false :: u27 :: u28 :: undef :: undef :: undef :: undef :: undef :: undef :: undef :: undef :: undef :: undef :: undef :: undef :: undef :: undef :: u43 :: undef :: undef :: undef :: undef :: []), defers := ds } ∧ PeS W b8 b9 mb l.length w.heap.size W.heap.size (itP l i) c ds w ∧ b8 < b9 ∧ (c = false → FixP (itP l i)))
      (fun a W => 2 * mlen W mb + flagAt W (a.tmps.getD 9 undef)) ⟨0, true, b8 + 1, undef, undef, undef, [], rfl, hP0.wide (Nat.zero_le _), by omega, fun h => by cases h⟩ ?_
    rintro a W ⟨i, c, b9, u27, u28, u43, ds, rfl, hP, hb9, hfix⟩
    clear hP0
    cases c with
    | false =>
      have HFix := Lib.hid (hfix rfl)
      have HPS := Lib.hid hP
      have q9 := hP.x9.cell (i := 0) rfl
      clear hP hfix
      have HCl := Lib.hid (clone8_any (.slice ea l.length ec) l W (HV.out.keep (HPS.out.bl)) hl)
      have hwW : w.heap.size ≤ W.heap.size := HPS.out.bl.size
      gi_wp2_with (first | (refine ⟨trivial, ?_⟩; gi_at_call 17; refine (callsIn_wide.2 HCl.out).mono ?_; rintro e W2 ⟨⟨v2, rfl, hv2⟩, hb2⟩))
      have HJ2 := Lib.hid (HPS.out.call hb2 hwW)
      have hend : ∀ (v : Value) (W3 : World), RdI W3 v (keepL (itP l i) l) → Below w.heap.size w W3 → (((¬ (fstB m = true ∧ ersB f l = true) ∧ Ending.returned (.tuple #[v, .int .i64 0]) = .returned (.tuple #[.slice none 0 0, .int .i64 1])) ∨
   ((fstB m = true ∧ ersB f l = true) ∧ ∃ (v2 : Value) (i : Nat), Ending.returned (.tuple #[v, .int .i64 0]) = .returned (.tuple #[v2, .int .i64 0]) ∧ RdI W3 v2 (keepL (itP l i) l) ∧ FixP (itP l i))) ∧ Below w.heap.size w W3) := fun v W3 h1 h2 => ⟨.inr ⟨⟨HM.out, HE.out⟩, v, i, rfl, h1, HFix.out⟩, h2⟩
      have HEnd := Lib.hid hend
      clear hend hb2
      have hbl := HPS.out.x8.lt
      have hml := HPS.out.ms.lt
      have hw2 : w.heap.size ≤ W2.heap.size := HJ2.out.bl.size
      have hbd : ∀ x ∈ l, -9223372036854775808 ≤ x ∧ x ≤ 9223372036854775807 := fun x hx => by
        obtain ⟨t, ht, rfl⟩ := List.getElem_of_mem hx
        rw [← ixI_get ht]
        exact HV.out.2.2 t ht
      have HBd := Lib.hid hbd
      obtain ⟨Ds, rfl, hnd, hD⟩ := HJ2.out.mks
      have HD := Lib.hid hD
      have HND := Lib.hid hnd
      clear hbd hD hnd
      rcases hv2 with ⟨hl0, a2, c2, rfl⟩ | ⟨g, c2, rfl, hr2, hg2⟩
      · have HL0 := Lib.hid hl0
        clear hl0
        refine ⟨trivial, ?_⟩
        refine (callsIn_wide.2 (delfunc_nil a2 c2 b8 mb l.length (itP l i) W2 ⟨HJ2.out.x8, HJ2.out.ms⟩)).mono ?_
        rintro e W3 ⟨rfl, rfl⟩
        gi_wp2
        refine leaves_marks (v := .slice a2 0 c2) (l := keepL (itP l i) l) (Nat.le_refl _) (fun W' h1 h2 => ⟨_, results_tmp2 rfl _ _ _, HEnd.out _ _ h1 h2⟩) Ds W2 HND.out (fun D hD => ⟨by have := (HD.out D hD).1; omega, (HD.out D hD).2.2⟩) ?_ HJ2.out.bl
        have e : keepL (itP l i) l = [] := by rw [HL0.out]; rfl
        rw [e]
        exact ⟨by simp, ⟨a2, c2, 0, 0, rfl, by simp, fun i hi => by simp at hi⟩, fun i hi => by simp at hi⟩
      · refine ⟨trivial, ?_⟩
        refine (callsIn_wide.2 (delfunc_any g c2 l.length b8 mb l.length (itP l i) l W2 hr2 rfl hl HBd.out ⟨HJ2.out.x8, HJ2.out.ms⟩ (by omega) (by omega))).mono ?_
        rintro e W3 ⟨v3, rfl, hv3, hg3⟩
        have HV3 := Lib.hid hv3; have HG3 := Lib.hid hg3
        clear hv3 hg3 hr2
        gi_wp2
        refine leaves_marks (v := v3) (l := keepL (itP l i) l) (Nat.le_refl _) (fun W' h1 h2 => ⟨_, results_tmp2 rfl _ _ _, HEnd.out _ _ h1 h2⟩) Ds W3 HND.out (fun D hD => ?_) HV3.out (HJ2.out.bl.grown HG3.out hw2 (fun j e => by have := Option.some.inj e; omega))
        obtain ⟨d1, d2, d3⟩ := HD.out D hD
        exact ⟨by omega, (HG3.out.block D (Array.getElem?_eq_some_iff.1 d3).1 (fun e => by have := Option.some.inj e; omega)).trans d3⟩
    | true =>
      clear hfix
      have HPS := Lib.hid hP
      have q9 := hP.x9.cell (i := 0) rfl
      have f9 := hP.x9.free 0
      clear hP
      gi_wp2_with (first | (refine ⟨trivial, ?_⟩; gi_at_call 61; refine (words_in 4 _).mono ?_; rintro e w' ⟨rfl, rfl⟩))
      have hP1 := HPS.out.flag false hmb8 hb9 hwb
      have hz1 : (W.setCell ⟨b9, 0, none⟩ (.bool false)).heap.size = W.heap.size := by simp
      have hml : mb < W.heap.size := HPS.out.ms.lt
      have hwW : w.heap.size ≤ W.heap.size := HPS.out.bl.size
      obtain ⟨W0, hW0⟩ : ∃ W0, W0 = W.setCell ⟨b9, 0, none⟩ (.bool false) := ⟨_, rfl⟩
      rw [← hW0] at hP1 hz1 ⊢
      have hseq := words_gives 4 (by omega) W0
      clear hW0 q9 f9
      generalize hS : itP l i = S at *
      refine wpIn_range_gives1 (n := 5) rfl (by omega) (gf := 122) (lb := #[]) rfl trivial (enters_of Tryz.func122 (by kernel_rfl) rfl) hseq rfl
        (fun k W' => PeS W' b8 b9 mb l.length w.heap.size W.heap.size (pkN S k) (agN S k) ds w)
        (fun _ _ => False)
        (fun v => { tmps := List.toArray (.int .i64 m :: .slice ea l.length ec :: undef :: undef :: .slice none 0 0 :: .int .i64 0 :: .int .i64 f :: .bool true :: .pointer (some ⟨b8, 0, none⟩) :: .pointer (some ⟨b9, 0, none⟩) :: v :: undef :: .tuple #[.int .i64 f, .bool true] :: .int .i64 m :: .tuple #[.int .i64 f, .bool true] :: .int .i64 f :: .bool true :: .bool true :: .bool false :: .tuple #[.map (some mb), .bool true] :: .int .i64 f :: .slice ea l.length ec :: .tuple #[.map (some mb), .bool true] :: .map (some mb) :: .bool true :: .bool true :: .bool false :: .bool true :: .func (.func 122) #[] #[] :: v :: undef :: undef :: undef :: undef :: undef :: undef :: undef :: undef :: undef :: undef :: undef :: undef :: undef :: u43 :: undef :: undef :: undef :: undef :: []), defers := [] })
        (fun k => PeS.stays (Nat.le_refl _) (by omega) (by omega) (by omega))
        (fun c => Stays.const _ _)
        (fun k v => GW.stays _ _ _ _) hP1 ?assign ?body ?done ?stop
      case assign =>
        intro l' v W' K _ hK
        gi_wp2
        exact hK
      case stop =>
        rintro D c W' _ h _
        exact h.elim
      case body =>
        rintro l' k v W1 hk hJ hg
        have hwb := wd_bd hk
        have hwl := wd_length k
        have hlen : (wd k).length ≤ 45 := by rw [hwl]; split <;> omega
        have hri := rdI_own (w := W1) hg rfl (by omega) (fun x hx => by have := hwb x hx; omega)
        have HPo := Lib.hid (positions8_any v (wd k) mb l.length (pkN S k) W1 hri hJ.ms (by omega))
        have HRel : Hid (∀ W2, Below W1.heap.size W1 W2 → Calls Tryz.prog 63 #[v, .map (some mb)] W2 (RelP mb l.length (rel (pkN S k) (wd k)) W2)) := Lib.hid fun W2 h2 =>
          release_any v (wd k) mb l.length (pkN S k) W2 (offI_own (g := mb) (w := W2) (own_keep' hg h2) (by omega) rfl (by omega) (fun x hx => by have := hwb x hx; omega)) (hJ.ms.below h2) (by omega)
        have hpk := pkS_eq (pkN S k) k
        have hpn : pkN S (k + 1) = pkS (pkN S k) k := rfl
        have han : agN S (k + 1) = (agN S k || agS (pkN S k) k) := rfl
        rw [hpk] at hpn
        have hag : agS (pkN S k) k = (decide (1 ≤ (posS (wd k) (pkN S k)).length) && decide ((posS (wd k) (pkN S k)).length ≤ 2)) := rfl
        have hnl : (posS (wd k) (pkN S k)).length ≤ 45 := by have := posN8_len (wd k) (pkN S k) (wd k).length; unfold posS; omega
        generalize posS (wd k) (pkN S k) = ps at *
        generalize hpl : ps.length = n at *
        have HPL := Lib.hid hpl
        have HPN := Lib.hid hpn; have HAN := Lib.hid han; have HAG := Lib.hid hag
        have HJ := Lib.hid hJ
        have q8 := hJ.x8.cell (i := 0) rfl
        have hwW1 : w.heap.size ≤ W1.heap.size := hJ.bl.size
        clear hwb hwl hlen hri hpk hpn han hag hpl hJ hP1 hseq
        by_cases hA : 1 ≤ n ∧ n ≤ 2
        · have hag : agS (pkN S k) k = true := by rw [HAG.out, decide_eq_true hA.1, decide_eq_true hA.2]; rfl
          have HP2 : Hid (pkN S (k + 1) = rel (pkN S k) (wd k) ∧ agN S (k + 1) = true) := Lib.hid ⟨by rw [HPN.out, hag, if_pos rfl], by rw [HAN.out, hag, Bool.or_true]⟩
          obtain ⟨hA1, hA2⟩ := hA
          clear hag HPN HAN HAG
          gi_wp2_with (first | (refine ⟨trivial, ?_⟩; gi_at_call 62; refine (CallsIn.inRound l' (callsIn_wide.2 HPo.out)).mono ?_; rintro e W2 ⟨v2, rfl, ho, hb2⟩; obtain ⟨a6, c6, rfl⟩ := ownD_form ho; clear ho; have HJ2 := Lib.hid (HJ.out.call hb2 hwW1); have q8' := HJ2.out.x8.cell (i := 0) rfl; have hwW2 : w.heap.size ≤ W2.heap.size := HJ2.out.bl.size) | (refine ⟨trivial, ?_⟩; gi_at_call 63; refine (CallsIn.inRound l' (callsIn_wide.2 (HRel.out _ hb2))).mono ?_; rintro e W3 ⟨rfl, hm3, hg3⟩; have HJ3 := Lib.hid (HJ2.out.rel hm3 hg3 hmb8 hb9 hwb hwW2); have q9' := HJ3.out.x9.cell (i := 0) rfl; have f9' := HJ3.out.x9.free 0; have HG3 := Lib.hid hg3; clear hm3 hg3))
          refine ⟨((kf_below hb2).trans (KeepsFrom.of_grownBy HG3.out (fun j e => by have := Option.some.inj e; omega))).trans (kf_set _ _ _ _), ?_⟩
          show PeS _ b8 b9 mb l.length w.heap.size W.heap.size (pkN S (k + 1)) (agN S (k + 1)) ds w
          rw [HP2.out.1, HP2.out.2]
          exact HJ3.out.flag true hmb8 hb9 hwb
        · have hag : agS (pkN S k) k = false := by
            rw [HAG.out, Bool.and_eq_false_iff, decide_eq_false_iff_not, decide_eq_false_iff_not]
            omega
          have HP2 : Hid (pkN S (k + 1) = pkN S k ∧ agN S (k + 1) = agN S k) := Lib.hid ⟨by rw [HPN.out, hag, if_neg (by decide)], by rw [HAN.out, hag, Bool.or_false]⟩
          clear hag HPN HAN HAG
          by_cases hA1 : 1 ≤ n
          · have hA2 : 2 < n := by omega
            clear hA
            gi_wp2_with (first | (refine ⟨trivial, ?_⟩; gi_at_call 62; refine (CallsIn.inRound l' (callsIn_wide.2 HPo.out)).mono ?_; rintro e W2 ⟨v2, rfl, ho, hb2⟩; obtain ⟨a6, c6, rfl⟩ := ownD_form ho; clear ho; have HJ2 := Lib.hid (HJ.out.call hb2 hwW1); have q8' := HJ2.out.x8.cell (i := 0) rfl; have hwW2 : w.heap.size ≤ W2.heap.size := HJ2.out.bl.size))
            refine ⟨kf_below hb2, ?_⟩
            show PeS _ b8 b9 mb l.length w.heap.size W.heap.size (pkN S (k + 1)) (agN S (k + 1)) ds w
            rw [HP2.out.1, HP2.out.2]
            exact HJ2.out
          · have hA2 : n = 0 := by omega
            have HA2 := Lib.hid hA2
            clear hA hA2
            gi_wp2_with (first | (refine ⟨trivial, ?_⟩; gi_at_call 62; refine (CallsIn.inRound l' (callsIn_wide.2 HPo.out)).mono ?_; rintro e W2 ⟨v2, rfl, ho, hb2⟩; obtain ⟨a6, c6, rfl⟩ := ownD_form ho; clear ho; have HJ2 := Lib.hid (HJ.out.call hb2 hwW1); have q8' := HJ2.out.x8.cell (i := 0) rfl; have hwW2 : w.heap.size ≤ W2.heap.size := HJ2.out.bl.size))
            refine ⟨kf_below hb2, ?_⟩
            show PeS _ b8 b9 mb l.length w.heap.size W.heap.size (pkN S (k + 1)) (agN S (k + 1)) ds w
            rw [HP2.out.1, HP2.out.2]
            exact HJ2.out
      case done =>
        rintro D W' hD hJ hK
        clear hP1 hseq
        have hz9 := hJ.x9.lt
        have hDl : D < W'.heap.size := (Array.getElem?_eq_some_iff.1 hK).1
        have q9 := hJ.x9.cell (i := 0) rfl
        have hal := (Below.refl W'.heap.size W').alloc (Nat.le_refl _) (.cells #[.bool (agN S 138)] 4)
        have hwW' : w.heap.size ≤ W'.heap.size := hJ.bl.size
        have hb9l := HPS.out.x9.lt
        have hN : Hid (PeS (W'.alloc (.cells #[.bool (agN S 138)] 4)) b8 W'.heap.size mb l.length w.heap.size (W'.alloc (.cells #[.bool (agN S 138)] 4)).heap.size (pkN S 138) (agN S 138) ({ target := .collected D, args := #[] } :: ds) w ∧ mlen (W'.alloc (.cells #[.bool (agN S 138)] 4)) mb = (pkN S 138).length ∧ flagAt (W'.alloc (.cells #[.bool (agN S 138)] 4)) (.pointer (some ⟨W'.heap.size, 0, none⟩)) = (if agN S 138 = true then 1 else 0) ∧ b8 < W'.heap.size) := Lib.hid (by
          have h2 := hJ.call hal hwW'
          have hX : Bx (W'.alloc (.cells #[.bool (agN S 138)] 4)) W'.heap.size 4 [.bool (agN S 138)] := Bx.new _ _ _
          refine ⟨⟨h2.x8, hX, h2.ms, ?_, h2.bl⟩, h2.ms.mlen, flag_bx hX, by omega⟩
          obtain ⟨Ds, e1, e2, e3⟩ := h2.mks
          refine ⟨D :: Ds, by rw [e1]; rfl, List.nodup_cons.2 ⟨fun hm => by have := (e3 D hm).2.1; omega, e2⟩, fun D' hD' => ?_⟩
          rcases List.mem_cons.1 hD' with e | hm
          · subst e
            exact ⟨by omega, by rw [World.size_alloc]; omega, (hal.block D' hDl).trans hK⟩
          · have := e3 D' hm
            exact ⟨this.1, by rw [World.size_alloc]; omega, this.2.2⟩)
        have hMu : Hid (mlen W mb = S.length ∧ flagAt W (.pointer (some ⟨b9, 0, none⟩)) = 1) := Lib.hid ⟨HPS.out.ms.mlen, flag_bx HPS.out.x9⟩
        have hlt : Hid (agN S 138 = true → (pkN S 138).length < S.length) := Lib.hid (agN_lt 138)
        have hno : Hid (agN S 138 = false → pkN S 138 = S ∧ FixP S) := Lib.hid fun h => ⟨(agN_no 138 h).1, fix_of_no h⟩
        have hit : Hid (itP l (i + 1) = pkN S 138) := Lib.hid (by rw [itP_succ, hS])
        clear hJ hK hal
        generalize agN S 138 = cc at *
        generalize pkN S 138 = S2 at *
        gi_wp2
        refine ⟨⟨i + 1, cc, W'.heap.size, _, _, _, _, rfl, by rw [hit.out]; exact hN.out.1, hN.out.2.2.2, fun h => by rw [hit.out, (hno.out h).1]; exact (hno.out h).2⟩, ?_⟩
        show 2 * mlen (W'.alloc (.cells #[.bool cc] 4)) mb + flagAt (W'.alloc (.cells #[.bool cc] 4)) (.pointer (some ⟨W'.heap.size, 0, none⟩)) < 2 * mlen W mb + flagAt W (.pointer (some ⟨b9, 0, none⟩))
        have m1 := hN.out.2.1; have m2 := hN.out.2.2.1; have m3 := hMu.out.1; have m4 := hMu.out.2; have m5 := hlt.out; have m6 := hno.out
        rw [m1, m2, m3, m4]
        cases cc with
        | true => have := m5 rfl; rw [if_pos rfl]; omega
        | false => rw [(m6 rfl).1, if_neg (by decide)]; omega
set_option maxRecDepth 100000 in
theorem peel_bad (m : Int) (ea : Option Addr) (el ec : Nat) (w : World) (hm : fstB m = false) :
    Calls Tryz.prog 19 #[.int .i64 m, .slice ea el ec] w fun e w' => e = .returned (.tuple #[.slice none 0 0, .int .i64 1]) ∧ w = w' := by
  have HF := Lib.hid (fun W => first_any m W)
  rw [hm] at HF
  clear hm
  refine (callsIn_wide (n := 5)).1 ?_
  refine callsIn_of_wp_marks Tryz.func19 rfl trivial ?_ rfl
  simp only [Tryz.ntmps19, List.size_toArray, List.length_cons, List.length_nil, Nat.reduceAdd, Nat.reduceSub, Array.replicate_succ, Array.replicate_zero, List.push_toArray, List.append_toArray, List.nil_append, List.cons_append]
  gi_wp2_with (first | (refine ⟨trivial, ?_⟩; gi_at_call 59; refine (callsIn_wide.2 (HF.out _)).mono ?_; rintro e w' ⟨rfl, rfl⟩))
  exact ⟨_, results_tmp2 rfl _ _ _, rfl, rfl⟩
theorem peel_any (m : Int) (ev : Value) (l : List Int) (w : World) (hv : RdI w ev l) (hl : l.length ≤ 100000) :
    Calls Tryz.prog 19 #[.int .i64 m, ev] w (PeelP m l w) := by
  cases hm : fstB m with
  | true => exact peel_ok m ev l w hv hl hm
  | false =>
    obtain ⟨_, ⟨a, c, _, _, rfl, _⟩, _⟩ := hv
    refine (peel_bad m a _ c w hm).mono ?_
    rintro e w' ⟨rfl, rfl⟩
    exact ⟨.inl ⟨fun h => (by rw [hm] at h; cases h.1), rfl⟩, Below.refl _ _⟩
end Go.Proofs.YtflmjdjkfognjaaGreat.W8
