/- A call's two boxes (the table and the result); Valid of both, for any table (chapter 14). -/
import Derived.Test.YtiioojlihapdaaaTkI
import Derived.Test.YtiioojlihapdaaaTkC
import Derived.Test.YtiioojlihapdaaaTkD
namespace Go.Proofs.Ytiioojlihapdaaa
open Go.RowKit
set_option linter.unusedVariables false

theorem valid_any (cap cl : Int) (fin : Bool) (sv : Value) (l : List T.Trk) (w : World) (hr : RdK w sv l) (hf : Few l) :
    Calls Try.prog 13 #[.int .i64 cap, tval cl fin sv] w (ValPost cap cl fin l w) := by
  by_cases h : 1 ≤ cap ∧ cap ≤ 449849 ∧ l.length ≤ 99 ∧ 0 ≤ cl ∧ cl ≤ 16 ∧ ¬ (fin = true ∧ cl = 0)
  · obtain ⟨h1, h2, h3, h4, h5, h6⟩ := h
    exact valid_ok cap cl fin sv l w hr hf h1 h2 h3 h4 h5 h6
  · exact valid_bad cap cl fin sv l w hr h (by have := hf.1; omega)
theorem rvalid_any (cap cl : Int) (fin : Bool) (sv : Value) (l : List T.Trk) (w : World) (hr : RdK w sv l) (hf : Few l) :
    Calls Try.prog 14 #[.int .i64 cap, tval cl fin sv] w (ValPost cap cl fin l w) := by
  by_cases h : 1 ≤ cap ∧ cap ≤ 449849 ∧ l.length ≤ 99 ∧ 0 ≤ cl ∧ cl ≤ 16
  · obtain ⟨h1, h2, h3, h4, h5⟩ := h
    exact rvalid_ok cap cl fin sv l w hr hf h1 h2 h3 h4 h5
  · exact rvalid_bad cap cl fin sv l w hr h (by have := hf.1; omega)

/-- block N holds the table, block N + 1 the (zero) result -/
def St (W : World) (N : Nat) (cl : Int) (fin : Bool) (sv : Value) : Prop :=
  W.heap[N]? = some (.cells #[.int .i64 cl, .bool fin, sv] 24 (0, 0)) ∧ W.heap[N + 1]? = some (.cells #[.int .i64 0, .bool false, .slice none 0 0] 24 (0, 0))
/-- the two boxes of a call -/
abbrev box2 (w : World) (cl : Int) (fin : Bool) (sv : Value) : World :=
  (w.alloc (.cells #[.int .i64 cl, .bool fin, sv] 24)).alloc (.cells #[.int .i64 0, .bool false, .slice none 0 0] 24)
section
variable {W W' : World} {N : Nat} {cl : Int} {fin : Bool} {sv : Value}
theorem St.new (w : World) (cl : Int) (fin : Bool) (sv : Value) : St (box2 w cl fin sv) w.heap.size cl fin sv := by
  refine ⟨?_, ?_⟩
  · exact heap_alloc2_old _ _ _
  · exact heap_alloc2_new _ _ _
theorem St.lt (h : St W N cl fin sv) : N + 1 < W.heap.size := (Array.getElem?_eq_some_iff.1 h.2).1
theorem St.keep (h : St W N cl fin sv) {B : Nat} (hb : Below B W W') (hB : N + 1 < B) : St W' N cl fin sv := ⟨(hb.block N (by omega)).trans h.1, (hb.block (N + 1) hB).trans h.2⟩
theorem St.call (h : St W N cl fin sv) (hb : Below W.heap.size W W') : St W' N cl fin sv := h.keep hb h.lt
theorem St.grown (h : St W N cl fin sv) {g : Nat} (hb : W.grownBy W' (some g)) (hg : N + 1 < g) : St W' N cl fin sv :=
  ⟨(hb.block N (by have := h.lt; omega) (fun e => by have := Option.some.inj e; omega)).trans h.1, (hb.block (N + 1) h.lt (fun e => by have := Option.some.inj e; omega)).trans h.2⟩
theorem St.drewN (h : St W N cl fin sv) (n : Nat) : St (W.drewN n) N cl fin sv := h
theorem St.drew (h : St W N cl fin sv) : St W.drew N cl fin sv := h
theorem St.alloc (h : St W N cl fin sv) (o : Obj) : St (W.alloc o) N cl fin sv := h.keep ((Below.refl _ _).alloc (Nat.le_refl _) o) h.lt
theorem St.far (h : St W N cl fin sv) {p : Addr} (hp : N + 1 < p.block) (u : Value) : St (W.setCell p u) N cl fin sv :=
  ⟨(Below.heap_setCell W p u N (by omega)).trans h.1, (Below.heap_setCell W p u (N + 1) (by omega)).trans h.2⟩
theorem St.facts (h : St W N cl fin sv) : W.cell? ⟨N, 0, none⟩ = some (.int .i64 cl) ∧ W.cell? ⟨N, 1, none⟩ = some (.bool fin) ∧ W.cell? ⟨N, 2, none⟩ = some sv ∧
    W.cell? ⟨N + 1, 0, none⟩ = some (.int .i64 0) ∧ W.cell? ⟨N + 1, 1, none⟩ = some (.bool false) ∧ W.cell? ⟨N + 1, 2, none⟩ = some (.slice none 0 0) ∧
    (∀ k, W.frozen? ⟨N, k, none⟩ = false) ∧ (∀ k, W.frozen? ⟨N + 1, k, none⟩ = false) := by
  obtain ⟨h1, h2⟩ := h
  refine ⟨cell_of_row _ _ _ _ _ _ h1, cell_of_row _ _ _ _ _ _ h1, cell_of_row _ _ _ _ _ _ h1, cell_of_row _ _ _ _ _ _ h2, cell_of_row _ _ _ _ _ _ h2, cell_of_row _ _ _ _ _ _ h2, fun k => ?_, fun k => ?_⟩
  · simp [World.frozen?, h1]
  · simp [World.frozen?, h2]
theorem setB {W : World} {g : Nat} {t : TypeId} {cs : Array Value} (h : W.heap[g]? = some (.cells cs t (0, 0))) (i : Nat) (u : Value) : (W.setCell ⟨g, i, none⟩ u).heap[g]? = some (.cells (cs.setIfInBounds i u) t (0, 0)) := by
  simp [World.setCell, Array.getElem?_modify, h]
/-- a table is stored into the first box -/
theorem St.put (h : St W N cl fin sv) (cl' : Int) (fin' : Bool) (sv' : Value) : St (((W.setCell ⟨N, 0, none⟩ (.int .i64 cl')).setCell ⟨N, 1, none⟩ (.bool fin')).setCell ⟨N, 2, none⟩ sv') N cl' fin' sv' := by
  refine ⟨?_, ?_⟩
  · exact setB (setB (setB h.1 0 _) 1 _) 2 _
  · rw [Below.heap_setCell _ _ _ _ (by simp), Below.heap_setCell _ _ _ _ (by simp), Below.heap_setCell _ _ _ _ (by simp)]
    exact h.2
theorem St.put2 (h : St W N cl fin sv) (sv' : Value) : St (W.setCell ⟨N, 2, none⟩ sv') N cl fin sv' := by
  refine ⟨setB h.1 2 _, ?_⟩
  rw [Below.heap_setCell _ _ _ _ (by simp)]
  exact h.2
theorem St.put0 (h : St W N cl fin sv) (cl' : Int) : St (W.setCell ⟨N, 0, none⟩ (.int .i64 cl')) N cl' fin sv := by
  refine ⟨setB h.1 0 _, ?_⟩
  rw [Below.heap_setCell _ _ _ _ (by simp)]
  exact h.2
theorem St.put1 (h : St W N cl fin sv) (fin' : Bool) : St (W.setCell ⟨N, 1, none⟩ (.bool fin')) N cl fin' sv := by
  refine ⟨setB h.1 1 _, ?_⟩
  rw [Below.heap_setCell _ _ _ _ (by simp)]
  exact h.2
end
theorem box2_below (w : World) (cl : Int) (fin : Bool) (sv : Value) : Below w.heap.size w (box2 w cl fin sv) := ((Below.refl _ _).alloc (Nat.le_refl _) _).alloc (by simp) _

theorem ownBlock_geT {w : World} {base e size n : Nat} {v : Value} {xs : List Value} (h : w.ownsRow base e size v n xs) : ∀ k, v.ownBlock = some k → base ≤ k := by
  intro k hk
  rcases h.2 with ⟨rfl, _⟩ | ⟨g, cap, cur, rfl, hb, _⟩
  · simp [Value.ownBlock] at hk
  · have : g = k := by simpa [Value.ownBlock] using hk
    omega
theorem St.own {W W' : World} {N : Nat} {cl : Int} {fin : Bool} {sv v : Value} {base e size n : Nat} {xs : List Value} (h : St W N cl fin sv) (ho : W.ownsRow base e size v n xs) (hb : W.grownBy W' v.ownBlock) (hB : N + 1 < base) (hB2 : base ≤ W.heap.size) : St W' N cl fin sv :=
  h.keep ((Below.refl base W).grown hb hB2 (ownBlock_geT ho)) hB
/-- a slice literal of one track -/
theorem RdK.one (W : World) (y : T.Trk) : RdK (W.alloc (tobj y)) (.slice (some ⟨W.heap.size, 0, none⟩) 1 1) [y] := by
  have h := World.ownsRow_lit (base := W.heap.size) (e := 40) (size := 7) W #[.int .i64 y.num, .int .i64 y.ses, .int .i64 y.st, .int .i64 y.len, .int .i64 y.nx, .int .i64 y.sta, .int .i64 y.pk] 1 (Nat.le_refl _) (by simp [maxLen]) (by simp)
  exact RdK.ofOwn (l := [y]) h

theorem RdK.drew {w : World} {v : Value} {l : List T.Trk} (h : RdK w v l) : RdK w.drew v l := h
theorem own_drewN {w : World} {base e size n : Nat} {v : Value} {xs : List Value} (h : w.ownsRow base e size v n xs) (k : Nat) : (w.drewN k).ownsRow base e size v n xs := h

/-- what an operation gives: a table and a code -/
structure Res where
  cl : Int
  fin : Bool
  l : List T.Trk
  code : Int
def Res.bad (c : Int) : Res := ⟨0, false, [], c⟩
def OpP (r : Res) (w : World) (e : Ending) (w' : World) : Prop :=
  ∃ v, e = .returned (.tuple #[tval r.cl r.fin v, .int .i64 r.code]) ∧ RdK w' v r.l ∧ Below w.heap.size w w'
end Go.Proofs.Ytiioojlihapdaaa
